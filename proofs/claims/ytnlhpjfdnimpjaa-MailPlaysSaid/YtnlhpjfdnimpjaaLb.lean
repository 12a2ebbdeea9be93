import Derived.Test.YtnlhpjfdnimpjaaLa
import Derived.KernelRfl
namespace Go.Proofs.Ytnlhpjfdnimpjaa
open Vc Go
set_option linter.unusedVariables false
set_option linter.unusedSimpArgs false
set_option maxRecDepth 100000
theorem fl_app {k : Int} {x y : List It} : fl k (x ++ y) = fl k x ++ fl k y := by unfold fl; rw [List.filter_append, List.map_append]
theorem fl_none {k : Int} {x : List It} (h : ∀ a ∈ x, a.c ≠ k) : fl k x = [] := by
  unfold fl
  rw [List.filter_eq_nil_iff.2 (fun a ha => by simpa using h a ha)]; rfl
theorem fl_one {k : Int} {a : It} : fl k [a] = if a.c = k then [a.l] else [] := by
  unfold fl
  by_cases h : a.c = k
  · rw [if_pos h]; simp [List.filter_cons, h]
  · rw [if_neg h]; simp [List.filter_cons, h]
theorem fl_len {k : Int} {x : List It} : (fl k x).length = cntI x k := by unfold fl cntI; rw [List.length_map]
theorem fl_sum {x : List It} (h : ∀ a ∈ x, 0 ≤ a.c ∧ a.c ≤ 2) : (fl 0 x).length + (fl 1 x).length + (fl 2 x).length = x.length := by
  induction x with
  | nil => rfl
  | cons a x ih =>
    have := h a (by simp)
    have ih := ih (fun b hb => h b (List.mem_cons_of_mem _ hb))
    rw [show a :: x = [a] ++ x from rfl, fl_app, fl_app, fl_app, fl_one, fl_one, fl_one]
    have : a.c = 0 ∨ a.c = 1 ∨ a.c = 2 := by omega
    rcases this with e | e | e <;> simp only [e] <;> simp <;> omega
theorem fl_split {x : List It} {i : Nat} (h : i < x.length) (k : Int) : fl k x = fl k (x.take i) ++ ((if (gX x i).c = k then [(gX x i).l] else []) ++ fl k (x.drop (i + 1))) := by
  have e : x = x.take i ++ ([gX x i] ++ x.drop (i + 1)) := by
    have h2 : x[i] = gX x i := Option.some.inj ((List.getElem?_eq_getElem h).symm.trans (gX_get h))
    rw [List.singleton_append, ← h2, ← List.drop_eq_getElem_cons h, List.take_append_drop]
  conv => lhs; rw [e]
  rw [fl_app, fl_app, fl_one]
theorem fl_erase {x : List It} {i : Nat} (k : Int) : fl k (x.eraseIdx i) = fl k (x.take i) ++ fl k (x.drop (i + 1)) := by
  rw [List.eraseIdx_eq_take_drop_succ, fl_app]
theorem mem_gX {x : List It} {a : It} (h : a ∈ x) : ∃ j, j < x.length ∧ gX x j = a := by
  obtain ⟨j, hj, e⟩ := List.getElem_of_mem h
  refine ⟨j, hj, ?_⟩
  have := gX_get hj
  rw [List.getElem?_eq_getElem hj, e] at this
  exact (Option.some.inj this).symm
theorem gX_mem {x : List It} {i : Nat} (h : i < x.length) : gX x i ∈ x := List.mem_of_getElem? (gX_get h)
theorem besI_min (x : List It) : ∀ i, 0 < i → ∃ t : Nat, besI x i = t ∧ t < i ∧ (∀ j, j < i → (gX x t).c ≤ (gX x j).c) ∧ ∀ j, j < t → (gX x t).c < (gX x j).c
  | 0, h => by omega
  | i + 1, _ => by
    by_cases h0 : i = 0
    · subst h0
      refine ⟨0, by simp [besI], by omega, fun j hj => ?_, fun j hj => by omega⟩
      rw [show j = 0 by omega]; exact Int.le_refl _
    · obtain ⟨t, e, ht, h1, h2⟩ := besI_min x i (by omega)
      unfold besI
      by_cases hc : (gX x i).c < (gX x t).c
      · refine ⟨i, by rw [e, Int.toNat_natCast, if_pos (.inr hc)], by omega, fun j hj => ?_, fun j hj => ?_⟩
        · by_cases hji : j = i
          · subst hji; exact Int.le_refl _
          · have := h1 j (by omega); omega
        · have := h1 j hj; omega
      · refine ⟨t, by rw [e, Int.toNat_natCast, if_neg (by omega)], by omega, fun j hj => ?_, h2⟩
        by_cases hji : j = i
        · subst hji; omega
        · exact h1 j (by omega)
theorem bes_nxt {x : List It} (hc : ∀ a ∈ x, 0 ≤ a.c ∧ a.c ≤ 2) (hx : 0 < x.length) : ∃ t : Nat, besI x x.length = t ∧ t < x.length ∧ nxt (fl 0 x) (fl 1 x) (fl 2 x) = ((gX x t).l, (gX x t).c, true, fl 0 (x.eraseIdx t), fl 1 (x.eraseIdx t), fl 2 (x.eraseIdx t)) := by
  obtain ⟨t, e, ht, h1, h2⟩ := besI_min x x.length hx
  refine ⟨t, e, ht, ?_⟩
  have hg := hc _ (gX_mem ht)
  have lo : ∀ k, k < (gX x t).c → ∀ y, (∀ a ∈ y, a ∈ x) → fl k y = [] := fun k hk y hy => fl_none fun a ha q => by
    obtain ⟨j, hj, rfl⟩ := mem_gX (hy a ha)
    have := h1 j hj; omega
  have pre : fl (gX x t).c (x.take t) = [] := fl_none fun a ha q => by
    obtain ⟨j, hj, he⟩ := List.getElem_of_mem ha
    rw [List.length_take] at hj
    rw [List.getElem_take] at he
    have h3 := gX_get (l := x) (i := j) (by omega)
    rw [List.getElem?_eq_getElem (by omega), he] at h3
    have h4 := Option.some.inj h3
    have := h2 j (by omega)
    rw [← h4] at this; omega
  have other : ∀ k, k ≠ (gX x t).c → fl k x = fl k (x.eraseIdx t) := fun k hk => by
    rw [fl_split ht k, fl_erase, if_neg (fun q => hk q.symm), List.nil_append]
  have same : fl (gX x t).c x = (gX x t).l :: fl (gX x t).c (x.eraseIdx t) := by
    rw [fl_split ht, fl_erase, if_pos rfl, pre]; rfl
  have mem : ∀ a ∈ x.eraseIdx t, a ∈ x := fun a ha => List.mem_of_mem_eraseIdx ha
  have : (gX x t).c = 0 ∨ (gX x t).c = 1 ∨ (gX x t).c = 2 := by omega
  rcases this with q | q | q
  · rw [q] at same
    rw [same, other 1 (by omega), other 2 (by omega), q]; rfl
  · rw [q] at same
    rw [same, lo 0 (by omega) x (fun a h => h), other 2 (by omega), lo 0 (by omega) _ mem, q]; rfl
  · rw [q] at same
    rw [same, lo 0 (by omega) x (fun a h => h), lo 1 (by omega) x (fun a h => h), lo 0 (by omega) _ mem, lo 1 (by omega) _ mem, q]; rfl
theorem ps_ok {x : List It} {c r : Int} (hr : 1 ≤ r) (h0 : 0 ≤ c) (h2 : c ≤ 2) : psB c r.toNat (fl 0 x) (fl 1 x) (fl 2 x) = decide ((cntI x c : Int) < r) := by
  unfold psB
  rw [fl_len, fl_len, fl_len]
  have : c = 0 ∨ c = 1 ∨ c = 2 := by omega
  rcases this with e | e | e <;> subst e <;> exact decide_eq_decide.2 (by omega)
theorem ps_out {x : List It} {c : Int} {r : Nat} (h : ¬ (0 ≤ c ∧ c ≤ 2)) : psB c r (fl 0 x) (fl 1 x) (fl 2 x) = false := decide_eq_false (by omega)
theorem psL_item {x : List It} {k c r : Int} {l : Lt} (h : (cntI x c : Int) < r) : psL k c r.toNat (fl k x) l = fl k (x ++ [⟨c, l⟩]) := by
  unfold psL
  rw [fl_app, fl_one, fl_len]
  by_cases e : c = k
  · subst e; rw [if_pos ⟨rfl, by omega⟩, if_pos rfl]
  · rw [if_neg (fun q => e q.1), if_neg e, List.append_nil]
theorem psL_no {x : List It} {k c r : Int} {l : Lt} (h : ¬ (cntI x c : Int) < r) : psL k c r.toNat (fl k x) l = fl k x := by
  unfold psL
  rw [fl_len]
  by_cases e : c = k
  · subst e; rw [if_neg (fun q => by omega)]
  · rw [if_neg (fun q => e q.1)]
theorem psL_out {x : List It} {k c : Int} {r : Nat} {l : Lt} (h : c ≠ k) : psL k c r (fl k x) l = fl k x := by
  unfold psL; rw [if_neg (fun q => h q.1)]
theorem gA_get {l : List At5} {i : Nat} (h : i < l.length) : l[i]? = some (gA l i) := by
  unfold gA; rw [List.getD_eq_getElem?_getD, List.getElem?_eq_getElem h]; rfl
theorem elA {l : List At5} {i : Nat} {Q : Int → Int → Int → Int → List (List D) → Prop} (hi : i < l.length) (q : Q (gA l i).d (gA l i).c (gA l i).l.f (gA l i).l.t (ints .u8 (gA l i).l.b)) : NonN (i : Int) ∧ ∃ e, (l.map acD)[(i : Int).toNat]? = some e ∧ ∃ n, e[0]? = some (D.val (.int .i64 n)) ∧ ∃ m, e[1]? = some (D.val (.int .i64 m)) ∧ ∃ k, e[2]? = some (D.val (.int .i64 k)) ∧ ∃ j, e[3]? = some (D.val (.int .i64 j)) ∧ ∃ s, e[4]? = some (D.sl 1 s) ∧ Q n m k j s :=
  ⟨by unfold NonN; omega, _, by rw [Int.toNat_natCast, List.getElem?_map, gA_get hi]; rfl, _, rfl, _, rfl, _, rfl, _, rfl, _, rfl, q⟩
theorem tkI {x : List It} : List.drop 0 (List.take x.length (List.map itD x)) = List.map itD x := by
  rw [List.drop_zero, List.take_of_length_le (by rw [List.length_map]; exact Nat.le_refl _)]
theorem itAp {x : List It} {c f t : Int} {b : List Int} : List.take x.length (List.map itD x) ++ [[D.val (Value.int IntKind.i64 c), D.val (Value.int IntKind.i64 f), D.val (Value.int IntKind.i64 t), D.sl 1 (ints .u8 b)]] = List.map itD (x ++ [⟨c, ⟨f, t, b⟩⟩]) := by
  rw [List.take_of_length_le (by rw [List.length_map]; exact Nat.le_refl _), List.map_append]; rfl
theorem lawPlays (r : Int) (l : List At5) : XL [] 0 r l 5 [.int .i64 r, .dat (.sl 5 (l.map acD))] [] KT := by
  refine vcPlays r l ?_
  simp only [List.length_map]
  refine ⟨fun _ => trivial, fun hl => ⟨fun _ => trivial, fun hr => ⟨fun hn => ⟨fun q => ?_, fun _ => trivial⟩, fun hn => ⟨fun q => ?_, fun _ => ⟨At.mk' (⟨(0, []), ⟨Nat.zero_le _, Nat.le_refl _, fun a ha => (by cases ha), fun a ha => (by cases ha)⟩⟩ : {p : Nat × List It // PlI l p.1 p.2}) rfl, ?_⟩⟩⟩⟩⟩
  · simp only [decide_eq_false_iff_not] at hr
    have : ¬ r ≥ 1 := fun q => hn ⟨by omega, by omega⟩
    rw [decide_eq_false this] at q; cases q
  · have := hn.lo
    rw [decide_eq_true (by omega)] at q; cases q
  simp only [decide_eq_false_iff_not] at hl hr
  have hr1 := hn.lo
  rintro ⟨⟨i, x⟩, hI⟩
  obtain ⟨hle, hfew, hcls, hsm⟩ := hI
  simp only at hle hfew hcls hsm
  simp only [decide_eq_true_eq, decide_eq_false_iff_not]
  refine ⟨fun h1 => ?_, fun _ => trivial⟩
  have hi : i < l.length := by omega
  have hxs : x.length ≤ 100 := by omega
  refine elA hi ⟨fun _ => trivial, fun h2 => ⟨?_, ?_⟩⟩
  · rw [ints_len] at h2
    have key : ∀ (x' : List It) (n : Nat) (L0 L1 L2 : List Lt), n = x'.length → PlC l i x' → L0 = fl 0 x' → L1 = fl 1 x' → L2 = fl 2 x' → At (plC r l i) ([V.int IntKind.i64 r, V.dat (D.sl 5 (List.map acD l)), V.ptr 0 0, V.sl 1 0 n, V.int IntKind.i64 (i : Int), V.ptr 2 0],
        [KO.cells [V.ch 3, V.ch 4, V.ch 5], KO.row 41 4 (List.map itD x'), KO.cells [V.int IntKind.i64 (gA l i).d, V.int IntKind.i64 (gA l i).c, V.int IntKind.i64 (gA l i).l.f, V.int IntKind.i64 (gA l i).l.t, V.dat (D.sl 1 (ints .u8 (gA l i).l.b))], KO.ch true 3 r.toNat (List.map ltD L0), KO.ch true 3 r.toNat (List.map ltD L1), KO.ch true 3 r.toNat (List.map ltD L2)]) := by
      rintro x' n L0 L1 L2 rfl hx' rfl rfl rfl
      exact At.mk' (⟨x', hx'⟩ : {x : List It // PlC l i x}) rfl
    have same : PlC l i x := ⟨hi, by omega, hcls, hsm⟩
    refine ⟨fun d0 => ⟨fun c0 => ⟨fun c2 => ⟨⟨Nat.le_refl _, trivial⟩, x, tkI, by omega, trivial, (gA l i).l.b, r.toNat, fl 0 x, fl 1 x, fl 2 x, rfl, by omega, rfl, rfl, rfl, rfl, rfl, rfl, ?_⟩, fun c2 => ?_⟩, fun c0 => ?_⟩, fun d0 => ⟨fun d1 => ⟨⟨Nat.le_refl _, trivial⟩, x, tkI, by omega, trivial, fl 0 x, fl 1 x, fl 2 x, rfl, rfl, rfl, ?_⟩, fun d1 => ⟨fun d2 => ⟨fl 0 x, fl 1 x, fl 2 x, rfl, rfl, rfl, ?_⟩, fun d2 => key x _ _ _ _ rfl same rfl rfl rfl⟩⟩⟩
    · rw [ps_ok hr1 c0 c2]
      refine ⟨fun q => by simp at q, fun _ => ⟨fun q => ⟨Nat.le_refl _, Nat.le_refl _, by omega, ?_⟩, fun q => ?_⟩⟩
      · rw [itAp]
        exact key (x ++ [⟨(gA l i).c, ⟨(gA l i).l.f, (gA l i).l.t, (gA l i).l.b⟩⟩]) (x.length + 1) _ _ _ (by simp) ⟨hi, by simp; omega, fun a ha => (by
          rcases List.mem_append.1 ha with ha | ha
          · exact hcls a ha
          · simp at ha; subst ha; exact ⟨c0, c2⟩), fun a ha => (by
          rcases List.mem_append.1 ha with ha | ha
          · exact hsm a ha
          · simp at ha; subst ha; simp only; omega)⟩ (psL_item q) (psL_item q) (psL_item q)
      · exact key x _ _ _ _ rfl same (psL_no q) (psL_no q) (psL_no q)
    · refine ⟨(gA l i).l.b, r.toNat, fl 0 x, fl 1 x, fl 2 x, rfl, by omega, rfl, rfl, rfl, rfl, rfl, rfl, ?_⟩
      rw [ps_out (by omega)]
      exact ⟨fun q => by simp at q, fun _ => key x _ _ _ _ rfl same (psL_out (by omega)) (psL_out (by omega)) (psL_out (by omega))⟩
    · refine ⟨(gA l i).l.b, r.toNat, fl 0 x, fl 1 x, fl 2 x, rfl, by omega, rfl, rfl, rfl, rfl, rfl, rfl, ?_⟩
      rw [ps_out (by omega)]
      exact ⟨fun q => by simp at q, fun _ => key x _ _ _ _ rfl same (psL_out (by omega)) (psL_out (by omega)) (psL_out (by omega))⟩
    · by_cases hx : x.length = 0
      · obtain rfl := List.length_eq_zero_iff.1 hx
        refine ⟨fun q => by revert q; decide, fun _ => ⟨fun q => (by cases q), fun _ => ⟨fun _ => ⟨fun q => (by revert q; decide), fun _ => ⟨[], [], rfl, rfl, Nat.zero_le _, fun q => (by revert q; decide), fun _ => ⟨fun q => (by cases q), fun _ => key [] _ _ _ _ rfl same rfl rfl rfl⟩⟩⟩, fun q => (by cases q)⟩⟩⟩
      · obtain ⟨t, e, ht, en⟩ := bes_nxt hcls (by omega)
        have hg := hsm _ (gX_mem ht)
        rw [en, e]
        have er : PlC l i (x.eraseIdx t) := ⟨hi, by rw [List.length_eraseIdx_of_lt ht]; omega, fun a ha => hcls a (List.mem_of_mem_eraseIdx ha), fun a ha => hsm a (List.mem_of_mem_eraseIdx ha)⟩
        refine ⟨fun q => ?_, fun _ => ⟨fun _ => ⟨⟨by omega, by omega⟩, _, by rw [Nat.zero_add, Int.toNat_natCast]; exact gX_row ht, _, rfl, fun q => (by simp at q), fun _ => ⟨⟨by omega, by omega⟩, _, by rw [Nat.zero_add, Int.toNat_natCast]; exact gX_row ht, _, rfl, _, rfl, _, rfl, (gX x t).l.b, (gX x t).l.b, rfl, rfl, Nat.le_eq ▸ (show (gX x t).l.b.length ≤ 1000000 by omega), fun q => (by simp at q), fun _ => ⟨fun q => (by cases q), fun _ => ⟨fun _ => ⟨Nat.le_refl _, x, t, tkI, rfl, ht, by omega, ?_⟩, fun q => (by cases q)⟩⟩⟩⟩, fun q => (by cases q)⟩⟩
        · rw [decide_eq_true (by omega)] at q; cases q
        · exact key (x.eraseIdx t) _ _ _ _ (by rw [List.length_eraseIdx_of_lt ht]) er rfl rfl rfl
    · have hs := fl_sum hcls
      refine ⟨by omega, fun q => ?_, fun _ => ?_⟩
      · rw [hs] at q; simp at q
      · exact key [] 0 [] [] [] rfl ⟨hi, by simp, fun a ha => (by cases ha), fun a ha => (by cases ha)⟩ rfl rfl rfl
  · rintro ⟨y, hy⟩
    have hyl := hy.few
    refine ⟨⟨rfl⟩, ⟨Nat.le_refl _, trivial⟩, y, tkI, by omega, trivial, ?_⟩
    have e : (if (gA l i).c = 0 then ((fl 0 y).length : Int) else if (gA l i).c = 1 then ((fl 1 y).length : Int) else if (gA l i).c = 2 then ((fl 2 y).length : Int) else 0) = (cntI y (gA l i).c : Int) := by
      split
      · rename_i q; rw [q, fl_len]
      · split
        · rename_i q; rw [q, fl_len]
        · split
          · rename_i q; rw [q, fl_len]
          · have : cntI y (gA l i).c = 0 := by
              unfold cntI
              rw [List.filter_eq_nil_iff.2 (fun a ha => ?_)]; rfl
              have := hy.cls a ha
              simp only [beq_iff_eq]; omega
            rw [this]; rfl
    rw [e, w64 (by omega) (by omega), show (i : Int) + 1 = ((i + 1 : Nat) : Int) by omega]
    refine ⟨fun q => by simp at q, fun _ => ?_⟩
    exact Nx.mk' (⟨(i + 1, y), ⟨by simp only; omega, by simp only; omega, hy.cls, hy.sm⟩⟩ : {p : Nat × List It // PlI l p.1 p.2}) rfl (by simp only; omega)
theorem conf_act {x : List D} (h : Conf [.int .i64, .int .i64, .int .i64, .int .i64, .sl [.int .u8]] x) : ∃ a : At5, x = acD a ∧ True := by
  simp only [Conf, ConfD] at h
  obtain ⟨_, _, rfl, ⟨a, rfl, _⟩, _, _, rfl, ⟨b, rfl, _⟩, _, _, rfl, ⟨c, rfl, _⟩, _, _, rfl, ⟨d, rfl, _⟩, _, _, rfl, ⟨e, rfl, _, he⟩, rfl⟩ := h
  obtain ⟨zs, rfl, _⟩ := conf_ints he
  exact ⟨⟨a, b, ⟨c, d, zs⟩⟩, rfl, trivial⟩
end Go.Proofs.Ytnlhpjfdnimpjaa
