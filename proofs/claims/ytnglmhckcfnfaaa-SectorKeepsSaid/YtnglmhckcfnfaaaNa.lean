import Derived.Test.YtnglmhckcfnfaaaMa
namespace Go.Proofs.Ytnglmhckcfnfaaa
open Vc Go
set_option linter.unusedVariables false
set_option linter.unusedSimpArgs false
set_option maxRecDepth 100000
theorem brn_neg {x : List (List Int)} {w : List W3} {f : Int} (h : f < 0) : brn ⟨x, w, f, false⟩ = (false, ⟨x, w, f, false⟩) := by
  unfold brn
  rw [if_neg (by simp), if_neg (by show ¬ f = 0; omega), if_neg (by show ¬ 0 < f; omega)]
theorem brn_zero {x : List (List Int)} {w : List W3} : brn ⟨x, w, 0, false⟩ = (true, ⟨x, w, 0, true⟩) := by
  unfold brn
  rw [if_neg (by simp), if_pos rfl]
theorem brn_pos {x : List (List Int)} {w : List W3} {f : Int} (h : 0 < f) : brn ⟨x, w, f, false⟩ = (false, ⟨x, w, f - 1, false⟩) := by
  unfold brn
  rw [if_neg (by simp), if_neg (by show ¬ f = 0; omega), if_pos (by exact h)]
theorem wrt_do {d d' : Dev} {i : Int} {b : List Int} (hb : brn d = (false, d')) (hW : WrI d.x i b) : wrtF d i b = (0, { d' with x := d.x.set i.toNat b, w := d.w ++ [⟨i, gS d.x i, b⟩] }) := by
  unfold wrtF
  rw [hb, if_neg (by simp), if_pos hW]
theorem wrt_no {d d' : Dev} {i : Int} {b : List Int} (hb : brn d = (true, d')) : wrtF d i b = (16, d') := by
  unfold wrtF
  rw [hb, if_pos rfl]
theorem fls_do {d d' : Dev} (hb : brn d = (false, d')) : flsF d = (0, { d' with w := [] }) := by
  unfold flsF
  rw [hb, if_neg (by simp)]
theorem drop_i {b : List Int} {n : Nat} : List.drop n (ints .u8 b) = ints .u8 (b.drop n) := ints_drop
theorem lawKeeps (a b at' fuse keep : Int) (ha : 0 ≤ at' ∧ at' < 256) (hf : 0 ≤ fuse ∧ fuse < 256) : XL [] 0 3 [.int .u8 a, .int .u8 b, .int .u8 at', .int .u8 fuse, .int .i64 keep] [] KT := by
  have wi : (IntKind.i64.wrap at').tmod 4 = ((at'.toNat % 4 : Nat) : Int) := by
    rw [w64 (n := at') (by omega) (by omega), Int.tmod_eq_emod_of_nonneg (by omega)]; omega
  have wf : (IntKind.i64.wrap fuse).tmod 3 = ((fuse.toNat % 3 : Nat) : Int) := by
    rw [w64 (n := fuse) (by omega) (by omega), Int.tmod_eq_emod_of_nonneg (by omega)]; omega
  apply vcKeeps a b at' fuse keep
  have hi4 : at'.toNat % 4 < 4 := Nat.mod_lt _ (by omega)
  have hf3 : fuse.toNat % 3 < 3 := Nat.mod_lt _ (by omega)
  generalize at'.toNat % 4 = j at *
  generalize fuse.toNat % 3 = f at *
  rw [wi, wf]
  have hd0 := new_ok (n := 4) (by omega)
  have e1 := first_wr (n := 4) (i := (j : Int)) (b := fulL a) (by omega) (by omega) (fulL_len a)
  have hd1 := (wrt_ok (i := (j : Int)) (b := fulL a) hd0 (by simp)).1
  refine ⟨fun q => q ⟨by omega, by omega⟩, fun _ => ⟨⟨Nat.le_refl _, trivial⟩, ⟨zer 4, [], -1, false⟩, fulL a, din _ hd0, rfl, by simp, ⟨⟨plain_secs⟩, ⟨plain_wts⟩⟩, ?_⟩⟩
  have hz4 : (zer 4).length = 4 := rfl
  have hx1 : ((zer 4).set (j : Int).toNat (fulL a)).length = 4 := by rw [List.length_set]; rfl
  have hg1 : gS ((zer 4).set (j : Int).toNat (fulL a)) (j : Int) = fulL a := gS_eq (by omega) (by rw [hz4]; omega)
  have hs1 : Sec64 ((zer 4).set (j : Int).toNat (fulL a)) := sec_set (zer_sec (by omega)) (fulL_len a)
  rw [e1] at hd1 ⊢
  generalize (zer 4).set (j : Int).toNat (fulL a) = x1 at *
  generalize gS (zer 4) (j : Int) = g0 at *
  have e2 := fls_do (brn_neg (x := x1) (w := [⟨(j : Int), g0, fulL a⟩]) (f := -1) (by omega))
  have hd2 := (fls_ok hd1).1
  refine ⟨fun q => (by cases q), fun _ => ⟨_, din _ hd1, ?_⟩⟩
  rw [e2] at hd2 ⊢
  have hd3 : DOk (fuseF ⟨x1, [], -1, false⟩ (f : Int)) := fuse_ok hd2 (by unfold inI; omega)
  have e3 : fuseF ⟨x1, [], -1, false⟩ (f : Int) = ⟨x1, [], (f : Int), false⟩ := by
    unfold fuseF; rw [if_neg (by omega)]
  refine ⟨fun q => (by cases q), fun _ => ⟨_, din _ hd2, ⟨Nat.le_refl _, trivial⟩, fuseF ⟨x1, [], -1, false⟩ (f : Int), fulL b, din _ hd3, rfl, by simp [fuseF], ⟨⟨plain_secs⟩, ⟨plain_wts⟩⟩, ⟨Nat.le_refl _, trivial⟩, ?_⟩⟩
  have hd4 := (wrt_ok (i := (j : Int)) (b := fulL b) hd3 (by simp [fuseF])).1
  have hd5 := (boot_ok (keeps := [keep]) hd4).1
  refine ⟨_, [keep], din _ hd4, rfl, ⟨⟨plain_secs⟩, ⟨fun d hd => (by cases hd)⟩⟩, _, din _ hd5, ?_⟩
  have hn64 := kN_le [keep] 0
  have hn : (kN [keep] 0 : Int) = (if (if 64 < keep then 64 else keep) > 0 then if 64 < keep then 64 else keep else 0) := by
    have e : kN [keep] 0 = (min (max keep 0) 64).toNat := rfl
    rw [e]
    (repeat' split) <;> omega
  rw [← hn, Int.toNat_natCast]
  generalize hkn : kN [keep] 0 = n at *
  have hla : (fulL a).length = 64 := fulL_len a
  have hlb : (fulL b).length = 64 := fulL_len b
  rw [e3]
  by_cases hf0 : f = 0
  · subst hf0
    have e4 : wrtF ⟨x1, [], ((0 : Nat) : Int), false⟩ (j : Int) (fulL b) = (16, ⟨x1, [], 0, true⟩) := wrt_no brn_zero
    rw [e4]
    have e5 : rdF (bootF ⟨x1, [], 0, true⟩ [keep]) (j : Int) = (fulL a, 0) := by
      rw [rd_in rfl (by omega) (by show (j : Int) < (x1.length : Int); omega)]
      show (gS x1 (j : Int), 0) = _
      rw [hg1]
    rw [e5]
    dsimp only
    refine ⟨fun q => (by cases q), fun _ => ⟨fun q => ?_, fun _ => ⟨fun _ => ?_, fun q => (by cases q)⟩⟩⟩
    · rw [Nat.sub_zero, hla] at q; cases q
    rw [Nat.sub_zero, hla]
    refine ⟨trivial, nonNat 0, Nat.le_refl _, by omega, trivial, nonNat 0, Nat.le_refl _, by omega, ⟨Nat.zero_le _, by omega, trivial⟩, [], [], rfl, rfl, Nat.le_of_ble_eq_true rfl, trivial, fun _ => ⟨nonNat 0, trivial, by omega, Nat.le_refl _, nonNat 0, trivial, by omega, Nat.le_refl _, ⟨by rw [ints_len]; omega, Nat.le_refl _, trivial⟩, fulL a, fulL a, ?_, rfl, Nat.le_eq ▸ (show (fulL a).length ≤ 1000000 by omega), trivial, fun _ => (by first | exact trivial | exact rfl), fun q => (by simp at q)⟩, fun q => (by simp at q)⟩
    rw [List.drop_zero, List.take_of_length_le (by rw [ints_len]; omega)]
  · have e4 : wrtF ⟨x1, [], (f : Int), false⟩ (j : Int) (fulL b) = (0, ⟨x1.set (j : Int).toNat (fulL b), [⟨(j : Int), fulL a, fulL b⟩], (f : Int) - 1, false⟩) := by
      rw [wrt_do (brn_pos (by omega)) ⟨by omega, by show (j : Int) < (x1.length : Int); omega, hlb⟩]
      show (0, (⟨x1.set (j : Int).toNat (fulL b), [⟨(j : Int), gS x1 (j : Int), fulL b⟩], (f : Int) - 1, false⟩ : Dev)) = _
      rw [hg1]
    rw [e4]
    have e5 : rdF (bootF ⟨x1.set (j : Int).toNat (fulL b), [⟨(j : Int), fulL a, fulL b⟩], (f : Int) - 1, false⟩ [keep]) (j : Int) = ((fulL b).take n ++ (fulL a).drop n, 0) := by
      have h1 : (x1.set (j : Int).toNat (fulL b)).length = 4 := by rw [List.length_set]; exact hx1
      have h2 : ((x1.set (j : Int).toNat (fulL b)).set (j : Int).toNat (fulL a)).length = 4 := by rw [List.length_set]; exact h1
      have hb : (bootF ⟨x1.set (j : Int).toNat (fulL b), [⟨(j : Int), fulL a, fulL b⟩], (f : Int) - 1, false⟩ [keep]).x = ((x1.set (j : Int).toNat (fulL b)).set (j : Int).toNat (fulL a)).set (j : Int).toNat ((fulL b).take (kN [keep] 0) ++ (gS ((x1.set (j : Int).toNat (fulL b)).set (j : Int).toNat (fulL a)) (j : Int)).drop (kN [keep] 0)) := rfl
      rw [rd_in rfl (by omega) (by rw [hb, List.length_set, h2]; omega), hb, gS_eq (by omega) (by rw [h2]; omega), gS_eq (by omega) (by rw [h1]; omega), hkn]
    rw [e5]
    dsimp only
    have hlt : ((fulL b).take n).length = n := by rw [List.length_take]; omega
    have hp : ((fulL b).take n ++ (fulL a).drop n).length = 64 := by rw [List.length_append, hlt, List.length_drop]; omega
    refine ⟨fun q => (by cases q), fun _ => ⟨fun q => ?_, fun _ => ⟨fun q => (by cases q), fun _ => ?_⟩⟩⟩
    · rw [Nat.sub_zero, hp] at q; cases q
    rw [Nat.sub_zero, hp, Nat.zero_add]
    refine ⟨trivial, nonNat n, Nat.zero_le _, hn64, trivial, nonNat n, Nat.zero_le _, hn64, ⟨by rw [ints_len]; omega, by omega, trivial⟩, (fulL b).take n, (fulL b).take n, ?_, ?_, Nat.le_eq ▸ (show ((fulL b).take n).length ≤ 1000000 by omega), trivial, fun _ => ⟨nonNat n, trivial, hn64, Nat.le_refl _, nonNat n, trivial, hn64, Nat.le_refl _, ⟨by rw [ints_len]; omega, Nat.le_refl _, trivial⟩, (fulL a).drop n, (fulL a).drop n, ?_, ?_, Nat.le_eq ▸ (show ((fulL a).drop n).length ≤ 1000000 by rw [List.length_drop]; omega), trivial, fun _ => (by first | exact trivial | exact rfl), fun q => (by simp at q)⟩, fun q => (by simp at q)⟩
    · rw [List.drop_zero, ints_take, List.take_left' hlt]
    · show List.drop 0 (List.take n (ints .u8 (fulL b))) = _
      rw [List.drop_zero, ints_take]
    · rw [List.take_of_length_le (by rw [ints_len]; omega), ints_drop, List.drop_left' hlt]
    · show List.drop n (ints .u8 (fulL a)) = _
      rw [ints_drop]
theorem gA_get {l : List A5} {k : Nat} (h : k < l.length) : l[k]? = some (l.getD k ⟨0, 0, [], 0, []⟩) := by
  rw [List.getD_eq_getElem?_getD, List.getElem?_eq_getElem h]; rfl
theorem lawOthers (l : List A5) (at' : Int) (ha : 0 ≤ at' ∧ at' < 256) (hl : ∀ x ∈ l, inI x.i) : XL l ((at'.toNat % 6 : Nat) : Int) 4 [.dat (.sl 5 (l.map acD)), .int .u8 at'] [] KT := by
  have wi : (IntKind.i64.wrap at').tmod 6 = ((at'.toNat % 6 : Nat) : Int) := by
    rw [w64 (n := at') (by omega) (by omega), Int.tmod_eq_emod_of_nonneg (by omega)]; omega
  apply vcOthers l at' ((at'.toNat % 6 : Nat) : Int)
  have hi6 : at'.toNat % 6 < 6 := Nat.mod_lt _ (by omega)
  generalize at'.toNat % 6 = j at *
  rw [wi, List.length_map]
  have hd0 := new_ok (n := 6) (by omega)
  have e1 := first_wr (n := 6) (i := (j : Int)) (b := fulL 7) (by omega) (by omega) (fulL_len 7)
  have hd1 := (wrt_ok (i := (j : Int)) (b := fulL 7) hd0 (by simp)).1
  refine ⟨fun _ => (by first | exact trivial | exact rfl), fun q1 => ⟨fun q => q ⟨by omega, by omega⟩, fun _ => ⟨⟨Nat.le_refl _, trivial⟩, ⟨zer 6, [], -1, false⟩, fulL 7, din _ hd0, rfl, by simp, ⟨⟨plain_secs⟩, ⟨plain_wts⟩⟩, ?_⟩⟩⟩
  have hl30 : l.length ≤ 30 := by simp only [gt_iff_lt, decide_eq_false_iff_not] at q1; omega
  have hx1 : ((zer 6).set (j : Int).toNat (fulL 7)).length = 6 := by rw [List.length_set]; rfl
  have hg1 : gS ((zer 6).set (j : Int).toNat (fulL 7)) (j : Int) = fulL 7 := gS_eq (by omega) (by show (j : Int) < ((zer 6).length : Int); rw [show (zer 6).length = 6 from rfl]; omega)
  rw [e1] at hd1 ⊢
  generalize (zer 6).set (j : Int).toNat (fulL 7) = x1 at *
  generalize gS (zer 6) (j : Int) = g0 at *
  have e2 := fls_do (brn_neg (x := x1) (w := [⟨(j : Int), g0, fulL 7⟩]) (f := -1) (by omega))
  have hd2 := (fls_ok hd1).1
  refine ⟨fun q => (by cases q), fun _ => ⟨_, din _ hd1, ?_⟩⟩
  rw [e2] at hd2 ⊢
  refine ⟨fun q => (by cases q), fun _ => ⟨?_, ?_⟩⟩
  · exact At.mk' (⟨(0, ⟨x1, [], -1, false⟩), ⟨Nat.zero_le _, hd2, hx1, hg1, fun p hp => (by cases hp), Nat.zero_le _⟩⟩ : {q : Nat × Dev // OtI l.length (j : Int) q.1 q.2}) rfl
  rintro ⟨⟨k, d⟩, hk, hok, hx, hs, hw, hwl⟩
  dsimp only at hk hok hx hs hw hwl ⊢
  have hj0 : (0 : Int) ≤ (j : Int) := by omega
  refine ⟨fun hc => ?_, fun hc => ?_⟩
  · simp only [decide_eq_true_eq] at hc
    have hk2 : k < l.length := by omega
    have hge : (l.map acD)[((k : Nat) : Int).toNat]? = some (acD (l.getD k ⟨0, 0, [], 0, []⟩)) := by rw [Int.toNat_natCast, List.getElem?_map, gA_get hk2]; rfl
    have hai := hl _ (List.mem_of_getElem? (gA_get hk2))
    generalize l.getD k ⟨0, 0, [], 0, []⟩ = y at *
    rw [w64 (n := (k : Int) + 1) (by omega) (by omega)]
    have nx : ∀ d' : Dev, DOk d' → d'.x.length = 6 → gS d'.x (j : Int) = fulL 7 → (∀ p ∈ d'.w, p.at' ≠ (j : Int)) → d'.w.length ≤ k + 1 → Nx (otLI l (j : Int)) ⟨(k, d), ⟨hk, hok, hx, hs, hw, hwl⟩⟩ ([.dat (.sl 5 (l.map acD)), .ptr 0 0, .int .i64 (j : Int), .int .i64 ((k : Int) + 1)], devA d') := fun d' t1 t2 t3 t4 t5 =>
      Nx.mk' (⟨(k + 1, d'), ⟨by dsimp only; omega, t1, t2, t3, t4, t5⟩⟩ : {q : Nat × Dev // OtI l.length (j : Int) q.1 q.2}) rfl (by dsimp only; omega)
    have same := nx d hok hx hs hw (by omega)
    refine ⟨nonNat k, _, hge, y.d, rfl, fun _ => ⟨nonNat k, _, hge, y.i, rfl, fun hne => ?_, fun _ => same⟩, fun _ => ⟨fun _ => ⟨d, din d hok, ?_⟩, fun _ => ⟨fun _ => ⟨nonNat k, _, hge, y.i, rfl, d, din d hok, nx _ (fuse_ok hok hai) hx hs hw (by show d.w.length ≤ _; omega)⟩, fun _ => ⟨fun _ => ⟨nonNat k, _, hge, ints .i64 y.w, rfl, d, y.w, din d hok, rfl, ?_⟩, fun _ => same⟩⟩⟩⟩
    · have hne' : (j : Int) ≠ y.i := fun e => by simp [e] at hne
      obtain ⟨w1, w2, w3⟩ := wrt_ok (i := y.i) (b := fulL y.c) hok (by omega)
      obtain ⟨w4, w5⟩ := wrt_ne (i := y.i) (b := fulL y.c) hj0 hne' hw
      exact ⟨nonNat k, _, hge, y.i, rfl, nonNat k, _, hge, y.c, rfl, ⟨y.i, rfl, ⟨rfl⟩⟩, ⟨Nat.le_refl _, trivial⟩, d, fulL y.c, din d hok, rfl, by omega, ⟨⟨plain_secs⟩, ⟨plain_wts⟩⟩, nx _ w1 (by rw [w2]; exact hx) (by rw [w4]; exact hs) w5 (by omega)⟩
    · obtain ⟨f1, f2, f3⟩ := fls_ok hok
      refine nx _ f1 (by rw [f2]; exact hx) (by rw [f2]; exact hs) (fun p hp => ?_) ?_
      · rcases f3 with q | q
        · rw [q] at hp; exact hw p hp
        · rw [q] at hp; cases hp
      · rcases f3 with q | q
        · rw [q]; omega
        · rw [q]; exact Nat.zero_le _
    · obtain ⟨b1, b2⟩ := boot_ok (keeps := y.w) hok
      exact nx (bootF d y.w) b1 (by rw [b2]; exact hx) (by rw [boot_ne hj0 hok hw]; exact hs) (fun p hp => (by cases hp)) (Nat.zero_le _)
  · obtain ⟨b1, b2⟩ := boot_ok (keeps := []) hok
    have hr : rdF (bootF d []) (j : Int) = (fulL 7, 0) := by
      rw [rd_in rfl hj0 (by rw [b2, hx]; omega), boot_ne hj0 hok hw, hs]
    refine ⟨d, [], din d hok, rfl, _, din _ b1, ?_⟩
    rw [hr]
    refine ⟨fun _ => ⟨⟨by rw [ints_len]; exact Nat.le_refl _, Nat.le_refl _, trivial⟩, fulL 7, fulL 7, ?_, rfl, Nat.le_of_ble_eq_true rfl, trivial, fun _ => (by first | exact trivial | exact rfl), fun q => (by simp at q)⟩, fun q => (by cases q)⟩
    rw [List.drop_zero, List.take_of_length_le (by rw [ints_len]; exact Nat.le_refl _)]
theorem conf_act {x : List D} (h : Conf [.int .i64, .int .i64, .sl [.int .u8], .int .u8, .sl [.int .i64]] x) : ∃ a : A5, x = acD a ∧ inI a.i := by
  simp only [Conf, ConfD] at h
  obtain ⟨_, _, rfl, ⟨a, rfl, _⟩, _, _, rfl, ⟨b, rfl, wb⟩, _, _, rfl, ⟨c, rfl, _, hc⟩, _, _, rfl, ⟨e, rfl, _⟩, _, _, rfl, ⟨d, rfl, _, hd⟩, rfl⟩ := h
  obtain ⟨zs, rfl, hz⟩ := conf_ints hc
  obtain ⟨ws, rfl, hw⟩ := conf_ints hd
  exact ⟨⟨a, b, zs, e, ws⟩, rfl, by have := bounds_i64 wb; unfold inI; simp only; omega⟩
end Go.Proofs.Ytnglmhckcfnfaaa
