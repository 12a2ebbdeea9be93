import Derived.Test.YtnglmhckcfnfaaaLa
namespace Go.Proofs.Ytnglmhckcfnfaaa
open Vc Go
set_option linter.unusedVariables false
set_option linter.unusedSimpArgs false
set_option maxRecDepth 100000
theorem plain_secs {x : List (List Int)} : Plain (secs x).flatten := fun d hd => by
  obtain ⟨l, hl, hd⟩ := List.mem_flatten.1 hd
  obtain ⟨b, _, rfl⟩ := List.mem_map.1 hl
  exact plain_dns d hd
theorem plain_wts {w : List W3} : Plain (w.map wrD).flatten := fun d hd => by
  obtain ⟨l, hl, hd⟩ := List.mem_flatten.1 hd
  obtain ⟨p, _, rfl⟩ := List.mem_map.1 hl
  unfold wrD at hd
  rcases List.mem_cons.1 hd with rfl | hd
  · trivial
  · rcases List.mem_append.1 hd with q | q
    · exact plain_dns d q
    · exact plain_dns d q
theorem sec_set {x : List (List Int)} {b : List Int} {a : Nat} (h : Sec64 x) (hb : b.length = 64) : Sec64 (x.set a b) :=
  ⟨by rw [List.length_set]; exact h.len, fun c hc => by
    rcases List.mem_or_eq_of_mem_set hc with q | q
    · exact h.each c q
    · rw [q]; exact hb⟩
theorem zer_sec {n : Nat} (h : n ≤ 4096) : Sec64 (zer n) := ⟨by unfold zer; rw [List.length_replicate]; exact h, fun b hb => by unfold zer at hb; rw [List.eq_of_mem_replicate hb, List.length_replicate]⟩
theorem new_ok {n : Nat} (h : n ≤ 4096) : DOk ⟨zer n, [], -1, false⟩ := ⟨zer_sec h, by simp, fun p hp => (by cases hp), by unfold inI; simp⟩
theorem gS_ne {x : List (List Int)} {b : List Int} {i j : Int} (hi : 0 ≤ i) (hj : 0 ≤ j) (h : j ≠ i) : gS (x.set i.toNat b) j = gS x j := by
  unfold gS
  rw [List.getD_eq_getElem?_getD, List.getD_eq_getElem?_getD, List.getElem?_set_ne (by omega)]
theorem gS_eq {x : List (List Int)} {b : List Int} {i : Int} (hi : 0 ≤ i) (h : i < x.length) : gS (x.set i.toNat b) i = b := by
  unfold gS
  rw [List.getD_eq_getElem?_getD, List.getElem?_set_self (by omega)]; rfl
theorem gS_len {x : List (List Int)} (h : Sec64 x) {i : Int} (h0 : 0 ≤ i) (hi : i < x.length) : (gS x i).length = 64 := h.each _ (gS_mem h0 hi)
theorem wrt_ok {d : Dev} {i : Int} {b : List Int} (h : DOk d) (hw : d.w.length ≤ 900) : DOk (wrtF d i b).2 ∧ (wrtF d i b).2.x.length = d.x.length ∧ (wrtF d i b).2.w.length ≤ d.w.length + 1 := by
  have hb := brn_ok h
  have ex := brn_x d
  have ew := brn_w d
  unfold wrtF
  split
  · exact ⟨hb, by rw [ex], by dsimp only; rw [ew]; omega⟩
  · split
    · rename_i hW
      refine ⟨⟨sec_set h.s hW.b64, by dsimp only; rw [List.length_append]; simp; omega, fun p hp => ?_, hb.f⟩, by dsimp only; rw [List.length_set], by dsimp only; rw [List.length_append]; simp⟩
      dsimp only at hp ⊢
      rw [List.length_set]
      rcases List.mem_append.1 hp with q | q
      · exact h.w p q
      · rw [List.mem_singleton] at q; subst q
        exact ⟨hW.lo, hW.hi, gS_len h.s hW.lo hW.hi, hW.b64⟩
    · exact ⟨hb, by rw [ex], by dsimp only; rw [ew]; omega⟩
theorem wrt_ne {d : Dev} {i j : Int} {b : List Int} (hj : 0 ≤ j) (h : j ≠ i) (hw : ∀ p ∈ d.w, p.at' ≠ j) : gS (wrtF d i b).2.x j = gS d.x j ∧ ∀ p ∈ (wrtF d i b).2.w, p.at' ≠ j := by
  have ex := brn_x d
  have ew := brn_w d
  unfold wrtF
  split
  · exact ⟨by rw [ex], by rw [ew]; exact hw⟩
  · split
    · rename_i hW
      refine ⟨gS_ne hW.lo hj h, fun p hp => ?_⟩
      rcases List.mem_append.1 hp with q | q
      · exact hw p q
      · rw [List.mem_singleton] at q; subst q; exact fun e => h e.symm
    · exact ⟨by rw [ex], by rw [ew]; exact hw⟩
theorem fls_ok {d : Dev} (h : DOk d) : DOk (flsF d).2 ∧ (flsF d).2.x = d.x ∧ ((flsF d).2.w = d.w ∨ (flsF d).2.w = []) := by
  have hb := brn_ok h
  have ex := brn_x d
  have ew := brn_w d
  unfold flsF
  split
  · exact ⟨hb, ex, .inl ew⟩
  · exact ⟨⟨hb.s, by simp, fun p hp => (by cases hp), hb.f⟩, ex, .inr rfl⟩
theorem fuse_ok {d : Dev} {z : Int} (h : DOk d) (hz : inI z) : DOk (fuseF d z) := ⟨h.s, h.wl, h.w, by
  unfold inI at hz ⊢; unfold fuseF; dsimp only; split <;> omega⟩
theorem bk_sec {x : List (List Int)} (h : Sec64 x) : ∀ {w : List W3}, (∀ p ∈ w, p.was.length = 64) → Sec64 (bkX x w)
  | [], _ => h
  | p :: w, hw => sec_set (bk_sec h fun q hq => hw q (List.mem_cons_of_mem _ hq)) (hw p List.mem_cons_self)
theorem bk_ne {x : List (List Int)} {j : Int} (hj : 0 ≤ j) : ∀ {w : List W3}, (∀ p ∈ w, 0 ≤ p.at' ∧ p.at' ≠ j) → gS (bkX x w) j = gS x j
  | [], _ => rfl
  | p :: w, hw => by
    show gS ((bkX x w).set p.at'.toNat p.was) j = _
    rw [gS_ne (hw p List.mem_cons_self).1 hj (fun e => (hw p List.mem_cons_self).2 e.symm)]
    exact bk_ne hj fun q hq => hw q (List.mem_cons_of_mem _ hq)
theorem fw_sec {keeps : List Int} {x : List (List Int)} {w : List W3} (h : Sec64 x) (hw : ∀ p ∈ w, W3Ok x.length p) : ∀ i, i ≤ w.length → Sec64 (fwX keeps x w i)
  | 0, _ => h
  | i + 1, hi => by
    have ih := fw_sec (keeps := keeps) h hw i (by omega)
    have hp := hw _ (gW_mem (i := i) (by omega))
    have hl := gS_len ih hp.lo (by rw [fwX_len]; exact hp.hi)
    have hn := kN_le keeps i
    have hnow := hp.now
    exact sec_set ih (by rw [List.length_append, List.length_take, List.length_drop, hl]; omega)
theorem fw_ne {keeps : List Int} {x : List (List Int)} {w : List W3} {j : Int} (hj : 0 ≤ j) (hw : ∀ p ∈ w, 0 ≤ p.at' ∧ p.at' ≠ j) : ∀ i, i ≤ w.length → gS (fwX keeps x w i) j = gS x j
  | 0, _ => rfl
  | i + 1, hi => by
    have ih := fw_ne (keeps := keeps) (x := x) hj hw i (by omega)
    have hp := hw _ (gW_mem (i := i) (by omega))
    show gS ((fwX keeps x w i).set (gW w i).at'.toNat _) j = _
    rw [gS_ne hp.1 hj (fun e => hp.2 e.symm), ih]
theorem boot_ok {d : Dev} {keeps : List Int} (h : DOk d) : DOk (bootF d keeps) ∧ (bootF d keeps).x.length = d.x.length := by
  have hb := bk_sec h.s (w := d.w) (fun p hp => (h.w p hp).was)
  refine ⟨⟨fw_sec hb (fun p hp => by rw [bkX_len]; exact h.w p hp) _ (Nat.le_refl _), by simp [bootF], fun p hp => (by cases hp), by unfold inI; simp [bootF]⟩, ?_⟩
  show (fwX keeps (bkX d.x d.w) d.w d.w.length).length = _
  rw [fwX_len, bkX_len]
theorem boot_ne {d : Dev} {keeps : List Int} {j : Int} (hj : 0 ≤ j) (h : DOk d) (hw : ∀ p ∈ d.w, p.at' ≠ j) : gS (bootF d keeps).x j = gS d.x j := by
  have hw' : ∀ p ∈ d.w, 0 ≤ p.at' ∧ p.at' ≠ j := fun p hp => ⟨(h.w p hp).lo, hw p hp⟩
  show gS (fwX keeps (bkX d.x d.w) d.w d.w.length) j = _
  rw [fw_ne hj hw' _ (Nat.le_refl _), bk_ne hj hw']
theorem rd_in {d : Dev} {i : Int} (ho : d.o = false) (h0 : 0 ≤ i) (hi : i < d.x.length) : rdF d i = (gS d.x i, 0) := by
  unfold rdF; rw [if_neg (by rw [ho]; simp), if_pos ⟨h0, hi⟩]
theorem fulL_len (c : Int) : (fulL c).length = 64 := List.length_replicate
theorem okFull : SpecOk Try.prog 7 Sfull := specOk_tdn X0_ok 0 (fun args kb K h => by
  unfold Sfull at h; split at h <;> try exact h.elim
  rename_i c
  refine ⟨rfl, fuT c _, vcFull c K ⟨nonNat 64, ⟨by omega, by omega, by omega⟩, At.mk' (⟨0, Nat.zero_le _⟩ : {i : Nat // i ≤ 64}) rfl, ?_⟩⟩
  rintro ⟨i, hi⟩
  dsimp only
  refine ⟨fun hc => ?_, fun hc => ?_⟩
  · simp only [decide_eq_true_eq] at hc
    have hi2 : i < 64 := by omega
    refine ⟨by unfold InB; omega, by rw [ints_len, List.length_append, List.length_replicate, List.length_replicate]; omega, ?_⟩
    rw [w64 (n := (i : Int) + 1) (by omega) (by omega), Nat.zero_add, Int.toNat_natCast, ints_set]
    have e : (List.replicate i c ++ List.replicate (64 - i) 0).set i c = List.replicate (i + 1) c ++ List.replicate (64 - (i + 1)) 0 := by
      rw [List.set_append_right _ _ (by rw [List.length_replicate]; exact Nat.le_refl _), List.length_replicate, Nat.sub_self, show 64 - i = (64 - (i + 1)) + 1 by omega, List.replicate_succ, List.set_cons_zero, List.replicate_succ', List.append_assoc]
      rfl
    rw [e]
    exact Nx.mk' (⟨i + 1, by omega⟩ : {i : Nat // i ≤ 64}) rfl (by show 64 - (i + 1) < 64 - i; omega)
  · simp only [decide_eq_false_iff_not] at hc
    have : i = 64 := by omega
    subst this
    exact h)
theorem awS_ok : AllOk Try.prog awS := fun f k h => by
  unfold awS at h
  split at h
  · cases h; exact okNewG
  · cases h; exact okWriteG
  · cases h; exact okFlushG
  · cases h; exact okFuseG
  · cases h; exact okBootG
  · cases h; exact okReadG
  · cases h; exact okFull
  · cases h; exact okSame
  · cases h
theorem XAw_ok : CallOk Try.prog XAw := callS_ok mixed awS_ok noT 10
/-- A first write to a new device. -/
theorem first_wr {n : Nat} {i : Int} {b : List Int} (h0 : 0 ≤ i) (hi : i < n) (hb : b.length = 64) : wrtF ⟨zer n, [], -1, false⟩ i b = (0, ⟨(zer n).set i.toNat b, [⟨i, gS (zer n) i, b⟩], -1, false⟩) := by
  have e : brn ⟨zer n, [], -1, false⟩ = (false, ⟨zer n, [], -1, false⟩) := rfl
  unfold wrtF
  rw [e, if_neg (by simp), if_pos ⟨h0, by unfold zer; rw [List.length_replicate]; exact hi, hb⟩]
  rfl
theorem okAwake : SpecOk Try.prog 13 Sawake := specOk_of' XAw_ok mixed (fun args kb K h => by
  unfold Sawake at h; split at h <;> try exact h.elim
  have hd0 := new_ok (n := 2) (by omega)
  have e1 := first_wr (n := 2) (i := 1) (b := fulL 7) (by omega) (by omega) (fulL_len 7)
  have hd1 := (wrt_ok (i := 1) (b := fulL 7) hd0 (by simp)).1
  refine ⟨noT _, vcAwake () K ⟨fun q => (q ⟨by omega, by omega⟩).elim, fun _ => ⟨⟨Nat.le_refl _, trivial⟩, ⟨zer 2, [], -1, false⟩, fulL 7, din _ hd0, rfl, by simp, ⟨⟨plain_secs⟩, ⟨plain_wts⟩⟩, ?_⟩⟩⟩
  have hd2 := (boot_ok (keeps := [3]) hd1).1
  rw [e1] at hd1 hd2 ⊢
  refine ⟨fun q => (by cases q), fun _ => ⟨⟨Nat.le_refl _, trivial⟩, _, [3], din _ hd1, rfl, ⟨⟨plain_secs⟩, ⟨fun d hd => (by cases hd)⟩⟩, _, din _ hd2, ?_⟩⟩
  have hr : rdF (bootF ⟨(zer 2).set (1 : Int).toNat (fulL 7), [⟨1, gS (zer 2) 1, fulL 7⟩], -1, false⟩ [3]) 1 = (List.replicate 3 7 ++ List.replicate 61 0, 0) := rfl
  rw [hr]
  refine ⟨fun _ => ⟨fun _ => ⟨by unfold InB; decide, [D.val (.int .u8 7)], rfl, 7, rfl, fun _ => ⟨by unfold InB; decide, [D.val (.int .u8 0)], rfl, 0, rfl, fun _ => ⟨fun _ => h, fun q => by have := q.lo; omega⟩, fun q => (by cases q)⟩, fun q => (by cases q)⟩, fun q => (by cases q)⟩, fun q => (by cases q)⟩)
theorem lawS_ok : AllOk Try.prog lawS := fun f k h => by
  unfold lawS at h
  split at h
  · cases h; exact okAwake
  · exact awS_ok _ _ h
theorem XL_ok (l : List A5) (i : Int) : CallOk Try.prog (XL l i) := callS_ok mixed lawS_ok _ 10
end Go.Proofs.Ytnglmhckcfnfaaa
