import Derived.Test.YtnglmhckcfnfaaaDv
namespace Go.Proofs.Ytnglmhckcfnfaaa
open Vc Go
set_option linter.unusedVariables false
set_option linter.unusedSimpArgs false
set_option maxRecDepth 100000
theorem specOk_ntn {X : CallT} (hX : CallOk Try.prog X) (ds : List NilD) (n : Nat) {f : FuncId} {S : FSpec} (h : ∀ args kb K, S args kb K → kb.length = n ∧ ∃ T, runSpec Try.prog X T f args kb (nilRes ds (tidyRes n K))) : SpecOk Try.prog f S :=
  specOk_nt hX mixed ds fun args kb K hs => by obtain ⟨rfl, hh⟩ := h args kb K hs; exact hh
theorem specOk_tdn {X : CallT} (hX : CallOk Try.prog X) (n : Nat) {f : FuncId} {S : FSpec} (h : ∀ args kb K, S args kb K → kb.length = n ∧ ∃ T, runSpec Try.prog X T f args kb (tidyRes n K)) : SpecOk Try.prog f S :=
  specOk_tidy hX mixed fun args kb K hs => by obtain ⟨rfl, hh⟩ := h args kb K hs; exact hh
theorem nonNat (n : Nat) : NonN (n : Int) := by unfold NonN; omega
theorem brn_x (d : Dev) : (brn d).2.x = d.x := by unfold brn; (repeat' split) <;> rfl
theorem brn_w (d : Dev) : (brn d).2.w = d.w := by unfold brn; (repeat' split) <;> rfl
theorem brn_ok {d : Dev} (h : DOk d) : DOk (brn d).2 := by
  refine ⟨by rw [brn_x]; exact h.s, by rw [brn_w]; exact h.wl, by rw [brn_w, brn_x]; exact h.w, ?_⟩
  have hf := h.f
  unfold inI at hf ⊢
  unfold brn
  (repeat' split) <;> first | exact hf | (dsimp only; omega)
theorem din (d : Dev) (h : DOk d) : DIn d d.x.length d.w.length d.f d.o (secs d.x) (d.w.map wrD) := ⟨h, rfl, rfl, rfl, rfl, rfl, rfl⟩
theorem okBurns : SpecOk Try.prog 14 Sburns := specOk_tdn X0_ok 3 (fun args kb K h => by
  unfold Sburns at h; split at h <;> try exact h.elim
  obtain ⟨d, ⟨hok, rfl, rfl, rfl, rfl, rfl, rfl⟩, h⟩ := h
  refine ⟨rfl, noT _, vcBurnsG d K ?_⟩
  have hf := hok.f
  unfold inI at hf
  unfold brn at h
  refine ⟨fun q => ?_, fun q => ⟨fun q2 => ?_, fun q2 => ⟨fun q3 => ?_, fun q3 => ?_⟩⟩⟩
  · rw [if_pos q] at h; exact h
  all_goals rw [if_neg (by rw [q]; simp)] at h
  · rw [if_pos (by simpa using q2)] at h; exact h
  all_goals rw [if_neg (by simpa using q2)] at h
  · simp only [gt_iff_lt, decide_eq_true_eq] at q3
    rw [if_pos q3] at h
    rw [w64 (by omega) (by omega)]; exact h
  · simp only [gt_iff_lt, decide_eq_false_iff_not] at q3
    rw [if_neg q3] at h; exact h)
theorem dvS_ok : AllOk Try.prog dvS := fun f k h => by
  unfold dvS at h
  split at h
  · cases h; exact okBurns
  · cases h; exact cloneN_of okClone
  · cases h
theorem XDv_ok : CallOk Try.prog XDv := callS_ok mixed dvS_ok noT 10
theorem gS_get {x : List (List Int)} {i : Int} (h0 : 0 ≤ i) (h : i < x.length) : (secs x)[0 + i.toNat]? = some (dns .u8 (gS x i)) := by
  unfold secs gS
  rw [Nat.zero_add, List.getElem?_map, List.getD_eq_getElem?_getD, List.getElem?_eq_getElem (by omega)]
  rfl
theorem gS_mem {x : List (List Int)} {i : Int} (h0 : 0 ≤ i) (h : i < x.length) : gS x i ∈ x := by
  unfold gS
  rw [List.getD_eq_getElem?_getD, List.getElem?_eq_getElem (by omega)]
  exact List.getElem_mem (by omega)
theorem secs_len {x : List (List Int)} : (secs x).length = x.length := List.length_map ..
theorem take64 {b : List Int} (h : b.length = 64) : List.take 64 (List.drop 0 (dns .u8 b)) = dns .u8 b := by
  rw [List.drop_zero]; exact List.take_of_length_le (by rw [dns_len]; omega)
theorem plain_d {b : List Int} : PlainD (dns .u8 b) := ⟨fun d hd => by obtain ⟨n, _, rfl⟩ := List.mem_map.1 hd; exact ⟨_, rfl⟩⟩
theorem okFlushG : SpecOk Try.prog 8 SgFlush := specOk_ntn XDv_ok [.cell 0 1 49 129, .mv 0 1, .kill 2] 3 (fun args kb K h => by
  unfold SgFlush at h; split at h <;> try exact h.elim
  obtain ⟨d, ⟨hok, rfl, rfl, rfl, rfl, rfl, rfl⟩, h⟩ := h
  refine ⟨rfl, noT _, vcFlushG d K ⟨d, din d hok, fun q => ?_, fun q => ?_⟩⟩
  · unfold flsF at h; rw [if_pos q] at h; exact h
  · unfold flsF at h; rw [if_neg (by rw [q]; simp)] at h; exact h)
theorem okFuseG : SpecOk Try.prog 9 SgFuse := specOk_tdn X0_ok 3 (fun args kb K h => by
  unfold SgFuse at h; split at h <;> try exact h.elim
  obtain ⟨d, ⟨hok, rfl, rfl, rfl, rfl, rfl, rfl⟩, h⟩ := h
  exact ⟨rfl, noT _, vcFuseG d _ K h⟩)
theorem okReadG : SpecOk Try.prog 11 SgRead := specOk_ntn XDv_ok [.slot 0 5 1] 3 (fun args kb K h => by
  unfold SgRead at h; split at h <;> try exact h.elim
  obtain ⟨d, ⟨hok, rfl, rfl, rfl, rfl, rfl, rfl⟩, h⟩ := h
  rename_i i
  refine ⟨rfl, noT _, vcReadG d i K ?_⟩
  unfold rdF at h
  simp only [Nat.sub_zero, decide_eq_true_eq, decide_eq_false_iff_not, Bool.not_eq_true', Bool.not_eq_false', ge_iff_le]
  refine ⟨fun q => ?_, fun q => ?_⟩
  · rw [if_pos q] at h; exact h
  rw [if_neg (by rw [q]; simp)] at h
  refine ⟨fun h1 => ⟨fun h2 => ?_, fun h2 => ?_⟩, fun h1 => ?_⟩
  · rw [if_neg (by omega)] at h; exact h
  · rw [if_pos ⟨h1, h2⟩] at h
    have hg := gS_get h1 h2
    have h64 := hok.s.each _ (gS_mem h1 h2)
    have t1 := take64 h64
    rw [hg, Option.getD_some, t1, ones_dns, ints_len]
    have ls : 0 + i.toNat < (secs d.x).length := by rw [secs_len]; omega
    exact ⟨⟨h1, h2⟩, trivial, trivial, by omega, by omega, ⟨⟨ls, by omega⟩, trivial⟩, by omega, ⟨plain_ints⟩, h⟩
  · rw [if_neg (by omega)] at h; exact h)
theorem okNewG : SpecOk Try.prog 5 SgNew := specOk_nil X0_ok mixed [.cell 0 1 49 129] (fun args kb K h => by
  unfold SgNew at h; split at h <;> try exact h.elim
  rename_i n
  obtain ⟨hno, hy⟩ := h
  refine ⟨noT _, vcNewG n K ?_⟩
  simp only [decide_eq_true_eq, decide_eq_false_iff_not]
  refine ⟨fun h1 => hno fun q => by have := q.lo; omega, fun h1 => ⟨fun h2 => hno fun q => by have := q.hi; omega, fun h2 => ⟨by unfold NonN; omega, ⟨by omega, by omega, by omega⟩, ?_⟩⟩⟩
  have := hy ⟨by omega, by omega⟩
  have e : secs (zer n.toNat) = List.replicate n.toNat (List.replicate 64 (D.val (.int .u8 0))) := by unfold secs zer; rw [List.map_replicate]; rfl
  have e2 : (zer n.toNat).length = n.toNat := List.length_replicate
  unfold devA secR at this
  dsimp only at this
  rw [e, e2] at this
  exact this)
theorem okWriteG : SpecOk Try.prog 6 SgWrite := specOk_ntn XDv_ok [.mv 0 1, .kill 2] 3 (fun args kb K h => by
  unfold SgWrite at h; split at h <;> try exact h.elim
  obtain ⟨d, b, ⟨hok, rfl, rfl, rfl, rfl, rfl, rfl⟩, rfl, hw9, h⟩ := h
  rename_i i
  refine ⟨rfl, wrT d i b _, vcWriteG d i b K ?_⟩
  unfold wrtF at h
  have ex := brn_x d
  have ew := brn_w d
  refine ⟨⟨d, din d hok, fun q => ?_, fun q => ?_⟩, ?_⟩
  · rw [if_pos q] at h; exact h
  · rw [if_neg (by rw [q]; simp)] at h
    have hno : ¬ WrI d.x i b → K (.int .i64 1) (devK (brn d).2) := fun hn => by rw [if_neg hn] at h; exact h
    simp only [ex, Nat.sub_zero, ints_len, decide_eq_true_eq, decide_eq_false_iff_not, Bool.not_eq_true', Bool.not_eq_false', ge_iff_le, bne_iff_ne, ne_eq, bne_eq_false_iff_eq]
    unfold devK at hno
    rw [ex] at hno
    refine ⟨fun h1 => ⟨fun h2 => hno fun w => ?_, fun h2 => ⟨fun h3 => hno fun w => ?_, fun h3 => ?_⟩⟩, fun h1 => hno fun w => ?_⟩
    · have := w.hi; omega
    · have := w.b64; omega
    · refine At.mk' (⟨0, ⟨h1, h2, by omega⟩, q⟩ : {q : Nat // WrJ d i b}) ?_
      show _ = (([_, _, _], devA (brn d).2) : List V × KB)
      unfold devA
      rw [ex]
    · have := w.lo; omega
  rintro ⟨_, hW, hnb⟩
  have hg := gS_get hW.lo hW.hi
  have h64 := hok.s.each _ (gS_mem hW.lo hW.hi)
  have t1 := take64 h64
  have hb64 := hW.b64
  have t2 := take64 hb64
  have hin : InB i (d.x.length - 0) := by unfold InB; have := hW.hi; have := hW.lo; omega
  simp only [ex, ew]
  have hC : At (wrC2 d i b) ([.ptr 0 0, .int .i64 i, .ptr 3 0], [.cells [.sl 1 0 d.x.length, .sl 2 0 d.w.length, .int .i64 (brn d).2.f, .sb (brn d).2.o], secR d.x, waiR d.w, .cells [.int .i64 i, .arr 64 (dns .u8 (gS d.x i)), .arr 64 (dns .u8 b)]]) := At.mk' (⟨0, hW, hnb⟩ : {q : Nat // WrJ d i b}) (by
    show _ = (([_, _, _], devA (brn d).2 ++ [.cells [.int .i64 i, .arr 64 (dns .u8 (gS d.x i)), .arr 64 (dns .u8 b)]]) : List V × KB)
    unfold devA
    rw [ex, ew]
    rfl)
  have p1 := plain_d (b := b)
  have p2 := plain_d (b := gS d.x i)
  have l1 : 64 ≤ (dns .u8 (gS d.x i)).length := by rw [dns_len]; omega
  have l2 : 64 ≤ (dns .u8 b).length := by rw [dns_len]; omega
  have l3 : 64 ≤ b.length := by have := hW.b64; omega
  constructor
  · simp only [hg, Option.some.injEq, exists_eq_left', ints_flat, ints_len, t1, t2, hin, l1, l2, l3, p1, p2, hC, and_self, and_true, true_and]
  · rintro ⟨_, _⟩
    have lw : (d.w.length + 1) * 136 ≤ 140737488355328 := by omega
    have ls : 0 + i.toNat < (secs d.x).length := by rw [secs_len]; have := hW.hi; have := hW.lo; omega
    rw [if_neg (by rw [hnb]; simp), if_pos hW] at h
    unfold devK at h
    dsimp only at h
    have es : (secs d.x).set (0 + i.toNat) (dns .u8 b) = secs (d.x.set i.toNat b) := by unfold secs; rw [Nat.zero_add, List.map_set]
    have lm : d.w.length ≤ (List.map wrD d.w).length := by rw [List.length_map]; exact Nat.le_refl _
    have ea : List.take d.w.length (List.map wrD d.w) ++ [D.val (Value.int IntKind.i64 i) :: (dns .u8 (gS d.x i) ++ dns .u8 b)] = (d.w ++ [(⟨i, gS d.x i, b⟩ : W3)]).map wrD := by
      rw [List.take_of_length_le (by rw [List.length_map]; exact Nat.le_refl _), List.map_append]; rfl
    simp only [appD_eq, List.append_nil, es, ea, hin, lw, ls, lm, Nat.le_refl, true_and, and_true, and_self]
    rw [List.length_set, List.length_append] at h
    exact h)
theorem gW_get {w : List W3} {i : Nat} (h : i < w.length) : w[i]? = some (gW w i) := by
  unfold gW; rw [List.getD_eq_getElem?_getD, List.getElem?_eq_getElem h]; rfl
theorem gW_mem {w : List W3} {i : Nat} (h : i < w.length) : gW w i ∈ w := List.mem_of_getElem? (gW_get h)
theorem wrD_get {w : List W3} {i : Nat} (h : i < w.length) : (w.map wrD)[0 + i]? = some (wrD (gW w i)) := by
  rw [Nat.zero_add, List.getElem?_map, gW_get h]; rfl
theorem bkX_drop {w : List W3} {x : List (List Int)} {j : Nat} (h : j < w.length) : bkX x (w.drop j) = (bkX x (w.drop (j + 1))).set (gW w j).at'.toNat (gW w j).was := by
  have := gW_get h
  rw [List.getElem?_eq_getElem h] at this
  rw [List.drop_eq_getElem_cons h, Option.some.inj this]
  rfl
theorem bkX_len (w : List W3) (x : List (List Int)) : (bkX x w).length = x.length := by
  induction w with
  | nil => rfl
  | cons p w ih => show ((bkX x w).set _ _).length = _; rw [List.length_set, ih]
theorem fwX_len (keeps : List Int) (x : List (List Int)) (w : List W3) : ∀ i, (fwX keeps x w i).length = x.length
  | 0 => rfl
  | i + 1 => by unfold fwX; rw [List.length_set, fwX_len keeps x w i]
theorem set_secs {x : List (List Int)} {i : Nat} {b : List Int} : (secs x).set (0 + i) (dns .u8 b) = secs (x.set i b) := by unfold secs; rw [Nat.zero_add, List.map_set]
theorem wr_was {p : W3} (h : p.was.length = 64) : List.take 64 (List.drop 1 (wrD p)) = dns .u8 p.was := by
  unfold wrD
  rw [List.drop_succ_cons, List.drop_zero, List.take_left' (by rw [dns_len]; exact h)]
theorem wr_now {p : W3} (h : p.was.length = 64) (k : p.now.length = 64) : List.take 64 (List.drop 65 (wrD p)) = dns .u8 p.now := by
  unfold wrD
  rw [List.drop_succ_cons, List.drop_left' (by rw [dns_len]; exact h), List.take_of_length_le (by rw [dns_len]; omega)]
theorem wr_len {p : W3} (h : p.was.length = 64) (k : p.now.length = 64) : (wrD p).length = 129 := by
  unfold wrD
  rw [List.length_cons, List.length_append, dns_len, dns_len]; omega
theorem spl_d {a b : List Int} {n : Nat} (h : n ≤ b.length) : splice (dns .u8 a) 0 (List.take n (ones (List.take n (List.drop 0 (dns .u8 b))))).flatten = dns .u8 (b.take n ++ a.drop n) := by
  have e1 : List.take n (dns .u8 b) = dns .u8 (b.take n) := by simp [dns]
  have e2 : List.take n (ints .u8 (b.take n)) = ints .u8 (b.take n) := List.take_of_length_le (by rw [ints_len, List.length_take]; omega)
  rw [List.drop_zero, e1, ones_dns, e2, ints_flat]
  unfold splice
  rw [List.take_zero, List.nil_append, Nat.zero_add, dns_len, List.length_take, Nat.min_eq_left h]
  simp [dns]
theorem fw_step {d : Dev} (hok : DOk d) {keeps : List Int} {i n : Nat} (hi : i < d.w.length) (hn : kN keeps i = n) (hn64 : n ≤ 64) {v : V} :
    ∃ e, (d.w.map wrD)[0 + i]? = some e ∧ e[0]? = some (D.val (.int .i64 (gW d.w i).at')) ∧ 65 ≤ e.length ∧ 129 ≤ e.length ∧ InB (gW d.w i).at' (d.x.length - 0) ∧
      ∃ e2, (secs (fwX keeps (bkX d.x d.w) d.w i))[0 + (gW d.w i).at'.toNat]? = some e2 ∧
        (secs (fwX keeps (bkX d.x d.w) d.w i)).set (0 + (gW d.w i).at'.toNat) (splice e2 0 (List.take n (ones (List.take n (List.drop 0 (List.take 64 (List.drop 65 e)))))).flatten) = secs (fwX keeps (bkX d.x d.w) d.w (i + 1)) := by
  have hp := hok.w _ (gW_mem hi)
  have hl : (fwX keeps (bkX d.x d.w) d.w i).length = d.x.length := by rw [fwX_len, bkX_len]
  refine ⟨wrD (gW d.w i), wrD_get hi, rfl, by rw [wr_len hp.was hp.now]; omega, by rw [wr_len hp.was hp.now]; omega, ⟨hp.lo, by rw [Nat.sub_zero]; exact hp.hi⟩, _, gS_get hp.lo (by rw [hl]; exact hp.hi), ?_⟩
  rw [wr_now hp.was hp.now, spl_d (by rw [hp.now]; exact hn64), set_secs, ← hn]
  rfl
theorem bk_round {d : Dev} (hok : DOk d) {j : Nat} (hj : j ≤ d.w.length) (hj1 : 1 ≤ j) : InB ((j : Int) - 1) (d.w.length - 0) ∧
    ∃ e, (d.w.map wrD)[0 + ((j : Int) - 1).toNat]? = some e ∧ e[0]? = some (D.val (.int .i64 (gW d.w (j - 1)).at')) ∧ 65 ≤ e.length ∧ 129 ≤ e.length ∧ InB (gW d.w (j - 1)).at' (d.x.length - 0) ∧ 0 + (gW d.w (j - 1)).at'.toNat < (secs (bkX d.x (d.w.drop j))).length ∧
      (secs (bkX d.x (d.w.drop j))).set (0 + (gW d.w (j - 1)).at'.toNat) (appD (List.take 64 (List.drop 1 e)) []) = secs (bkX d.x (d.w.drop (j - 1))) := by
  have hi : j - 1 < d.w.length := by omega
  have hp := hok.w _ (gW_mem hi)
  have h1 := hp.lo
  have h2 := hp.hi
  have et : ((j : Int) - 1).toNat = j - 1 := by omega
  refine ⟨by unfold InB; omega, wrD (gW d.w (j - 1)), by rw [et]; exact wrD_get hi, rfl, by rw [wr_len hp.was hp.now]; omega, by rw [wr_len hp.was hp.now]; omega, ⟨hp.lo, by rw [Nat.sub_zero]; exact hp.hi⟩, by rw [secs_len, bkX_len]; omega, ?_⟩
  rw [wr_was hp.was, appD_eq, List.append_nil, set_secs, bkX_drop hi, show j - 1 + 1 = j by omega]
theorem kN_keep {keeps : List Int} {i : Nat} (h : i < keeps.length) : (kN keeps i : Int) = if (64 : Int) < (if 0 > keeps[i] then 0 else keeps[i]) then 64 else (if 0 > keeps[i] then 0 else keeps[i]) := by
  unfold kN
  rw [if_pos h, List.getD_eq_getElem?_getD, List.getElem?_eq_getElem h, Option.getD_some]
  split <;> split at * <;> omega
theorem kN_le (keeps : List Int) (i : Nat) : kN keeps i ≤ 64 := by unfold kN; split <;> omega
theorem okBootG : SpecOk Try.prog 10 SgBoot := specOk_ntn X0_ok [.cell 0 1 49 129, .mv 0 1, .kill 2] 3 (fun args kb K h => by
  unfold SgBoot at h; split at h <;> try exact h.elim
  · obtain ⟨d, keeps, ⟨hok, rfl, rfl, rfl, rfl, rfl, rfl⟩, rfl, h⟩ := h
    have hwl := hok.wl
    refine ⟨rfl, boT d (.dat (.sl 1 (ints .i64 keeps))) keeps _, vcBootG d keeps K fun l => ⟨?_, ?_⟩⟩
    · rw [Nat.sub_zero, w64 (by omega) (by omega)]
      refine At.mk' (⟨d.w.length, Nat.le_refl _⟩ : {j : Nat // j ≤ d.w.length}) ?_
      show _ = (([_, _, _], [_, secR (bkX d.x (d.w.drop d.w.length)), _, _, _]) : List V × KB)
      rw [List.drop_length]
      rfl
    rintro ⟨j, hj⟩
    dsimp only
    refine ⟨fun q => ?_, fun q => ⟨?_, ?_⟩⟩
    · simp only [ge_iff_le, decide_eq_true_eq] at q
      obtain ⟨b1, e, b2, b3, b4, b5, b6, b7, b8⟩ := bk_round hok hj (by omega)
      refine ⟨b1, e, b2, _, b3, b4, b5, rfl, b6, b7, ?_⟩
      rw [b8, w64 (by omega) (by omega)]
      refine Nx.mk' (⟨j - 1, by omega⟩ : {j : Nat // j ≤ d.w.length}) ?_ (by show j - 1 < j; omega)
      show _ = (([_, _, .int .i64 (((j - 1 : Nat) : Int) - 1)], _) : List V × KB)
      rw [show ((j - 1 : Nat) : Int) = (j : Int) - 1 by omega]
    · simp only [ge_iff_le, decide_eq_false_iff_not] at q
      have : j = 0 := by omega
      subst this
      rw [List.drop_zero, Nat.sub_zero]
      exact At.mk' (⟨0, Nat.zero_le _⟩ : {i : Nat // i ≤ d.w.length}) rfl
    rintro ⟨i, hi⟩
    dsimp only
    simp only [decide_eq_true_eq, decide_eq_false_iff_not]
    refine ⟨fun hc => ?_, fun hc => ⟨(by first | exact trivial | exact rfl), (by first | exact trivial | exact rfl), (by first | exact trivial | exact rfl), ?_⟩⟩
    · have hi2 : i < d.w.length := by omega
      obtain ⟨e, b1, b2, b3, b4, b5, e2, b6, b7⟩ := fw_step hok (keeps := keeps) hi2 rfl (kN_le keeps i) (v := V.tt)
      refine ⟨by unfold InB; omega, e, by rw [Int.toNat_natCast]; exact b1, _, b2, b3, b4, fun hk => ?_, fun hk => ?_⟩
      · rw [ints_len] at hk
        have hik : i < keeps.length := by omega
        have hn := kN_keep hik
        have h64 := kN_le keeps i
        refine ⟨nonNat i, [D.val (.int .i64 keeps[i])], by rw [Int.toNat_natCast, ints_get, List.getElem?_eq_getElem hik]; rfl, keeps[i], rfl, ?_⟩
        rw [← hn, Int.toNat_natCast, Nat.sub_zero]
        refine ⟨b5, trivial, nonNat _, Nat.zero_le _, h64, trivial, nonNat _, Nat.zero_le _, h64, by omega, e2, b6, by omega, ?_⟩
        simp only [Nat.sub_zero]
        rw [b7, w64 (n := (i : Int) + 1) (by omega) (by omega)]
        exact Nx.mk' (⟨i + 1, by omega⟩ : {i : Nat // i ≤ d.w.length}) rfl (by show d.w.length - (i + 1) < d.w.length - i; omega)
      · rw [ints_len] at hk
        have hn : kN keeps i = 64 := if_neg (by omega)
        rw [hn] at b7
        refine ⟨b5, trivial, nonNat 64, Nat.zero_le _, Nat.le_refl _, trivial, nonNat 64, Nat.zero_le _, Nat.le_refl _, Nat.le_refl _, e2, b6, Nat.le_refl _, ?_⟩
        rw [b7, w64 (n := (i : Int) + 1) (by omega) (by omega)]
        exact Nx.mk' (⟨i + 1, by omega⟩ : {i : Nat // i ≤ d.w.length}) rfl (by show d.w.length - (i + 1) < d.w.length - i; omega)
    · have : i = d.w.length := by omega
      subst this
      unfold bootF devK at h
      dsimp only at h
      rw [fwX_len, bkX_len] at h
      exact h
  · obtain ⟨d, ⟨hok, rfl, rfl, rfl, rfl, rfl, rfl⟩, h⟩ := h
    have hwl := hok.wl
    refine ⟨rfl, boT d (.any (.slice none 0 0)) [] _, vcBootGN d K fun l => ⟨?_, ?_⟩⟩
    · rw [Nat.sub_zero, w64 (by omega) (by omega)]
      refine At.mk' (⟨d.w.length, Nat.le_refl _⟩ : {j : Nat // j ≤ d.w.length}) ?_
      show _ = (([_, _, _], [_, secR (bkX d.x (d.w.drop d.w.length)), _, _, _]) : List V × KB)
      rw [List.drop_length]
      rfl
    rintro ⟨j, hj⟩
    dsimp only
    refine ⟨fun q => ?_, fun q => ⟨?_, ?_⟩⟩
    · simp only [ge_iff_le, decide_eq_true_eq] at q
      obtain ⟨b1, e, b2, b3, b4, b5, b6, b7, b8⟩ := bk_round hok hj (by omega)
      refine ⟨b1, e, b2, _, b3, b4, b5, rfl, b6, b7, ?_⟩
      rw [b8, w64 (by omega) (by omega)]
      refine Nx.mk' (⟨j - 1, by omega⟩ : {j : Nat // j ≤ d.w.length}) ?_ (by show j - 1 < j; omega)
      show _ = (([_, _, .int .i64 (((j - 1 : Nat) : Int) - 1)], _) : List V × KB)
      rw [show ((j - 1 : Nat) : Int) = (j : Int) - 1 by omega]
    · simp only [ge_iff_le, decide_eq_false_iff_not] at q
      have : j = 0 := by omega
      subst this
      rw [List.drop_zero, Nat.sub_zero]
      exact At.mk' (⟨0, Nat.zero_le _⟩ : {i : Nat // i ≤ d.w.length}) rfl
    rintro ⟨i, hi⟩
    dsimp only
    simp only [decide_eq_true_eq, decide_eq_false_iff_not]
    refine ⟨fun hc => ?_, fun hc => ⟨(by first | exact trivial | exact rfl), (by first | exact trivial | exact rfl), (by first | exact trivial | exact rfl), ?_⟩⟩
    · have hi2 : i < d.w.length := by omega
      obtain ⟨e, b1, b2, b3, b4, b5, e2, b6, b7⟩ := fw_step hok (keeps := []) hi2 rfl (kN_le [] i) (v := V.tt)
      have hn : kN [] i = 64 := if_neg (by simp)
      rw [hn] at b7
      refine ⟨by unfold InB; omega, e, by rw [Int.toNat_natCast]; exact b1, _, b2, b3, b4, fun hk => by omega, fun hk => ⟨b5, trivial, nonNat 64, Nat.zero_le _, Nat.le_refl _, trivial, nonNat 64, Nat.zero_le _, Nat.le_refl _, Nat.le_refl _, e2, b6, Nat.le_refl _, ?_⟩⟩
      rw [b7, w64 (n := (i : Int) + 1) (by omega) (by omega)]
      exact Nx.mk' (⟨i + 1, by omega⟩ : {i : Nat // i ≤ d.w.length}) rfl (by show d.w.length - (i + 1) < d.w.length - i; omega)
    · have : i = d.w.length := by omega
      subst this
      unfold bootF devK at h
      dsimp only at h
      rw [fwX_len, bkX_len] at h
      exact h)
end Go.Proofs.Ytnglmhckcfnfaaa
