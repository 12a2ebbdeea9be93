import Derived.Test.YtodibmhakdhflaaSp
import Derived.KernelRfl
namespace Go.Proofs.Ytodibmhakdhflaa
open Vc Go
set_option linter.unusedVariables false
set_option linter.unusedSimpArgs false
set_option maxRecDepth 100000
def Dead (l : List Call) (m : Nat) (v : Int) : Prop := ¬ ∃ r, Ext l m v r
def DeadE (l : List Call) (e : List Int × List D) : Prop := ∃ (m : Nat) (b : Int), e = ([(m : Int), b], [db true]) ∧ Dead l m b
structure SeenOk (l : List Call) (m : Nat) (M : ML) : Prop where
  all : ∀ e ∈ M, (∃ (m' : Nat) (b : Int), e = ([(m' : Int), b], [db true]) ∧ m' < m) ∨ DeadE l e
structure FrPost (l : List Call) (m : Nat) (v : Int) (M : ML) (o : List Int) (b : Bool) (M' : ML) (o' : List Int) : Prop where
  t : b = true → ∃ r : List Nat, o' = o ++ r.map (fun (k : Nat) => (k : Int)) ∧ Ext l m v r
  f : b = false → o' = o ∧ Dead l m v ∧ ∀ e ∈ M', e ∈ M ∨ DeadE l e
structure FrPre (l : List Call) (m n : Nat) (M : ML) (o : List Int) : Prop where
  len : l.length ≤ 14
  lo : o.length ≤ m
  lt : m < 2 ^ l.length
  fuel : 2 ^ l.length - m < n
  seen : SeenOk l m M
def Sfrom (n : Nat) : FSpec := fun args kb K => match args, kb with
  | [.ptr 0 0, .int .i64 m0, .int .i64 v], [.cells [.dat (.sl 4 L), .mp 1, .sl 2 0 h], .mp [.i64, .i64] true false 1 M, .row 3 1 R] =>
    ∃ (l : List Call) (m : Nat) (o t : List Int), m0 = m ∧ L = l.map callR ∧ R = ints .i64 (o ++ t) ∧ h = o.length ∧ FrPre l m n M o ∧
      ∀ b M' o' t', FrPost l m v M o b M' o' → K (.sb b) [.cells [.dat (.sl 4 (l.map callR)), .mp 1, .sl 3 0 o'.length], .mp [.i64, .i64] true false 1 M', .dead, .row 3 1 (ints .i64 (o' ++ t'))]
  | _, _ => False
def frS (n : Nat) : FuncId → Option Known
  | 15 => some ⟨[], Sfrom n⟩
  | 20 => some ⟨[], Sdone⟩
  | 21 => some ⟨[], Sfree⟩
  | f => smS f
noncomputable def XFr (n : Nat) : CallT := callS Try.prog (frS n) noT 10
structure LpInv (l : List Call) (m : Nat) (v : Int) (M : ML) (p : Nat × ML × List Int) : Prop where
  le : p.1 ≤ l.length
  seen : ∀ e ∈ p.2.1, e ∈ M ∨ e = ([(m : Int), v], [db true]) ∨ DeadE l e
  no : ∀ j, j < p.1 → free l m j → fitC (atC l j) v → Dead l (setB m j) (nxC (atC l j) v)
abbrev lpLI (l : List Call) (m : Nat) (v : Int) (M : ML) (o : List Int) : LI where
  α := {p : Nat × ML × List Int // LpInv l m v M p}
  live := [0, 1, 2, 32, 33, 34]
  nils := [.mv 0 2]
  st p := ([.ptr 0 0, .int .i64 (m : Int), .int .i64 v, .dat (.sl 4 (l.map callR)), .int .i64 (l.length : Int), .int .i64 (p.1.1 : Int)],
    [.cells [.dat (.sl 4 (l.map callR)), .mp 1, .sl 3 0 o.length], .mp [.i64, .i64] true false 1 p.1.2.1, .dead, .row 3 1 (ints .i64 (o ++ p.1.2.2))])
  μ p := l.length - p.1.1
def lpT (l : List Call) (m : Nat) (v : Int) (M : ML) (o : List Int) : FuncId → Nat → Option LI
  | 15, 8 => some (lpLI l m v M o)
  | _, _ => none
theorem vcFrom (n : Nat) (l : List Call) (m : Nat) (v : Int) (M : ML) (o t : List Int) (K : V → KB → Prop) (h :
 ∃ (l_1 : List Call),
 ∃ (m_1 : Nat),
 (↑m : Int) = (↑m_1 : Int) ∧
 List.map callR l = List.map callR l_1 ∧
 l_1.length ≤ 20 ∧
 m_1 < 4611686018427387904 ∧
 (decide (full l_1 m_1) = true → K (V.sb true) [KO.cells [V.dat (D.sl 4 (List.map callR l_1)), V.mp 1, V.sl 3 0 o.length], KO.mp [IntKind.i64, IntKind.i64] true false 1 M, KO.dead, KO.row 3 1 (ints IntKind.i64 (o ++ t))]) ∧
 (decide (full l_1 m_1) = false →
 (∀ (cs : List D), mget M [(↑m : Int), v] = some cs → ConfK [CK.bool] cs) ∧
 (mgetB M [(↑m : Int), v] 0 = true → K (V.sb false) [KO.cells [V.dat (D.sl 4 (List.map callR l_1)), V.mp 1, V.sl 3 0 o.length], KO.mp [IntKind.i64, IntKind.i64] true false 1 M, KO.dead, KO.row 3 1 (ints IntKind.i64 (o ++ t))]) ∧
 (mgetB M [(↑m : Int), v] 0 = false →
 At (lpLI l m v M o)
 ([V.ptr 0 0, V.int IntKind.i64 (↑m : Int), V.int IntKind.i64 v, V.dat (D.sl 4 (List.map callR l_1)), V.int IntKind.i64 (↑(List.map callR l_1).length : Int), V.int IntKind.i64 0],
 [KO.cells [V.dat (D.sl 4 (List.map callR l_1)), V.mp 1, V.sl 3 0 o.length], KO.mp [IntKind.i64, IntKind.i64] true false 1 (mset M [(↑m : Int), v] [D.val (Value.bool true)]), KO.dead, KO.row 3 1 (ints IntKind.i64 (o ++ t))]) ∧
 ∀ (i : { p : Nat × ML × List Int // LpInv l m v M p }),
 (decide ((↑i.val.fst : Int) < (↑l.length : Int)) = true →
 NonN (↑i.val.fst : Int) ∧
 ∃ (e : List D),
 (List.map callR l)[(↑i.val.fst : Int).toNat]? = some e ∧
 ∃ (n_1 : Int),
 e[0]? = some (D.val (Value.int IntKind.i64 n_1)) ∧
 ∃ (n_2 : Int),
 e[1]? = some (D.val (Value.int IntKind.i64 n_2)) ∧
 ∃ (n_3 : Int),
 e[2]? = some (D.val (Value.int IntKind.i64 n_3)) ∧
 ∃ (n_4 : Int),
 e[3]? = some (D.val (Value.int IntKind.i64 n_4)) ∧
 ((!decide (fitC (n_1, n_2, n_3, n_4) v)) = true →
 Nx (lpLI l m v M o) i
 ([V.ptr 0 0, V.int IntKind.i64 (↑m : Int), V.int IntKind.i64 v, V.dat (D.sl 4 (List.map callR l)), V.int IntKind.i64 (↑l.length : Int), V.int IntKind.i64 (IntKind.i64.wrap ((↑i.val.fst : Int) + 1))],
 [KO.cells [V.dat (D.sl 4 (List.map callR l)), V.mp 1, V.sl 3 0 o.length], KO.mp [IntKind.i64, IntKind.i64] true false 1 i.val.snd.fst, KO.dead, KO.row 3 1 (ints IntKind.i64 (o ++ i.val.snd.snd))])) ∧
 ((!decide (fitC (n_1, n_2, n_3, n_4) v)) = false →
 ∃ (l_2 : List Call),
 ∃ (m_2 : Nat),
 ∃ (k : Nat),
 (↑m : Int) = (↑m_2 : Int) ∧
 (↑i.val.fst : Int) = (↑k : Int) ∧
 List.map callR l = List.map callR l_2 ∧
 l_2.length ≤ 20 ∧
 m_2 < 4611686018427387904 ∧
 k < l_2.length ∧
 ((!decide (free l_2 m_2 k)) = true →
 Nx (lpLI l m v M o) i
 ([V.ptr 0 0, V.int IntKind.i64 (↑m : Int), V.int IntKind.i64 v, V.dat (D.sl 4 (List.map callR l)), V.int IntKind.i64 (↑l.length : Int), V.int IntKind.i64 (IntKind.i64.wrap ((↑i.val.fst : Int) + 1))],
 [KO.cells [V.dat (D.sl 4 (List.map callR l_2)), V.mp 1, V.sl 3 0 o.length], KO.mp [IntKind.i64, IntKind.i64] true false 1 i.val.snd.fst, KO.dead, KO.row 3 1 (ints IntKind.i64 (o ++ i.val.snd.snd))])) ∧
 ((!decide (free l_2 m_2 k)) = false →
 1 ≤ 1 ∧
 o.length ≤ (ints IntKind.i64 (o ++ i.val.snd.snd)).length ∧
 (o.length + 1) * 8 ≤ 140737488355328 ∧
 ((↑i.val.fst : Int) < 0 → False) ∧
 ∃ (l_3 : List Call),
 ∃ (m_3 : Nat),
 ∃ (o_1 : List Int),
 ∃ (t : List Int),
 IntKind.i64.wrap (↑(BitVec.ofInt 64 (↑m : Int) ||| BitVec.ofInt 64 (shlI IntKind.i64 1 (↑i.val.fst : Int))).toNat : Int) = (↑m_3 : Int) ∧
 List.map callR l_2 = List.map callR l_3 ∧
 List.take o.length (ints IntKind.i64 (o ++ i.val.snd.snd)) ++ [[D.val (Value.int IntKind.i64 (↑i.val.fst : Int))]] = ints IntKind.i64 (o_1 ++ t) ∧
 o.length + 1 = o_1.length ∧
 FrPre l_3 m_3 n i.val.snd.fst o_1 ∧
 ∀ (b : Bool) (M' : ML) (o' t' : List Int),
 FrPost l_3 m_3 (nxC (n_1, n_2, n_3, n_4) v) i.val.snd.fst o_1 b M' o' →
 (b = true → K (V.sb true) [KO.cells [V.dat (D.sl 4 (List.map callR l_3)), V.mp 1, V.sl 3 0 o'.length], KO.mp [IntKind.i64, IntKind.i64] true false 1 M', KO.dead, KO.row 3 1 (ints IntKind.i64 (o' ++ t'))]) ∧
 (b = false →
 True ∧
 NonN (IntKind.i64.wrap ((↑(o'.length - 0) : Int) - 1)) ∧
 0 ≤ (IntKind.i64.wrap ((↑(o'.length - 0) : Int) - 1)).toNat ∧
 (IntKind.i64.wrap ((↑(o'.length - 0) : Int) - 1)).toNat ≤ o'.length - 0 ∧
 Nx (lpLI l m v M o) i
 ([V.ptr 0 0, V.int IntKind.i64 (↑m : Int), V.int IntKind.i64 v, V.dat (D.sl 4 (List.map callR l)), V.int IntKind.i64 (↑l.length : Int), V.int IntKind.i64 (IntKind.i64.wrap ((↑i.val.fst : Int) + 1))],
 [KO.cells [V.dat (D.sl 4 (List.map callR l_3)), V.mp 1, V.sl 3 0 (0 + (IntKind.i64.wrap ((↑(o'.length - 0) : Int) - 1)).toNat)], KO.mp [IntKind.i64, IntKind.i64] true false 1 M', KO.dead, KO.row 3 1 (ints IntKind.i64 (o' ++ t'))]))))) ∧
 (decide ((↑i.val.fst : Int) < (↑l.length : Int)) = false → K (V.sb false) [KO.cells [V.dat (D.sl 4 (List.map callR l)), V.mp 1, V.sl 3 0 o.length], KO.mp [IntKind.i64, IntKind.i64] true false 1 i.val.snd.fst, KO.dead, KO.row 3 1 (ints IntKind.i64 (o ++ i.val.snd.snd))])))
 ) : runSpec Try.prog (XFr n) (lpT l m v M o 15) 15 [.ptr 0 0, .int .i64 (m : Int), .int .i64 v] (sK l M o.length (ints .i64 (o ++ t))) (nilRes [.mv 0 2] (tidyRes 3 K)) := Eq.mp (by kernel_rfl) h
theorem mget_mem : ∀ {M : ML} {k : List Int} {c : List D}, mget M k = some c → (k, c) ∈ M
  | [], k, c, h => by simp [mget] at h
  | (a, x) :: M, k, c, h => by
    simp only [mget] at h
    split at h
    · rename_i e; subst e; cases h; exact List.mem_cons_self
    · exact List.mem_cons_of_mem _ (mget_mem h)
theorem mset_mem : ∀ {M : ML} {k : List Int} {c : List D} {e : List Int × List D}, e ∈ mset M k c → e ∈ M ∨ e = (k, c)
  | [], k, c, e, h => by simp [mset] at h; exact .inr h
  | (a, x) :: M, k, c, e, h => by
    simp only [mset] at h
    split at h
    · rename_i q; subst q
      rcases List.mem_cons.1 h with h | h
      · exact .inr h
      · exact .inl (List.mem_cons_of_mem _ h)
    · rcases List.mem_cons.1 h with h | h
      · exact .inl (h ▸ List.mem_cons_self)
      · rcases mset_mem h with h | h
        · exact .inl (List.mem_cons_of_mem _ h)
        · exact .inr h
theorem setB_gt {m k : Nat} (h : m.testBit k = false) : m < setB m k := by
  have h1 : m ≤ setB m k := Nat.left_le_or
  have h2 : m ≠ setB m k := fun e => by
    have := setB_bit m k k
    rw [← e, h] at this
    simp at this
  omega
theorem setB_lt {m k n : Nat} (h : m < 2 ^ n) (hk : k < n) : setB m k < 2 ^ n := Nat.or_lt_two_pow h (Nat.pow_lt_pow_right (by decide) hk)
theorem setB_i64 {m k : Nat} (hm : m < 2 ^ 14) (hk : k < 14) : IntKind.i64.wrap ((BitVec.ofInt 64 (m : Int) ||| BitVec.ofInt 64 (shlI .i64 1 (k : Int))).toNat : Int) = ((setB m k : Nat) : Int) := by
  have hp : (2 : Nat) ^ k < 2 ^ 14 := Nat.pow_lt_pow_right (by decide) hk
  have e1 : shlI .i64 1 (k : Int) = ((2 ^ k : Nat) : Int) := by
    unfold shlI
    rw [Int.toNat_natCast, show min k IntKind.i64.bits = k from Nat.min_eq_left (by show k ≤ 64; omega), Int.one_mul]
    have e0 : ((2 : Int) ^ k) = ((2 ^ k : Nat) : Int) := by norm_cast
    rw [e0]
    generalize 2 ^ k = z at hp
    rw [w64 (by omega) (by omega)]
  have hs := setB_lt hm hk
  unfold setB at hs ⊢
  rw [e1, BitVec.toNat_or, BitVec.toNat_ofInt, BitVec.toNat_ofInt]
  generalize 2 ^ k = z at hp hs
  have e2 : ((m : Int) % ((2 ^ 64 : Nat) : Int)).toNat = m := by omega
  have e3 : ((z : Int) % ((2 ^ 64 : Nat) : Int)).toNat = z := by omega
  rw [e2, e3, w64 (by omega) (by omega)]
theorem callR_inj : ∀ {l m : List Call}, l.map callR = m.map callR → l = m
  | [], [], _ => rfl
  | [], _ :: _, h => by cases h
  | _ :: _, [], h => by cases h
  | (a, b, c, d) :: l, (a', b', c', d') :: m, h => by
    simp only [List.map_cons, List.cons.injEq] at h
    obtain ⟨h1, h2⟩ := h
    simp only [callR, dn, List.cons.injEq, D.val.injEq, Value.int.injEq, true_and, and_true] at h1
    obtain ⟨rfl, rfl, rfl, rfl⟩ := h1
    rw [callR_inj h2]
theorem frS_ok {n : Nat} (hn : SpecOk Try.prog 15 (Sfrom n)) : AllOk Try.prog (frS n) := fun f k h => by
  unfold frS at h
  split at h
  · cases h; exact hn
  · cases h; exact okDone
  · cases h; exact okFree
  · exact smS_ok _ _ h
theorem XFr_ok {n : Nat} (hn : SpecOk Try.prog 15 (Sfrom n)) : CallOk Try.prog (XFr n) := callS_ok mixed (frS_ok hn) noT 10
theorem okFrom : ∀ n, SpecOk Try.prog 15 (Sfrom n)
  | 0 => fun args kb K h => by
    unfold Sfrom at h; split at h <;> try exact h.elim
    obtain ⟨l, m, o, t, rfl, rfl, rfl, rfl, hp, h⟩ := h
    exact absurd hp.fuel (Nat.not_lt_zero _)
  | n + 1 => specOk_nt (XFr_ok (okFrom n)) mixed [.mv 0 2] (fun args kb K h => by
    unfold Sfrom at h; split at h <;> try exact h.elim
    rename_i v _ _ M _
    obtain ⟨l, m, o, t, rfl, rfl, rfl, rfl, hp, h⟩ := h
    have hl := hp.len
    have hm14 : m < 2 ^ 14 := Nat.lt_of_lt_of_le hp.lt (Nat.pow_le_pow_right (by decide) hl)
    have hlo := hp.lo
    refine ⟨lpT l m v M o 15, vcFrom n l m v M o t _ ⟨l, m, rfl, rfl, by omega, by omega, fun hf => ?_, fun hf => ⟨fun cs hcs => ?_, fun hg => ?_, fun hg => ⟨?_, ?_⟩⟩⟩⟩
    · refine h true M o t ⟨fun _ => ⟨[], by simp, ?_⟩, fun f => by cases f⟩
      unfold Ext
      simpa using hf
    · rcases hp.seen.all _ (mget_mem hcs) with ⟨m', b, e, _⟩ | ⟨m', b, e, _⟩
      · simp only [Prod.mk.injEq] at e; rw [e.2]; exact ⟨true, [], rfl, rfl⟩
      · simp only [Prod.mk.injEq] at e; rw [e.2]; exact ⟨true, [], rfl, rfl⟩
    · refine h false M o t ⟨fun f => (by cases f), fun _ => ⟨rfl, ?_, fun e he => .inl he⟩⟩
      unfold mgetB at hg
      split at hg
      · rename_i cs hcs
        rcases hp.seen.all _ (mget_mem hcs) with ⟨m', b, e, hlt⟩ | ⟨m', b, e, hd⟩
        · simp only [Prod.mk.injEq, List.cons.injEq, and_true] at e
          omega
        · simp only [Prod.mk.injEq, List.cons.injEq, and_true] at e
          obtain ⟨⟨e1, e2⟩, _⟩ := e
          have e1' : m = m' := by omega
          subst e1'; subst e2
          exact hd
      · cases hg
    · rw [List.length_map]
      refine At.mk' ⟨(0, mset M [(m : Int), v] [db true], t), Nat.zero_le _, fun e he => ?_, fun j hj => absurd hj (Nat.not_lt_zero _)⟩ rfl
      rcases mset_mem he with he | he
      · exact .inl he
      · exact .inr (.inl he)
    rintro ⟨⟨k, M', t'⟩, hi⟩
    have hkl := hi.le
    have hseen := hi.seen
    have hno := hi.no
    simp only at hkl hseen hno
    have nx : ∀ M2 t2, (∀ e ∈ M2, e ∈ M ∨ e = ([(m : Int), v], [db true]) ∨ DeadE l e) → k < l.length → (free l m k → fitC (atC l k) v → Dead l (setB m k) (nxC (atC l k) v)) →
        Nx (lpLI l m v M o) ⟨(k, M', t'), hi⟩ ([V.ptr 0 0, V.int .i64 (m : Int), V.int .i64 v, V.dat (D.sl 4 (l.map callR)), V.int .i64 (l.length : Int), V.int .i64 (IntKind.i64.wrap ((k : Int) + 1))],
          [KO.cells [V.dat (D.sl 4 (l.map callR)), V.mp 1, V.sl 3 0 o.length], KO.mp [.i64, .i64] true false 1 M2, KO.dead, KO.row 3 1 (ints .i64 (o ++ t2))]) := fun M2 t2 hM hlt hd => by
      rw [w64 (by omega) (by omega)]
      refine Nx.mk' (⟨(k + 1, M2, t2), by simp only; omega, hM, fun j hj hf hft => ?_⟩ : {p : Nat × ML × List Int // LpInv l m v M p}) rfl (by show l.length - (k + 1) < l.length - k; omega)
      simp only at hj
      by_cases hjk : j = k
      · subst hjk; exact hd hf hft
      · exact hno j (by omega) hf hft
    simp only [decide_eq_true_eq, decide_eq_false_iff_not]
    refine ⟨fun hc => ?_, fun hc => ?_⟩
    · have hlt : k < l.length := by omega
      refine ⟨by unfold NonN; omega, callR (atC l k), callR_get hlt, (atC l k).1, rfl, (atC l k).2.1, rfl, (atC l k).2.2.1, rfl, (atC l k).2.2.2, rfl, fun hft => ?_, fun hft => ⟨l, m, k, rfl, rfl, rfl, by omega, by omega, hlt, fun hfr => ?_, fun hfr => ?_⟩⟩
      · simp only [Bool.not_eq_true', decide_eq_false_iff_not] at hft
        exact nx _ _ hseen hlt fun _ f => absurd f hft
      · simp only [Bool.not_eq_true', decide_eq_false_iff_not] at hfr
        exact nx _ _ hseen hlt fun f => absurd f hfr
      · simp only [Bool.not_eq_false', decide_eq_true_eq] at hfr hft
        have hgt := setB_gt hfr.1
        have hsl := setB_lt hp.lt hlt
        have hft' : fitC (atC l k) v := hft
        refine ⟨Nat.le_refl _, by rw [ints_len, List.length_append]; omega, by omega, fun f => by omega, l, setB m k, o ++ [(k : Int)], [], setB_i64 hm14 (by omega), rfl, ?_, by simp, ⟨hl, by rw [List.length_append, List.length_singleton]; omega, hsl, by have := hp.fuel; omega, ⟨fun e he => ?_⟩⟩, ?_⟩
        · rw [ints_take, List.take_left, List.append_nil, ints_app]; rfl
        · rcases hseen e he with h1 | h1 | h1
          · rcases hp.seen.all e h1 with ⟨m', b, e1, h2⟩ | h2
            · exact .inl ⟨m', b, e1, by omega⟩
            · exact .inr h2
          · exact .inl ⟨m, v, h1, hgt⟩
          · exact .inr h1
        · intro b M2 o2 t2 hpost
          refine ⟨fun hb => ?_, fun hb => ?_⟩
          · obtain ⟨r, h1, h2⟩ := hpost.t hb
            refine h true M2 o2 t2 ⟨fun _ => ⟨k :: r, ?_, hlt, hfr, hft', h2⟩, fun f => by cases f⟩
            rw [h1, List.append_assoc]; rfl
          · obtain ⟨h1, h2, h3⟩ := hpost.f hb
            subst h1
            have e0 : IntKind.i64.wrap ((((o ++ [(k : Int)]).length - 0 : Nat) : Int) - 1) = (o.length : Int) := by
              rw [List.length_append, List.length_singleton, w64 (by omega) (by omega)]; omega
            rw [e0, Int.toNat_natCast, Nat.zero_add]
            refine ⟨trivial, by unfold NonN; omega, Nat.zero_le _, by simp, ?_⟩
            have := nx M2 ((k : Int) :: t2) (fun e he => ?_) hlt (fun _ _ => h2)
            · rwa [show o ++ (k : Int) :: t2 = o ++ [(k : Int)] ++ t2 by simp] at this
            · rcases h3 e he with h4 | h4
              · exact hseen e h4
              · exact .inr (.inr h4)
    · have : k = l.length := by omega
      subst this
      have hdead : Dead l m v := by
        rintro ⟨r, hr⟩
        cases r with
        | nil => unfold Ext at hr; exact absurd hr (by simpa using hf)
        | cons j r =>
          obtain ⟨h1, h2, h3, h4⟩ := hr
          exact hno j h1 h2 h3 ⟨r, h4⟩
      refine h false M' o t' ⟨fun f => (by cases f), fun _ => ⟨rfl, hdead, fun e he => ?_⟩⟩
      rcases hseen e he with h1 | h1 | h1
      · exact .inl h1
      · exact .inr ⟨m, v, h1, hdead⟩
      · exact .inr h1)
end Go.Proofs.Ytodibmhakdhflaa
