import Derived.Test.YtffbeiaokmopgaaSp
import Derived.KernelRfl
namespace Go.Proofs.Ytffbeiaokmopgaa
open Vc Go
set_option linter.unusedVariables false
set_option linter.unusedSimpArgs false
set_option maxRecDepth 100000
abbrev Ev := Int × Int
def evR (e : Ev) : List D := [dn .i64 e.1, dn .i64 e.2]
def cntB (p : Int) (b : Bool) : Bool := (p == 1) || ((p == 2) && !b)
def tot (l : List Ev) (b : Bool) : Int := (l.countP fun e => cntB e.2 b : Nat)
def els (l : List Ev) (s : Int) (b : Bool) : Int := (l.countP fun e => (e.1 != s) && cntB e.2 b : Nat)
/-- What was done elsewhere since Begin was called with s last, the events the latest first. -/
def rBr (s : Int) (b : Bool) : List Ev → Int
  | [] => 0
  | e :: l => if e.2 = 0 ∧ e.1 = s then 0 else rBr s b l + if (e.1 != s) && cntB e.2 b then 1 else 0
def rB (l : List Ev) (s : Int) (b : Bool) : Int := rBr s b l.reverse
theorem rB_snoc {l : List Ev} {e : Ev} {s : Int} {b : Bool} : rB (l ++ [e]) s b = if e.2 = 0 ∧ e.1 = s then 0 else rB l s b + if (e.1 != s) && cntB e.2 b then 1 else 0 := by
  simp [rB, rBr]
theorem tot_snoc {l : List Ev} {e : Ev} {b : Bool} : tot (l ++ [e]) b = tot l b + if cntB e.2 b then 1 else 0 := by
  simp only [tot, List.countP_append, List.countP_cons, List.countP_nil]
  split <;> simp
theorem els_snoc {l : List Ev} {e : Ev} {s : Int} {b : Bool} : els (l ++ [e]) s b = els l s b + if (e.1 != s) && cntB e.2 b then 1 else 0 := by
  simp only [els, List.countP_append, List.countP_cons, List.countP_nil]
  split <;> simp
theorem rBr_nn {s : Int} {b : Bool} : ∀ l : List Ev, 0 ≤ rBr s b l ∧ rBr s b l ≤ l.length
  | [] => by simp [rBr]
  | e :: l => by
    have := rBr_nn (s := s) (b := b) l
    simp only [rBr, List.length_cons]
    split
    · omega
    · split <;> omega
theorem rB_nn {s : Int} {b : Bool} (l : List Ev) : 0 ≤ rB l s b ∧ rB l s b ≤ l.length := by
  have := rBr_nn (s := s) (b := b) l.reverse
  simpa [rB] using this
theorem tot_nn {b : Bool} (l : List Ev) : 0 ≤ tot l b ∧ tot l b ≤ l.length := by
  have := List.countP_le_length (p := fun e : Ev => cntB e.2 b) (l := l)
  unfold tot; omega
def S9 : FSpec := fun args kb K => match args, kb with
  | [.dat (.sl 2 L), .int .i64 s, .sb b], [] => ∃ l : List Ev, L = l.map evR ∧ l.length ≤ 1000 ∧ K (.int .i64 (rB l s b)) []
  | _, _ => False
def S12 : FSpec := fun args kb K => match args, kb with
  | [.dat (.sl 2 L), .sb b], [] => ∃ l : List Ev, L = l.map evR ∧ l.length ≤ 1000 ∧ K (.int .i64 (tot l b)) []
  | _, _ => False
def bInv (l : List Ev) (s : Int) (b : Bool) (x : Nat × Int) : Prop := x.1 ≤ l.length ∧ 0 ≤ x.2 ∧ x.2 + x.1 ≤ l.length ∧ rB l s b = x.2 + rB (l.take x.1) s b
abbrev bLI (l : List Ev) (s : Int) (b : Bool) : LI where
  α := {x : Nat × Int // bInv l s b x}
  live := [0, 1, 2, 7, 8]
  st x := ([.dat (.sl 2 (l.map evR)), .int .i64 s, .sb b, .int .i64 x.1.2, .int .i64 ((x.1.1 : Int) - 1)], [])
  μ x := x.1.1
abbrev tLI (l : List Ev) (b : Bool) : LI where
  α := {k : Nat // k ≤ l.length}
  live := [0, 1, 5, 6]
  st k := ([.dat (.sl 2 (l.map evR)), .sb b, .int .i64 (tot (l.take k.1) b), .int .i64 (k.1 : Int)], [])
  μ k := l.length - k.1
def bT (l : List Ev) (s : Int) (b : Bool) : FuncId → Nat → Option LI
  | 9, 3 => some (bLI l s b)
  | 12, 3 => some (tLI l b)
  | _, _ => none
noncomputable def XR : CallT := callS Try.prog rhoS noT 10
theorem XR_ok : CallOk Try.prog XR := callS_ok mixed rhoS_ok noT 10
theorem vc9 (l : List Ev) (s : Int) (b : Bool) (K : V → KB → Prop) (h :
 At (bLI l s b) ([V.dat (D.sl 2 (List.map evR l)), V.int IntKind.i64 s, V.sb b, V.int IntKind.i64 0, V.int IntKind.i64 (IntKind.i64.wrap ((↑(List.map evR l).length : Int) - 1))], []) ∧
 ∀ (i : { x // bInv l s b x }),
 (decide ((↑i.val.fst : Int) - 1 ≥ 0) = true →
 NonN ((↑i.val.fst : Int) - 1) ∧
 ∃ e,
 (List.map evR l)[((↑i.val.fst : Int) - 1).toNat]? = some e ∧
 ∃ n,
 e[1]? = some (D.val (Value.int IntKind.i64 n)) ∧
 ((n == 0) = true →
 NonN ((↑i.val.fst : Int) - 1) ∧
 ∃ e,
 (List.map evR l)[((↑i.val.fst : Int) - 1).toNat]? = some e ∧
 ∃ n,
 e[0]? = some (D.val (Value.int IntKind.i64 n)) ∧
 ((n == s) = true → K (V.int IntKind.i64 i.val.snd) []) ∧
 ((n == s) = false →
 NonN ((↑i.val.fst : Int) - 1) ∧
 ∃ e,
 (List.map evR l)[((↑i.val.fst : Int) - 1).toNat]? = some e ∧
 ∃ n,
 e[0]? = some (D.val (Value.int IntKind.i64 n)) ∧
 ((n != s) = true →
 NonN ((↑i.val.fst : Int) - 1) ∧
 ∃ e,
 (List.map evR l)[((↑i.val.fst : Int) - 1).toNat]? = some e ∧
 ∃ n,
 e[1]? = some (D.val (Value.int IntKind.i64 n)) ∧
 ((n == 1) = true → Nx (bLI l s b) i ([V.dat (D.sl 2 (List.map evR l)), V.int IntKind.i64 s, V.sb b, V.int IntKind.i64 (IntKind.i64.wrap (i.val.snd + 1)), V.int IntKind.i64 (IntKind.i64.wrap ((↑i.val.fst : Int) - 1 - 1))], [])) ∧
 ((n == 1) = false →
 NonN ((↑i.val.fst : Int) - 1) ∧
 ∃ e,
 (List.map evR l)[((↑i.val.fst : Int) - 1).toNat]? = some e ∧
 ∃ n,
 e[1]? = some (D.val (Value.int IntKind.i64 n)) ∧
 ((n == 2) = true →
 ((!b) = true → Nx (bLI l s b) i ([V.dat (D.sl 2 (List.map evR l)), V.int IntKind.i64 s, V.sb b, V.int IntKind.i64 (IntKind.i64.wrap (i.val.snd + 1)), V.int IntKind.i64 (IntKind.i64.wrap ((↑i.val.fst : Int) - 1 - 1))], [])) ∧
 ((!b) = false → Nx (bLI l s b) i ([V.dat (D.sl 2 (List.map evR l)), V.int IntKind.i64 s, V.sb b, V.int IntKind.i64 i.val.snd, V.int IntKind.i64 (IntKind.i64.wrap ((↑i.val.fst : Int) - 1 - 1))], []))) ∧
 ((n == 2) = false → Nx (bLI l s b) i ([V.dat (D.sl 2 (List.map evR l)), V.int IntKind.i64 s, V.sb b, V.int IntKind.i64 i.val.snd, V.int IntKind.i64 (IntKind.i64.wrap ((↑i.val.fst : Int) - 1 - 1))], [])))) ∧
 ((n != s) = false → Nx (bLI l s b) i ([V.dat (D.sl 2 (List.map evR l)), V.int IntKind.i64 s, V.sb b, V.int IntKind.i64 i.val.snd, V.int IntKind.i64 (IntKind.i64.wrap ((↑i.val.fst : Int) - 1 - 1))], [])))) ∧
 ((n == 0) = false →
 NonN ((↑i.val.fst : Int) - 1) ∧
 ∃ e,
 (List.map evR l)[((↑i.val.fst : Int) - 1).toNat]? = some e ∧
 ∃ n,
 e[0]? = some (D.val (Value.int IntKind.i64 n)) ∧
 ((n != s) = true →
 NonN ((↑i.val.fst : Int) - 1) ∧
 ∃ e,
 (List.map evR l)[((↑i.val.fst : Int) - 1).toNat]? = some e ∧
 ∃ n,
 e[1]? = some (D.val (Value.int IntKind.i64 n)) ∧
 ((n == 1) = true → Nx (bLI l s b) i ([V.dat (D.sl 2 (List.map evR l)), V.int IntKind.i64 s, V.sb b, V.int IntKind.i64 (IntKind.i64.wrap (i.val.snd + 1)), V.int IntKind.i64 (IntKind.i64.wrap ((↑i.val.fst : Int) - 1 - 1))], [])) ∧
 ((n == 1) = false →
 NonN ((↑i.val.fst : Int) - 1) ∧
 ∃ e,
 (List.map evR l)[((↑i.val.fst : Int) - 1).toNat]? = some e ∧
 ∃ n,
 e[1]? = some (D.val (Value.int IntKind.i64 n)) ∧
 ((n == 2) = true →
 ((!b) = true → Nx (bLI l s b) i ([V.dat (D.sl 2 (List.map evR l)), V.int IntKind.i64 s, V.sb b, V.int IntKind.i64 (IntKind.i64.wrap (i.val.snd + 1)), V.int IntKind.i64 (IntKind.i64.wrap ((↑i.val.fst : Int) - 1 - 1))], [])) ∧
 ((!b) = false → Nx (bLI l s b) i ([V.dat (D.sl 2 (List.map evR l)), V.int IntKind.i64 s, V.sb b, V.int IntKind.i64 i.val.snd, V.int IntKind.i64 (IntKind.i64.wrap ((↑i.val.fst : Int) - 1 - 1))], []))) ∧
 ((n == 2) = false → Nx (bLI l s b) i ([V.dat (D.sl 2 (List.map evR l)), V.int IntKind.i64 s, V.sb b, V.int IntKind.i64 i.val.snd, V.int IntKind.i64 (IntKind.i64.wrap ((↑i.val.fst : Int) - 1 - 1))], [])))) ∧
 ((n != s) = false → Nx (bLI l s b) i ([V.dat (D.sl 2 (List.map evR l)), V.int IntKind.i64 s, V.sb b, V.int IntKind.i64 i.val.snd, V.int IntKind.i64 (IntKind.i64.wrap ((↑i.val.fst : Int) - 1 - 1))], [])))) ∧
 (decide ((↑i.val.fst : Int) - 1 ≥ 0) = false → K (V.int IntKind.i64 i.val.snd) [])
 ) : runSpec Try.prog X0 (bT l s b 9) 9 [.dat (.sl 2 (l.map evR)), .int .i64 s, .sb b] [] K := Eq.mp (by kernel_rfl) h
theorem vc12 (l : List Ev) (b : Bool) (K : V → KB → Prop) (h :
 At (tLI l b) ([V.dat (D.sl 2 (List.map evR l)), V.sb b, V.int IntKind.i64 0, V.int IntKind.i64 0], []) ∧
 ∀ (i : { k // k ≤ l.length }),
 (decide ((↑i.val : Int) < (↑(List.map evR l).length : Int)) = true →
 NonN (↑i.val : Int) ∧
 ∃ e,
 (List.map evR l)[(↑i.val : Int).toNat]? = some e ∧
 ∃ n,
 e[1]? = some (D.val (Value.int IntKind.i64 n)) ∧
 ((n == 1) = true → Nx (tLI l b) i ([V.dat (D.sl 2 (List.map evR l)), V.sb b, V.int IntKind.i64 (IntKind.i64.wrap (tot (List.take i.val l) b + 1)), V.int IntKind.i64 (IntKind.i64.wrap ((↑i.val : Int) + 1))], [])) ∧
 ((n == 1) = false →
 NonN (↑i.val : Int) ∧
 ∃ e,
 (List.map evR l)[(↑i.val : Int).toNat]? = some e ∧
 ∃ n,
 e[1]? = some (D.val (Value.int IntKind.i64 n)) ∧
 ((n == 2) = true →
 ((!b) = true → Nx (tLI l b) i ([V.dat (D.sl 2 (List.map evR l)), V.sb b, V.int IntKind.i64 (IntKind.i64.wrap (tot (List.take i.val l) b + 1)), V.int IntKind.i64 (IntKind.i64.wrap ((↑i.val : Int) + 1))], [])) ∧
 ((!b) = false → Nx (tLI l b) i ([V.dat (D.sl 2 (List.map evR l)), V.sb b, V.int IntKind.i64 (tot (List.take i.val l) b), V.int IntKind.i64 (IntKind.i64.wrap ((↑i.val : Int) + 1))], []))) ∧
 ((n == 2) = false → Nx (tLI l b) i ([V.dat (D.sl 2 (List.map evR l)), V.sb b, V.int IntKind.i64 (tot (List.take i.val l) b), V.int IntKind.i64 (IntKind.i64.wrap ((↑i.val : Int) + 1))], [])))) ∧
 (decide ((↑i.val : Int) < (↑(List.map evR l).length : Int)) = false → K (V.int IntKind.i64 (tot (List.take i.val l) b)) [])
 ) : runSpec Try.prog X0 (bT l 0 b 12) 12 [.dat (.sl 2 (l.map evR)), .sb b] [] K := Eq.mp (by kernel_rfl) h
theorem vc7  (K : V → KB → Prop) (h :
 ∃ lo lt,
 prs [(1, 1, 1)] = prs lo ∧
 prs [] = prs lt ∧
 ∃ lo_1 lt_1,
 prs lo = prs lo_1 ∧
 prs (pset lt 2 (IntKind.i64.wrap (1 - pD lo 2)) (IntKind.i64.wrap (1 - pR lo 2))) = prs lt_1 ∧
 ((IntKind.i64.wrap (IntKind.i64.wrap (1 - pD lo 2) - pD lt 2) == 1) = true → ((IntKind.i64.wrap (IntKind.i64.wrap (1 - pR lo 2) - pR lt 2) == 1) = true → K (V.sb (IntKind.i64.wrap (IntKind.i64.wrap (1 - pD lo_1 2) - pD lt_1 2) == 0)) []) ∧ ((IntKind.i64.wrap (IntKind.i64.wrap (1 - pR lo 2) - pR lt 2) == 1) = false → K (V.sb false) [])) ∧
 ((IntKind.i64.wrap (IntKind.i64.wrap (1 - pD lo 2) - pD lt 2) == 1) = false → K (V.sb false) [])
 ) : runSpec Try.prog XR (noT 7) 7 [] [] K := Eq.mp (by kernel_rfl) h

theorem ok9 : SpecOk Try.prog 9 S9 := specOk_of' X0_ok mixed (fun args kb K h => by
  unfold S9 at h; split at h <;> try exact h.elim
  rename_i L s b
  obtain ⟨l, rfl, hlen, h⟩ := h
  refine ⟨bT l s b 9, vc9 l s b K ⟨At.mk' ⟨(l.length, 0), by simp [bInv]⟩ ?_, ?_⟩⟩
  · simp only [List.length_map]
    rw [w64 (by omega) (by omega)]
  rintro ⟨⟨k, n⟩, hk, hn, hkn, hr⟩
  simp only at hk hn hkn hr ⊢
  have hw := rB_nn (s := s) (b := b) l
  refine ⟨fun hc => ?_, fun hc => ?_⟩
  · simp only [decide_eq_true_eq] at hc
    obtain ⟨q, rfl⟩ : ∃ q, k = q + 1 := ⟨k - 1, by omega⟩
    have e1 : ((q + 1 : Nat) : Int) - 1 = q := by omega
    have e2 : ((q : Nat) : Int).toNat = q := by omega
    have hq : l[q]? = some l[q] := List.getElem?_eq_getElem (by omega)
    have ht : l.take (q + 1) = l.take q ++ [l[q]] := by rw [List.take_add_one, hq]; rfl
    rw [ht, rB_snoc] at hr
    have w1 := w64 (n := n + 1) (by omega) (by omega)
    have w2 := w64 (n := (q : Int) - 1) (by omega) (by omega)
    simp only [e1, e2, w1, w2, List.getElem?_map, hq, Option.map_some, Option.some.injEq, exists_eq_left', evR, dn, List.getElem?_cons_zero, List.getElem?_cons_succ, D.val.injEq, Value.int.injEq, true_and]
    have key : ∀ n' : Int, 0 ≤ n' → n' + q ≤ l.length → rB l s b = n' + rB (l.take q) s b → Nx (bLI l s b) ⟨(q + 1, n), hk, hn, hkn, by rw [ht, rB_snoc]; exact hr⟩ ([V.dat (D.sl 2 (List.map evR l)), V.int IntKind.i64 s, V.sb b, V.int IntKind.i64 n', V.int IntKind.i64 ((q : Int) - 1)], []) :=
      fun n' a1 a2 a3 => Nx.mk' ⟨(q, n'), by simp only [bInv]; omega⟩ rfl (by show q < q + 1; omega)
    have hnn : NonN (q : Int) := by unfold NonN; omega
    obtain ⟨R, hR⟩ : ∃ R : Int → Prop, ∀ n', Nx (bLI l s b) ⟨(q + 1, n), hk, hn, hkn, by rw [ht, rB_snoc]; exact hr⟩ ([V.dat (D.sl 2 (List.map evR l)), V.int IntKind.i64 s, V.sb b, V.int IntKind.i64 n', V.int IntKind.i64 ((q : Int) - 1)], []) = R n' := ⟨_, fun _ => rfl⟩
    simp only [hnn, true_and, hR] at key ⊢
    clear hR
    unfold cntB at hr
    simp only [beq_iff_eq, bne_iff_ne, ne_eq, beq_eq_false_iff_ne, bne_eq_false_iff_eq, Bool.and_eq_true, Bool.or_eq_true, Bool.not_eq_true', Bool.not_eq_false', Bool.and_eq_false_iff, Bool.or_eq_false_iff, decide_eq_true_eq, decide_eq_false_iff_not] at hr ⊢
    grind (splits := 30)
  · simp only [decide_eq_false_iff_not] at hc
    have : k = 0 := by omega
    subst this
    have : rB l s b = n := by simpa [rB, rBr] using hr
    rw [← this]
    exact h)
theorem ok12 : SpecOk Try.prog 12 S12 := specOk_of' X0_ok mixed (fun args kb K h => by
  unfold S12 at h; split at h <;> try exact h.elim
  rename_i L b
  obtain ⟨l, rfl, hlen, h⟩ := h
  refine ⟨bT l 0 b 12, vc12 l b K ⟨At.mk' ⟨0, Nat.zero_le _⟩ rfl, ?_⟩⟩
  rintro ⟨k, hk⟩
  simp only [List.length_map]
  have hw := tot_nn (b := b) (l.take k)
  rw [List.length_take] at hw
  refine ⟨fun hc => ?_, fun hc => ?_⟩
  · simp only [decide_eq_true_eq] at hc
    have e2 : ((k : Nat) : Int).toNat = k := by omega
    have hq : l[k]? = some l[k] := List.getElem?_eq_getElem (by omega)
    have ht : l.take (k + 1) = l.take k ++ [l[k]] := by rw [List.take_add_one, hq]; rfl
    have hr : tot (l.take (k + 1)) b = tot (l.take k) b + if cntB l[k].2 b then 1 else 0 := by rw [ht, tot_snoc]
    have w1 := w64 (n := tot (l.take k) b + 1) (by omega) (by omega)
    have w2 := w64 (n := (k : Int) + 1) (by omega) (by omega)
    simp only [e2, w1, w2, List.getElem?_map, hq, Option.map_some, Option.some.injEq, exists_eq_left', evR, dn, List.getElem?_cons_zero, List.getElem?_cons_succ, D.val.injEq, Value.int.injEq, true_and]
    have key : ∀ n', n' = tot (l.take (k + 1)) b → Nx (tLI l b) ⟨k, hk⟩ ([V.dat (D.sl 2 (List.map evR l)), V.sb b, V.int IntKind.i64 n', V.int IntKind.i64 ((k : Int) + 1)], []) :=
      fun n' a => Nx.mk' ⟨k + 1, by omega⟩ (by rw [a]; rfl) (by show l.length - (k + 1) < l.length - k; omega)
    have hnn : NonN (k : Int) := by unfold NonN; omega
    obtain ⟨R, hR⟩ : ∃ R : Int → Prop, ∀ n', Nx (tLI l b) ⟨k, hk⟩ ([V.dat (D.sl 2 (List.map evR l)), V.sb b, V.int IntKind.i64 n', V.int IntKind.i64 ((k : Int) + 1)], []) = R n' := ⟨_, fun _ => rfl⟩
    simp only [hnn, true_and, hR] at key ⊢
    clear hR
    unfold cntB at hr
    simp only [beq_iff_eq, bne_iff_ne, ne_eq, beq_eq_false_iff_ne, bne_eq_false_iff_eq, Bool.and_eq_true, Bool.or_eq_true, Bool.not_eq_true', Bool.not_eq_false', Bool.and_eq_false_iff, Bool.or_eq_false_iff, decide_eq_true_eq, decide_eq_false_iff_not] at hr ⊢
    grind (splits := 30)
  · simp only [decide_eq_false_iff_not] at hc
    rw [List.take_of_length_le (by omega)]
    exact h)
def S7 : FSpec := fun args kb K => match args, kb with | [], [] => K (.sb true) [] | _, _ => False

end Go.Proofs.Ytffbeiaokmopgaa
