import Derived.Test.YtffbeiaokmopgaaTk
import Derived.KernelRfl
namespace Go.Proofs.Ytffbeiaokmopgaa
open Vc Go
set_option linter.unusedVariables false
set_option maxRecDepth 100000
abbrev nilM : V := .any (.map none)
def tnInv (l : List Ev) (i : Nat) : Prop := i ≤ l.length ∧ TkN (l.take i)
def tsInv (l : List Ev) (x : (Nat × Int × Int) × PL × PL) : Prop := x.1.1 ≤ l.length ∧ Tk (l.take x.1.1) x.1.2.1 x.1.2.2 x.2.1 x.2.2
abbrev tellLI (l : List Ev) : LI where
  α := {i : Nat // tnInv l i} ⊕ {x : (Nat × Int × Int) × PL × PL // tsInv l x}
  live := [0, 3, 4]
  st := fun
    | .inl i => ([.dat (.sl 2 (l.map evR)), .ptr 0 0, .int .i64 (i.1 : Int)], [.cells [.int .i64 0, .int .i64 0, .any (.map none), .any (.map none)]])
    | .inr x => ([.dat (.sl 2 (l.map evR)), .ptr 0 0, .int .i64 (x.1.1.1 : Int)], [.cells [.int .i64 x.1.1.2.1, .int .i64 x.1.1.2.2, .mp 1, .mp 2], .mp [.i64] false true 2 (prs x.1.2.1), .mp [.i64] false true 2 (prs x.1.2.2)])
  μ := fun
    | .inl i => l.length - i.1
    | .inr x => l.length - x.1.1.1
  all := fun Q => (∀ a, Q (.inl a)) ∧ ∀ b, Q (.inr b)
  all_ok := fun Q h i => match i with | .inl a => h.1 a | .inr b => h.2 b
def tellT (l : List Ev) : FuncId → Nat → Option LI
  | 3, 5 => some (tellLI l)
  | _, _ => none
noncomputable def XT (l : List Ev) : CallT := callS Try.prog lawS (tellT l) 10
theorem vc3 (l : List Ev)  (h :
 (decide ((↑(List.map evR l).length : Int) > 100) = true → true = true) ∧
 (decide ((↑(List.map evR l).length : Int) > 100) = false →
 At (tellLI l) ([V.dat (D.sl 2 (List.map evR l)), V.ptr 0 0, V.int IntKind.i64 0], [KO.cells [V.int IntKind.i64 0, V.int IntKind.i64 0, V.any (Value.map none), V.any (Value.map none)]]) ∧
 (∀ (a : { i // tnInv l i }),
 (decide ((↑a.val : Int) < (↑(List.map evR l).length : Int)) = true →
 NonN (↑a.val : Int) ∧
 ∃ e,
 (List.map evR l)[(↑a.val : Int).toNat]? = some e ∧
 ∃ n,
 e[1]? = some (D.val (Value.int IntKind.i64 n)) ∧
 ((n == 0) = true →
 NonN (↑a.val : Int) ∧
 ∃ e,
 (List.map evR l)[(↑a.val : Int).toNat]? = some e ∧
 ∃ n,
 e[0]? = some (D.val (Value.int IntKind.i64 n)) ∧
 True ∧
 NonN (↑a.val : Int) ∧
 0 ≤ (↑a.val : Int).toNat ∧
 (↑a.val : Int).toNat ≤ (List.map evR l).length ∧
 NonN (↑a.val : Int) ∧
 ∃ e,
 (List.map evR l)[(↑a.val : Int).toNat]? = some e ∧
 ∃ n,
 e[0]? = some (D.val (Value.int IntKind.i64 n)) ∧
 ∃ l_1,
 List.drop 0 (List.take (↑a.val : Int).toNat (List.map evR l)) = List.map evR l_1 ∧
 l_1.length ≤ 1000 ∧
 ((0 != rB l_1 n false) = true → False) ∧
 ((0 != rB l_1 n false) = false →
 True ∧
 NonN (↑a.val : Int) ∧
 0 ≤ (↑a.val : Int).toNat ∧
 (↑a.val : Int).toNat ≤ (List.map evR l).length ∧
 NonN (↑a.val : Int) ∧
 ∃ e,
 (List.map evR l)[(↑a.val : Int).toNat]? = some e ∧
 ∃ n,
 e[0]? = some (D.val (Value.int IntKind.i64 n)) ∧
 ∃ l_2,
 List.drop 0 (List.take (↑a.val : Int).toNat (List.map evR l)) = List.map evR l_2 ∧
 l_2.length ≤ 1000 ∧
 ((0 != rB l_2 n true) = true → False) ∧
 ((0 != rB l_2 n true) = false →
 True ∧
 NonN (IntKind.i64.wrap ((↑a.val : Int) + 1)) ∧
 0 ≤ (IntKind.i64.wrap ((↑a.val : Int) + 1)).toNat ∧
 (IntKind.i64.wrap ((↑a.val : Int) + 1)).toNat ≤ (List.map evR l).length ∧
 ∃ l_3,
 List.drop 0 (List.take (IntKind.i64.wrap ((↑a.val : Int) + 1)).toNat (List.map evR l)) = List.map evR l_3 ∧
 l_3.length ≤ 1000 ∧
 ((0 != tot l_3 false) = true → False) ∧
 ((0 != tot l_3 false) = false →
 True ∧
 NonN (IntKind.i64.wrap ((↑a.val : Int) + 1)) ∧
 0 ≤ (IntKind.i64.wrap ((↑a.val : Int) + 1)).toNat ∧
 (IntKind.i64.wrap ((↑a.val : Int) + 1)).toNat ≤ (List.map evR l).length ∧
 ∃ l_4,
 List.drop 0 (List.take (IntKind.i64.wrap ((↑a.val : Int) + 1)).toNat (List.map evR l)) = List.map evR l_4 ∧
 l_4.length ≤ 1000 ∧
 ((0 != tot l_4 true) = true → False) ∧
 ((0 != tot l_4 true) = false → Nx (tellLI l) (Sum.inl a) ([V.dat (D.sl 2 (List.map evR l)), V.ptr 0 0, V.int IntKind.i64 (IntKind.i64.wrap ((↑a.val : Int) + 1))], [KO.cells [V.int IntKind.i64 0, V.int IntKind.i64 0, V.any (Value.map none), V.any (Value.map none)]])))))) ∧
 ((n == 0) = false →
 NonN (↑a.val : Int) ∧
 ∃ e,
 (List.map evR l)[(↑a.val : Int).toNat]? = some e ∧
 ∃ n,
 e[0]? = some (D.val (Value.int IntKind.i64 n)) ∧
 NonN (↑a.val : Int) ∧
 ∃ e,
 (List.map evR l)[(↑a.val : Int).toNat]? = some e ∧
 ∃ n_1,
 e[1]? = some (D.val (Value.int IntKind.i64 n_1)) ∧
 True ∧
 NonN (IntKind.i64.wrap ((↑a.val : Int) + 1)) ∧
 0 ≤ (IntKind.i64.wrap ((↑a.val : Int) + 1)).toNat ∧
 (IntKind.i64.wrap ((↑a.val : Int) + 1)).toNat ≤ (List.map evR l).length ∧
 ∃ l_1,
 List.drop 0 (List.take (IntKind.i64.wrap ((↑a.val : Int) + 1)).toNat (List.map evR l)) = List.map evR l_1 ∧
 l_1.length ≤ 1000 ∧
 ((upD 0 n_1 != tot l_1 false) = true → False) ∧
 ((upD 0 n_1 != tot l_1 false) = false →
 True ∧
 NonN (IntKind.i64.wrap ((↑a.val : Int) + 1)) ∧
 0 ≤ (IntKind.i64.wrap ((↑a.val : Int) + 1)).toNat ∧
 (IntKind.i64.wrap ((↑a.val : Int) + 1)).toNat ≤ (List.map evR l).length ∧
 ∃ l_2,
 List.drop 0 (List.take (IntKind.i64.wrap ((↑a.val : Int) + 1)).toNat (List.map evR l)) = List.map evR l_2 ∧
 l_2.length ≤ 1000 ∧
 ((upR 0 n_1 != tot l_2 true) = true → False) ∧
 ((upR 0 n_1 != tot l_2 true) = false →
 Nx (tellLI l) (Sum.inl a)
 ([V.dat (D.sl 2 (List.map evR l)), V.ptr 0 0, V.int IntKind.i64 (IntKind.i64.wrap ((↑a.val : Int) + 1))],
 [KO.cells [V.int IntKind.i64 (upD 0 n_1), V.int IntKind.i64 (upR 0 n_1), V.mp 1, V.mp 2], KO.mp [IntKind.i64] false true 2 [(fun p => ([p.fst], [dn IntKind.i64 p.snd.fst, dn IntKind.i64 p.snd.snd])) (n, upD 0 n_1, upR 0 n_1)], KO.mp [IntKind.i64] false true 2 (prs [])]))))) ∧
 (decide ((↑a.val : Int) < (↑(List.map evR l).length : Int)) = false → true = true)) ∧
 ∀ (b : { x // tsInv l x }),
 (decide ((↑b.val.fst.fst : Int) < (↑(List.map evR l).length : Int)) = true →
 NonN (↑b.val.fst.fst : Int) ∧
 ∃ e,
 (List.map evR l)[(↑b.val.fst.fst : Int).toNat]? = some e ∧
 ∃ n,
 e[1]? = some (D.val (Value.int IntKind.i64 n)) ∧
 ((n == 0) = true →
 NonN (↑b.val.fst.fst : Int) ∧
 ∃ e,
 (List.map evR l)[(↑b.val.fst.fst : Int).toNat]? = some e ∧
 ∃ n,
 e[0]? = some (D.val (Value.int IntKind.i64 n)) ∧
 ∃ lo lt,
 prs b.val.snd.fst = prs lo ∧
 prs b.val.snd.snd = prs lt ∧
 True ∧
 NonN (↑b.val.fst.fst : Int) ∧
 0 ≤ (↑b.val.fst.fst : Int).toNat ∧
 (↑b.val.fst.fst : Int).toNat ≤ (List.map evR l).length ∧
 NonN (↑b.val.fst.fst : Int) ∧
 ∃ e,
 (List.map evR l)[(↑b.val.fst.fst : Int).toNat]? = some e ∧
 ∃ n_1,
 e[0]? = some (D.val (Value.int IntKind.i64 n_1)) ∧
 ∃ l_1,
 List.drop 0 (List.take (↑b.val.fst.fst : Int).toNat (List.map evR l)) = List.map evR l_1 ∧
 l_1.length ≤ 1000 ∧
 ((IntKind.i64.wrap (IntKind.i64.wrap (b.val.fst.snd.fst - pD lo n) - pD lt n) != rB l_1 n_1 false) = true → False) ∧
 ((IntKind.i64.wrap (IntKind.i64.wrap (b.val.fst.snd.fst - pD lo n) - pD lt n) != rB l_1 n_1 false) = false →
 True ∧
 NonN (↑b.val.fst.fst : Int) ∧
 0 ≤ (↑b.val.fst.fst : Int).toNat ∧
 (↑b.val.fst.fst : Int).toNat ≤ (List.map evR l).length ∧
 NonN (↑b.val.fst.fst : Int) ∧
 ∃ e,
 (List.map evR l)[(↑b.val.fst.fst : Int).toNat]? = some e ∧
 ∃ n_2,
 e[0]? = some (D.val (Value.int IntKind.i64 n_2)) ∧
 ∃ l_2,
 List.drop 0 (List.take (↑b.val.fst.fst : Int).toNat (List.map evR l)) = List.map evR l_2 ∧
 l_2.length ≤ 1000 ∧
 ((IntKind.i64.wrap (IntKind.i64.wrap (b.val.fst.snd.snd - pR lo n) - pR lt n) != rB l_2 n_2 true) = true → False) ∧
 ((IntKind.i64.wrap (IntKind.i64.wrap (b.val.fst.snd.snd - pR lo n) - pR lt n) != rB l_2 n_2 true) = false →
 True ∧
 NonN (IntKind.i64.wrap ((↑b.val.fst.fst : Int) + 1)) ∧
 0 ≤ (IntKind.i64.wrap ((↑b.val.fst.fst : Int) + 1)).toNat ∧
 (IntKind.i64.wrap ((↑b.val.fst.fst : Int) + 1)).toNat ≤ (List.map evR l).length ∧
 ∃ l_3,
 List.drop 0 (List.take (IntKind.i64.wrap ((↑b.val.fst.fst : Int) + 1)).toNat (List.map evR l)) = List.map evR l_3 ∧
 l_3.length ≤ 1000 ∧
 ((b.val.fst.snd.fst != tot l_3 false) = true → False) ∧
 ((b.val.fst.snd.fst != tot l_3 false) = false →
 True ∧
 NonN (IntKind.i64.wrap ((↑b.val.fst.fst : Int) + 1)) ∧
 0 ≤ (IntKind.i64.wrap ((↑b.val.fst.fst : Int) + 1)).toNat ∧
 (IntKind.i64.wrap ((↑b.val.fst.fst : Int) + 1)).toNat ≤ (List.map evR l).length ∧
 ∃ l_4,
 List.drop 0 (List.take (IntKind.i64.wrap ((↑b.val.fst.fst : Int) + 1)).toNat (List.map evR l)) = List.map evR l_4 ∧
 l_4.length ≤ 1000 ∧
 ((b.val.fst.snd.snd != tot l_4 true) = true → False) ∧
 ((b.val.fst.snd.snd != tot l_4 true) = false →
 Nx (tellLI l) (Sum.inr b)
 ([V.dat (D.sl 2 (List.map evR l)), V.ptr 0 0, V.int IntKind.i64 (IntKind.i64.wrap ((↑b.val.fst.fst : Int) + 1))],
 [KO.cells [V.int IntKind.i64 b.val.fst.snd.fst, V.int IntKind.i64 b.val.fst.snd.snd, V.mp 1, V.mp 2], KO.mp [IntKind.i64] false true 2 (prs lo),
 KO.mp [IntKind.i64] false true 2 (prs (pset lt n (IntKind.i64.wrap (b.val.fst.snd.fst - pD lo n)) (IntKind.i64.wrap (b.val.fst.snd.snd - pR lo n))))])))))) ∧
 ((n == 0) = false →
 NonN (↑b.val.fst.fst : Int) ∧
 ∃ e,
 (List.map evR l)[(↑b.val.fst.fst : Int).toNat]? = some e ∧
 ∃ n,
 e[0]? = some (D.val (Value.int IntKind.i64 n)) ∧
 NonN (↑b.val.fst.fst : Int) ∧
 ∃ e,
 (List.map evR l)[(↑b.val.fst.fst : Int).toNat]? = some e ∧
 ∃ n_1,
 e[1]? = some (D.val (Value.int IntKind.i64 n_1)) ∧
 ∃ l_1,
 prs b.val.snd.fst = prs l_1 ∧
 True ∧
 NonN (IntKind.i64.wrap ((↑b.val.fst.fst : Int) + 1)) ∧
 0 ≤ (IntKind.i64.wrap ((↑b.val.fst.fst : Int) + 1)).toNat ∧
 (IntKind.i64.wrap ((↑b.val.fst.fst : Int) + 1)).toNat ≤ (List.map evR l).length ∧
 ∃ l_2,
 List.drop 0 (List.take (IntKind.i64.wrap ((↑b.val.fst.fst : Int) + 1)).toNat (List.map evR l)) = List.map evR l_2 ∧
 l_2.length ≤ 1000 ∧
 ((upD b.val.fst.snd.fst n_1 != tot l_2 false) = true → False) ∧
 ((upD b.val.fst.snd.fst n_1 != tot l_2 false) = false →
 True ∧
 NonN (IntKind.i64.wrap ((↑b.val.fst.fst : Int) + 1)) ∧
 0 ≤ (IntKind.i64.wrap ((↑b.val.fst.fst : Int) + 1)).toNat ∧
 (IntKind.i64.wrap ((↑b.val.fst.fst : Int) + 1)).toNat ≤ (List.map evR l).length ∧
 ∃ l_3,
 List.drop 0 (List.take (IntKind.i64.wrap ((↑b.val.fst.fst : Int) + 1)).toNat (List.map evR l)) = List.map evR l_3 ∧
 l_3.length ≤ 1000 ∧
 ((upR b.val.fst.snd.snd n_1 != tot l_3 true) = true → False) ∧
 ((upR b.val.fst.snd.snd n_1 != tot l_3 true) = false →
 Nx (tellLI l) (Sum.inr b)
 ([V.dat (D.sl 2 (List.map evR l)), V.ptr 0 0, V.int IntKind.i64 (IntKind.i64.wrap ((↑b.val.fst.fst : Int) + 1))],
 [KO.cells [V.int IntKind.i64 (upD b.val.fst.snd.fst n_1), V.int IntKind.i64 (upR b.val.fst.snd.snd n_1), V.mp 1, V.mp 2], KO.mp [IntKind.i64] false true 2 (prs (pset l_1 n (upD (pD l_1 n) n_1) (upR (pR l_1 n) n_1))), KO.mp [IntKind.i64] false true 2 (prs b.val.snd.snd)]))))) ∧
 (decide ((↑b.val.fst.fst : Int) < (↑(List.map evR l).length : Int)) = false → true = true))
 ) : XT l 3 [.dat (.sl 2 (l.map evR))] [] KT := Eq.mp (by kernel_rfl) h
theorem XT_ok (l : List Ev) : CallOk Try.prog (XT l) := callS_ok mixed lawS_ok (tellT l) 10

theorem evR_inj {a b : List Ev} : a.map evR = b.map evR ↔ a = b := by
  constructor
  · intro h
    induction a generalizing b with
    | nil => cases b with | nil => rfl | cons x b => simp at h
    | cons x a ih =>
      cases b with
      | nil => simp at h
      | cons y b =>
        obtain ⟨x1, x2⟩ := x
        obtain ⟨y1, y2⟩ := y
        simp only [List.map_cons, evR, List.cons.injEq, dn, D.val.injEq, Value.int.injEq, true_and, and_true] at h
        obtain ⟨⟨rfl, rfl⟩, h⟩ := h
        rw [ih h]
  · rintro rfl; rfl
theorem lawTells (l : List Ev) : XT l 3 [.dat (.sl 2 (l.map evR))] [] KT := by
  refine vc3 l ⟨fun _ => rfl, fun hlen => ?_⟩
  simp only [List.length_map, decide_eq_false_iff_not] at hlen
  refine ⟨At.mk' (.inl ⟨0, Nat.zero_le _, fun e he => by simp at he⟩) rfl, ?_, ?_⟩
  · rintro ⟨i, hi, hN⟩
    refine ⟨fun hc => ?_, fun hc => rfl⟩
    simp only [List.length_map, decide_eq_true_eq] at hc
    have e2 : ((i : Nat) : Int).toNat = i := by omega
    have e3 : ((i : Int) + 1).toNat = i + 1 := by omega
    have hq : l[i]? = some l[i] := List.getElem?_eq_getElem (by omega)
    have ht : l.take (i + 1) = l.take i ++ [l[i]] := by rw [List.take_add_one, hq]; rfl
    have w2 := w64 (n := (i : Int) + 1) (by omega) (by omega)
    have hnn : NonN (i : Int) := by unfold NonN; omega
    have hnn2 : NonN ((i : Int) + 1) := by unfold NonN; omega
    have l1 : i ≤ l.length := by omega
    have l2 : i + 1 ≤ l.length := by omega
    have l3 : (l.take i).length ≤ 1000 := by simp; omega
    have l4 : (l.take (i + 1)).length ≤ 1000 := by simp; omega
    obtain ⟨z1, z2, z3⟩ := hN.zero
    simp only [e2, e3, w2, hq, hnn, hnn2, l1, l2, l3, l4, List.drop_zero, ← List.map_take, evR_inj, evR, List.length_map, Nat.zero_le, z1, z2, z3, List.getElem?_map, Option.map_some, Option.some.injEq, exists_eq_left', dn, db, List.getElem?_cons_zero, List.getElem?_cons_succ, D.val.injEq, D.sl.injEq, Value.int.injEq, Value.bool.injEq, true_and, beq_iff_eq, bne_iff_ne, ne_eq, beq_eq_false_iff_ne, bne_eq_false_iff_eq, Bool.and_eq_true, Bool.or_eq_true, Bool.not_eq_true', Bool.not_eq_false', Bool.and_eq_false_iff, Bool.or_eq_false_iff, decide_eq_true_eq, decide_eq_false_iff_not]
    refine ⟨fun hp => ?_, fun hp => ?_⟩
    · have hN' : TkN (l.take (i + 1)) := by
        rw [ht, show l[i] = (l[i].1, 0) by rw [← hp]]; exact hN.snoc
      have z4 := hN'.zero.1
      simp only [z4, not_true, false_implies, true_and, true_implies]
      exact Nx.mk' (Sum.inl ⟨i + 1, l2, hN'⟩) rfl (by show l.length - (i + 1) < l.length - i; omega)
    · have hT := Tk.first (s := l[i].1) hN hp
      rw [show [(l[i].1, l[i].2)] = [l[i]] from rfl, ← ht] at hT
      simp only [hT.d.symm, hT.r.symm, not_true, false_implies, true_and, true_implies]
      exact Nx.mk' (Sum.inr ⟨((i + 1, upD 0 l[i].2, upR 0 l[i].2), [(l[i].1, upD 0 l[i].2, upR 0 l[i].2)], []), l2, hT⟩) rfl (by show l.length - (i + 1) < l.length - i; omega)
  · rintro ⟨⟨⟨i, d, r⟩, own, told⟩, hi, hT⟩
    refine ⟨fun hc => ?_, fun hc => rfl⟩
    simp only [List.length_map, decide_eq_true_eq] at hc hi hT
    have e2 : ((i : Nat) : Int).toNat = i := by omega
    have e3 : ((i : Int) + 1).toNat = i + 1 := by omega
    have hq : l[i]? = some l[i] := List.getElem?_eq_getElem (by omega)
    have ht : l.take (i + 1) = l.take i ++ [l[i]] := by rw [List.take_add_one, hq]; rfl
    have w2 := w64 (n := (i : Int) + 1) (by omega) (by omega)
    have hnn : NonN (i : Int) := by unfold NonN; omega
    have hnn2 : NonN ((i : Int) + 1) := by unfold NonN; omega
    have l1 : i ≤ l.length := by omega
    have l2 : i + 1 ≤ l.length := by omega
    have l3 : (l.take i).length ≤ 1000 := by simp; omega
    have l4 : (l.take (i + 1)).length ≤ 1000 := by simp; omega
    obtain ⟨n1, n2, n3, n4⟩ := hT.now l3 l[i].1
    rw [n1] at n3; rw [n2] at n4
    simp only [e2, e3, w2, hq, hnn, hnn2, l1, l2, l3, l4, List.drop_zero, ← List.map_take, evR_inj, evR, prs_inj, List.length_map, Nat.zero_le, List.getElem?_map, Option.map_some, Option.some.injEq, exists_eq_left', dn, db, List.getElem?_cons_zero, List.getElem?_cons_succ, D.val.injEq, D.sl.injEq, Value.int.injEq, Value.bool.injEq, true_and, beq_iff_eq, bne_iff_ne, ne_eq, beq_eq_false_iff_ne, bne_eq_false_iff_eq, Bool.and_eq_true, Bool.or_eq_true, Bool.not_eq_true', Bool.not_eq_false', Bool.and_eq_false_iff, Bool.or_eq_false_iff, decide_eq_true_eq, decide_eq_false_iff_not, n1, n2, n3, n4]
    refine ⟨fun hp => ?_, fun hp => ?_⟩
    · have hB := hT.begun l3 l[i].1
      rw [show [(l[i].1, (0 : Int))] = [l[i]] by rw [← hp], ← ht] at hB
      refine ⟨own, told, rfl, rfl, ?_⟩
      simp only [n1, n2, n3, n4, hB.d.symm, hB.r.symm, not_true, false_implies, true_and, true_implies]
      exact Nx.mk' (Sum.inr ⟨((i + 1, d, r), own, pset told l[i].1 (els (l.take i) l[i].1 false) (els (l.take i) l[i].1 true)), l2, hB⟩) rfl (by show l.length - (i + 1) < l.length - i; omega)
    · have hB := hT.done l3 (s := l[i].1) hp
      rw [show [(l[i].1, l[i].2)] = [l[i]] from rfl, ← ht] at hB
      simp only [hB.d.symm, hB.r.symm, not_true, false_implies, true_and, true_implies]
      exact Nx.mk' (Sum.inr ⟨((i + 1, upD d l[i].2, upR r l[i].2), pset own l[i].1 (upD (pD own l[i].1) l[i].2) (upR (pR own l[i].1) l[i].2), told), l2, hB⟩) rfl (by show l.length - (i + 1) < l.length - i; omega)
end Go.Proofs.Ytffbeiaokmopgaa
