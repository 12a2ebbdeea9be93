import Derived.Test.YthobahlcphmafaaLw
import Derived.KernelRfl
namespace Go.Proofs.Ythobahlcphmafaa
open Vc Go
set_option linter.unusedVariables false
set_option linter.unusedSimpArgs false
set_option maxRecDepth 100000
theorem ints_iff {k : IntKind} {a b : List Int} : ints k a = ints k b ↔ a = b := ⟨ints_inj, fun e => by rw [e]⟩
theorem nil_ints {k : IntKind} {a : List Int} : [] = ints k a ↔ a = [] := ⟨fun h => (ints_inj (m := []) h.symm), fun e => by rw [e]; rfl⟩
theorem dns_iff {k : IntKind} {a b : List Int} : dns k a = dns k b ↔ a = b := ⟨fun h => by
  have := congrArg (fun l : List D => l.map fun d => [d]) h
  simp only [map_dns] at this
  exact ints_inj this, fun e => by rw [e]⟩
theorem dseal {l : List Int} : List.drop 0 (List.take (l.length + 4) (ints .u8 (sealI l))) = ints .u8 (sealI l) := by rw [dt, ← sealI_len, List.take_length]
theorem dall {l : List Int} : List.drop 0 (List.take l.length (ints .u8 l)) = ints .u8 l := by rw [dt, List.take_length]
theorem dseal2 {l : List Int} (h : l.length = 128) : List.drop 0 (List.take 132 (ints .u8 (sealI l))) = ints .u8 (sealI l) := by
  rw [List.drop_zero]; exact List.take_of_length_le (by rw [ints_len, sealI_len]; omega)
theorem lawLoads (l : List Int) (hw : ∀ n ∈ l, (Lit.int .u8 n).wf = true) : XL 6 [.dat (.sl 1 (ints .u8 l))] [] KT := by
  have hb0 : Byt l := fun c hc => by have := bounds_u8 (hw c hc); omega
  have hb : ∀ c, List.Mem c l → 0 ≤ c ∧ c < 256 := hb0
  have hb2 : ∀ c, List.Mem c (sealI l) → 0 ≤ c ∧ c < 256 := sealI_byt hb0
  refine vcLoads l ⟨fun _ => rfl, fun hc => ?_⟩
  simp only [ints_len, decide_eq_false_iff_not] at hc
  have h9 : l.length ≤ 900000 := by omega
  have h10 : l.length.le 1000000 := by show l.length ≤ 1000000; omega
  have h11 : (sealI l).length ≤ 900000 := by rw [sealI_len]; omega
  have hp : ∀ m : List Int, PlainS (ints .u8 m).flatten := fun m => ⟨plain_ints⟩
  have hp2 : ∀ m : List Int, PlainS (dns .u8 m) := fun m => ⟨plain_dns⟩
  have hz : (0 : Nat).le 1000000 := Nat.zero_le _
  cases ho : openI l with
  | none =>
    by_cases h8 : l.length = 128
    · simp only [ints_iff, dns_iff, nil_ints, dseal, dall, dseal2 h8, exists_eq_left', exists_eq_left, ho, hb, h9, h10, h11, hb2, openI_seal, ints_len, sealI_len, Nat.le_refl, hp, hp2, hz, decide_true, true_and, true_implies, and_true, reduceCtorEq, false_implies, implies_true, forall_const, Option.some.injEq, forall_eq', Bool.true_eq_false, Bool.false_eq_true, not_true, not_false_eq_true]
      exact ⟨hb, hb, hb, hb2, by omega, fun _ => ⟨hb2, by omega, fun _ => ⟨h8, hb, by omega, _, _, rfl, rfl, (by show (sealI l).length ≤ 1000000; omega), (by simp)⟩, fun f => f h8⟩, fun f => absurd h8 f⟩
    · simp only [ints_iff, dns_iff, nil_ints, dseal, dall, exists_eq_left', exists_eq_left, ho, hb, h9, h10, h11, hb2, openI_seal, ints_len, sealI_len, Nat.le_refl, hp, hp2, hz, decide_true, true_and, true_implies, and_true, reduceCtorEq, false_implies, implies_true, forall_const, Option.some.injEq, forall_eq', Bool.true_eq_false, Bool.false_eq_true, not_true, not_false_eq_true]
      exact ⟨hb, hb, hb, hb2, by omega, fun e => absurd e h8, fun _ => ⟨⟨fun d hd => by rw [List.eq_of_mem_replicate hd]; trivial⟩, hb2, by omega, h8⟩⟩
  | some m =>
    have hm : l = sealI m := openI_some ho
    have hbm : Byt m := fun c hc => hb0 c (by rw [hm]; exact List.mem_append_left _ hc)
    have hbm' : ∀ c, List.Mem c m → 0 ≤ c ∧ c < 256 := hbm
    have hl4 : l.length = m.length + 4 := by rw [hm, sealI_len]
    have hpr : ∀ n : Nat, PlainS (List.replicate n (D.val (.int .u8 0))) := fun n => ⟨fun d hd => by rw [List.eq_of_mem_replicate hd]; trivial⟩
    by_cases h8 : m.length = 128
    · have hn : ¬ l.length = 128 := by omega
      have e1 : ints .u8 (sealI m) = ints .u8 l := by rw [← hm]
      have d1 : List.drop 0 (List.take 132 (ints .u8 l)) = ints .u8 l := by rw [← e1]; exact dseal2 h8
      simp only [ints_iff, dns_iff, nil_ints, dseal, dall, dseal2 h8, exists_eq_left', exists_eq_left, ho, hb, h9, h10, h11, hb2, hbm', hn, h8, openI_seal, ints_len, sealI_len, Nat.le_refl, hp, hp2, hpr, hz, decide_true, true_and, true_implies, and_true, reduceCtorEq, false_implies, implies_true, forall_const, Option.some.injEq, forall_eq', Bool.true_eq_false, Bool.false_eq_true, not_true, not_false_eq_true]
      exact ⟨hb, hb, hb, hb2, by omega, hb2, by omega, hbm', sealI m, l, rfl, rfl, by rw [← hm]; exact h10, fun f => by rw [← hm] at f; simp at f⟩
    · by_cases h9' : l.length = 128
      · have d2 := dseal2 h9'
        simp only [ints_iff, dns_iff, nil_ints, dseal, dall, exists_eq_left', exists_eq_left, ho, hb, h9, h10, h11, hb2, hbm', h8, h9', d2,  openI_seal, ints_len, sealI_len, Nat.le_refl, hp, hp2, hpr, hz, decide_true, true_and, true_implies, and_true, reduceCtorEq, false_implies, implies_true, forall_const, Option.some.injEq, forall_eq', Bool.true_eq_false, Bool.false_eq_true, not_true, not_false_eq_true]
        exact ⟨hb, by omega, hb, by omega, hb, by omega, hb2, by omega, hb2, by omega, hb, sealI l, sealI l, rfl, rfl, by show (sealI l).length ≤ 1000000; omega, fun f => by simp at f⟩
      · have hn : ¬ l.length = 132 := by omega
        simp only [ints_iff, dns_iff, nil_ints, dseal, dall, exists_eq_left', exists_eq_left, ho, hb, h9, h10, h11, hb2, hbm', h8, hn, h9', openI_seal, ints_len, sealI_len, Nat.le_refl, hp, hp2, hpr, hz, decide_true, true_and, true_implies, and_true, reduceCtorEq, false_implies, implies_true, forall_const, Option.some.injEq, forall_eq', Bool.true_eq_false, Bool.false_eq_true, not_true, not_false_eq_true]
        exact ⟨hb, hb, hb, hb2, by omega, hb2, by omega⟩
end Go.Proofs.Ythobahlcphmafaa
