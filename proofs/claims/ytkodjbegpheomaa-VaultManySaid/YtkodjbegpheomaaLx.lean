import Derived.Test.YtkodjbegpheomaaLw
namespace Go.Proofs.Ytkodjbegpheomaa
open Vc Go
set_option linter.unusedVariables false
set_option linter.unusedSimpArgs false
set_option maxRecDepth 100000
def sO (k : Int) (a : List Int) : VSt := ⟨0, [(k, a)], 0 + szc 0 0 (k, some a), 0 + 1⟩
def sP (k : Int) (a : List Int) : VSt := ⟨0, [], 0 + szc 0 0 (k, some a) + szc 0 1 (k, none), 2⟩
def sQ (k : Int) (a b : List Int) : VSt := ⟨0, [(k, b)], 0 + szc 0 0 (k, some a) + szc 0 1 (k, none) + szc 0 2 (k, some b), 3⟩
theorem own_sz {k : Int} {a : List Int} {m : Nat} (hk : NumJ k) (ha : Byt a) (hl : a.length ≤ 60) (hm : m ≤ 5) : szc 0 m (k, some a) ≤ 2 := by
  obtain ⟨c1, c2⟩ := chg_put hk ha hl
  have := (szc_le (gen := 0) (m := m) (by omega) (by omega) c1).1
  omega
theorem own_szo {k : Int} {m : Nat} (hk : NumJ k) (hm : m ≤ 5) : szc 0 m (k, none) ≤ 2 := by
  obtain ⟨c1, c2⟩ := chg_out hk
  have := (szc_le (gen := 0) (m := m) (by omega) (by omega) c1).1
  omega
theorem lawOwn (k : Int) (a b : List Int) (hk : 0 ≤ k ∧ k < 65536) (ha : Byt a) (hb : Byt b) : XL 0 k 0 [] a b (sO k a) 6 [.int .u16 k, .dat (.sl 1 (ints .u8 a)), .dat (.sl 1 (ints .u8 b))] [] KT := by
  have hkk : NumJ k := ⟨by omega, by omega⟩
  have wk : IntKind.i64.wrap k = k := w64 (by omega) (by omega)
  apply vcOwn k a b (sO k a)
  rw [wk]
  refine ⟨fun _ => (by first | exact trivial | exact rfl), fun q1 => ⟨fun _ => (by first | exact trivial | exact rfl), fun q2 => ⟨fun q => q ⟨by omega, by omega⟩, fun _ => ?_⟩⟩⟩
  have hla : a.length ≤ 60 := by simp only [ints_len, gt_iff_lt, decide_eq_false_iff_not] at q1; omega
  have hlb : b.length ≤ 60 := by simp only [ints_len, gt_iff_lt, decide_eq_false_iff_not] at q2; omega
  have z1 := own_sz (m := 0) hkk ha hla (by omega)
  have z2 := own_szo (m := 1) hkk (by omega)
  have z3 := own_sz (m := 2) hkk hb hlb (by omega)
  have e1 : putF 40 s0 k a = (0, sO k a) := putF_ok hkk (by omega) (by show 0 + szc 0 0 (k, some a) ≤ 20; omega)
  have hgP : getP (sO k a).l k = some a := getP_put
  have e2 : dropF 40 (sO k a) k = (0, sP k a) := by
    unfold dropF
    rw [if_neg (by rw [hgP]; intro q; cases q)]
    have : keepF 40 (sO k a) (k, none) = (0, ⟨0, outL [(k, a)] k, 0 + szc 0 0 (k, some a) + szc 0 1 (k, none), 0 + 1 + 1⟩) := if_pos (by show 0 + szc 0 0 (k, some a) + szc 0 1 (k, none) ≤ 20; omega)
    rw [this, show outL [(k, a)] k = [] by simp [outL]]
    rfl
  have e3 : dropF 40 (sP k a) k = (7, sP k a) := if_pos rfl
  have e4 : putF 40 (sP k a) k b = (0, sQ k a b) := putF_ok hkk (by omega) (by show 0 + szc 0 0 (k, some a) + szc 0 1 (k, none) + szc 0 2 (k, some b) ≤ 20; omega)
  have hgQ : getP (sQ k a b).l k = some b := getP_put
  have hv0 : VIs 40 s0 (zer 40) := vi_new (by omega) (by omega)
  refine ⟨40, s0, zer 40, rfl, rfl, ⟨rfl, rfl⟩, hv0, fun M hM => ⟨fun q => (by cases q), fun _ => ⟨40, s0, zer 40, a, vin hv0 hM, rfl, ha, by omega, by decide, fun M1 x1 hT1 hv1 => ?_⟩⟩⟩
  rw [e1] at hT1 hv1 ⊢
  refine ⟨fun q => (by cases q), fun _ => ⟨40, sO k a, x1, vin hv1 hT1, ?_, ?_⟩⟩
  · rw [hgP]
    exact At.mk' (⟨(⟨0, M1, x1⟩, a), ⟨⟨Nat.zero_le _, hv1, hT1⟩, rfl⟩⟩ : {q : VQ × List Int // VqI 40 a.length (sO k a) q.1 ∧ q.2.length = a.length}) rfl
  rintro ⟨⟨⟨i, M2, x2⟩, r⟩, ⟨hi, hv, hT⟩, hr⟩
  dsimp only at hi hv hT hr ⊢
  rw [Nat.sub_zero]
  refine ⟨fun hc => ?_, fun hc => ?_⟩
  · simp only [decide_eq_true_eq] at hc
    have hi2 : i < r.length := by omega
    refine ⟨by unfold InB; omega, [D.val (.int .u8 r[i])], by rw [Nat.zero_add, Int.toNat_natCast, ints_get, List.getElem?_eq_getElem hi2]; rfl, r[i], rfl, by unfold InB; omega, by rw [ints_len]; omega, ?_⟩
    rw [Nat.zero_add, Int.toNat_natCast, ints_set, w64 (n := (i : Int) + 1) (by omega) (by omega)]
    exact Nx.mk' (⟨(⟨i + 1, M2, x2⟩, r.set i (IntKind.u8.wrap (r[i] + 1))), ⟨⟨by dsimp only; omega, hv, hT⟩, by dsimp only; rw [List.length_set]; exact hr⟩⟩ : {q : VQ × List Int // VqI 40 a.length (sO k a) q.1 ∧ q.2.length = a.length}) rfl (by dsimp only; omega)
  refine ⟨40, sO k a, x2, vin hv hT, fun q => ?_, fun _ => ⟨⟨by rw [ints_len]; exact Nat.le_refl _, trivial, trivial⟩, a, a, by rw [hgP]; exact le_take_i, rfl, Nat.le_eq ▸ (show a.length ≤ 1000000 by omega), trivial, fun q => (by simp at q), fun _ => ⟨40, sO k a, x2, vin hv hT, (by show 0 < 1000; omega), fun M3 x3 hT3 hv3 => ?_⟩⟩⟩
  · rw [hgP] at q; cases q
  rw [e2] at hT3 hv3 ⊢
  refine ⟨fun q => (by cases q), fun _ => ⟨40, sP k a, x3, vin hv3 hT3, (by show 0 < 1000; omega), fun M4 x4 hT4 hv4 => ?_⟩⟩
  rw [e3] at hT4 hv4 ⊢
  refine ⟨fun q => (by simp at q), fun _ => ⟨40, sP k a, x4, vin hv4 hT4, fun q => (by cases q), fun _ => ⟨40, sP k a, x4, vin hv4 hT4, fun q => (by cases q), fun _ => ⟨40, sP k a, x4, b, vin hv4 hT4, rfl, hb, by omega, (by show 0 < 1000; omega), fun M5 x5 hT5 hv5 => ?_⟩⟩⟩⟩
  rw [e4] at hT5 hv5 ⊢
  refine ⟨fun q => (by cases q), fun _ => ⟨40, sQ k a b, x5, rfl, rfl, ⟨rfl, rfl⟩, hv5, fun M6 hM6 => ⟨fun q => (by cases q), fun _ => ⟨40, sQ k a b, x5, vin hv5 hM6, fun _ => ⟨⟨by rw [ints_len]; exact Nat.le_refl _, trivial, trivial⟩, b, b, by rw [hgQ]; exact le_take_i, rfl, Nat.le_eq ▸ (show b.length ≤ 1000000 by omega), trivial, fun _ => (by first | exact trivial | exact rfl), fun q => (by simp at q)⟩, fun q => ?_⟩⟩⟩⟩
  rw [hgQ] at q; cases q
end Go.Proofs.Ytkodjbegpheomaa
