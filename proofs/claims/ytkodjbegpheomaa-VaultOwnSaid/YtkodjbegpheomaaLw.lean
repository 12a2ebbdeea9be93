import Derived.Test.YtkodjbegpheomaaLa
namespace Go.Proofs.Ytkodjbegpheomaa
open Vc Go
set_option linter.unusedVariables false
set_option linter.unusedSimpArgs false
set_option maxRecDepth 100000
theorem awS_ok : AllOk Try.prog awS := fun f k h => by
  unfold awS at h
  split at h
  · cases h; exact okNewD
  · cases h; exact okBootV
  · cases h; exact okOpenV
  · cases h; exact okPutV
  · cases h; exact okDropV
  · cases h; exact okGetV
  · cases h; exact okKeysV
  · cases h; exact okGenV
  · cases h; exact okPairsV
  · cases h; exact okRPut6
  · cases h; exact okROut
  · cases h; exact okRAt
  · cases h; exact okRSame6
  · cases h; exact okRSectors
  · cases h; exact okSame
  · cases h
theorem XAw_ok : CallOk Try.prog XAw := callS_ok mixed awS_ok noT 10
theorem vin {N : Nat} {s : VSt} {x : List (List Int)} {M : ML} (h : VIs N s x) (hT : Tab M s.l) : VIn N s x ((N / 4 : Nat) : Int) (s.gen : Int) x.length 0 M ((2 * (N / 4) : Nat) : Int) ((N - 2 * (N / 4) : Nat) : Int) (s.gen : Int) (s.u : Int) (s.m : Int) 0 (secs x) [] [] := ⟨h, hT, rfl, rfl, rfl, rfl, rfl, rfl, rfl, rfl, rfl, rfl, rfl, rfl, rfl⟩
theorem fsz {gen n : Int} {t : List Int} (hg : NumJ gen) (hn : NumJ n) (ht : t.length ≤ 980) : (formJ gen n t).1.length / 64 ≤ (t.length + 97) / 64 ∧ 1 ≤ (formJ gen n t).1.length / 64 := by
  have hs := (formJ_sz (form_ok hg hn ht)).1
  rw [hs]
  have hl := bodyJ_len gen n t
  rw [List.length_append, List.length_append] at hl
  have h1 := (numW_len gen).2
  have h2 := (numW_len n).2
  have h3 := (numW_len (t.length : Int)).2
  have h4 : (textW t).length = (numW (t.length : Int)).length + t.length := List.length_append
  unfold szJ
  rw [hl]
  exact ⟨Nat.div_le_div_right (by omega), by omega⟩
theorem szc_le {gen m : Nat} {c : Chg} (hg : gen ≤ 1000) (hm : m ≤ 5000) (hc : ChgOk c) : szc gen m c ≤ ((chgW c).length + 97) / 64 ∧ 1 ≤ szc gen m c :=
  fsz ⟨by omega, by omega⟩ ⟨by omega, by omega⟩ (chgW_ok hc).2
theorem putF_ok {N : Nat} {s : VSt} {k : Int} {b : List Int} (hk : NumJ k) (hb : b.length ≤ 900) (hu : s.u + szc s.gen s.m (k, some b) ≤ N - 2 * (N / 4)) : putF N s k b = (0, ⟨s.gen, putL s.l k b, s.u + szc s.gen s.m (k, some b), s.m + 1⟩) := by
  unfold putF
  rw [if_neg (fun hn => hn hk), if_neg (by omega)]
  exact if_pos hu
theorem chg_put {k : Int} {b : List Int} (hk : NumJ k) (hb : Byt b) (hl : b.length ≤ 60) : ChgOk (k, some b) ∧ (chgW (k, some b)).length ≤ 19 + b.length := by
  refine ⟨⟨hk, fun b' hb' => by cases hb'; exact ⟨hb, by omega⟩⟩, ?_⟩
  have h1 := (numW_len k).2
  have h2 : (numW ((1 : Nat) : Int)).length = 1 := numW_one (by omega)
  have h3 := (numW_len (b.length : Int)).2
  have h4 : (textW b).length = (numW (b.length : Int)).length + b.length := List.length_append
  show (numW k ++ numW ((1 : Nat) : Int) ++ textW b).length ≤ _
  rw [List.length_append, List.length_append]; omega
theorem chg_out {k : Int} (hk : NumJ k) : ChgOk (k, none) ∧ (chgW (k, none)).length ≤ 19 := by
  refine ⟨⟨hk, fun b' hb' => (by cases hb')⟩, ?_⟩
  have h1 := (numW_len k).2
  have h2 := (numW_len 0).2
  show (numW k ++ numW 0).length ≤ _
  rw [List.length_append]; omega
theorem getP_put {k : Int} {b : List Int} : getP [(k, b)] k = some b := by
  unfold getP; simp
theorem byt_wrap (n : Int) : 0 ≤ IntKind.u8.wrap n ∧ IntKind.u8.wrap n < 256 := by
  rw [IntKind.wrap_u8]; omega
theorem le_take_i {b : List Int} : List.drop 0 (List.take b.length (ints .u8 b)) = ints .u8 b := by rw [List.drop_zero, take_i]
theorem okAwake : SpecOk Try.prog 13 Sawake := specOk_of' XAw_ok mixed (fun args kb K h => by
  unfold Sawake at h; split at h <;> try exact h.elim
  have hk4 : NumJ 4 := ⟨by omega, by omega⟩
  have hb1 : Byt [1] := fun c hc => by rw [List.mem_singleton] at hc; omega
  obtain ⟨c1, c2⟩ := chg_put hk4 hb1 (by simp)
  have hsz := szc_le (gen := 0) (m := 0) (by omega) (by omega) c1
  have e : putF 20 s0 4 [1] = (0, ⟨0, putL [] 4 [1], 0 + szc 0 0 (4, some [1]), 0 + 1⟩) := putF_ok hk4 (by simp) (by show 0 + szc 0 0 (4, some [1]) ≤ 10; simp only [List.length_singleton] at c2; omega)
  refine ⟨noT _, vcAwake () K ⟨fun q => (q ⟨by omega, by omega⟩).elim, fun _ => ⟨20, s0, zer 20, rfl, rfl, ⟨rfl, rfl⟩, vi_new (by omega) (by omega), fun M hM => ⟨fun q => (by cases q), fun _ => ⟨Nat.le_refl _, 20, s0, zer 20, [1], vin (vi_new (by omega) (by omega)) hM, rfl, hb1, by simp, by decide, fun M1 x1 hT1 hv1 => ?_⟩⟩⟩⟩⟩
  rw [e] at hT1 hv1 ⊢
  refine ⟨fun q => (by cases q), fun _ => ⟨x1, rfl, rfl, ⟨rfl, rfl⟩, 20, _, x1, rfl, rfl, ⟨rfl, rfl⟩, hv1, fun M2 hM2 => ⟨fun q => (by cases q), fun _ => ⟨20, _, x1, vin hv1 hM2, fun q => ⟨⟨by rw [ints_len]; exact Nat.le_refl _, Nat.le_refl _, trivial⟩, [1], [1], rfl, rfl, Nat.le_of_ble_eq_true rfl, trivial, fun _ => h, fun q => (by simp at q)⟩, fun q => (by cases q)⟩⟩⟩⟩)
theorem lawS_ok : AllOk Try.prog lawS := fun f k h => by
  unfold lawS at h
  split at h
  · cases h; exact okAwake
  · exact awS_ok _ _ h
theorem XL_ok (n : Nat) (k keep : Int) (l a b : List Int) (s : VSt) : CallOk Try.prog (XL n k keep l a b s) := callS_ok mixed lawS_ok _ 10
theorem tu_step {k : Int} (hk : NumJ k) {i : Nat} (hi : i ≤ 200) : putF 24 (tuS k i) k [IntKind.u8.wrap (i : Int)] = (0, tuS k (i + 1)) := by
  have hb1 : Byt [IntKind.u8.wrap (i : Int)] := fun c hc => by rw [List.mem_singleton] at hc; rw [hc]; exact byt_wrap _
  obtain ⟨c1, c2⟩ := chg_put hk hb1 (by simp)
  simp only [List.length_singleton] at c2
  have hsz := szc_le (gen := i / 13) (m := i % 13) (by omega) (by omega) c1
  have hs1 : szc (i / 13) (i % 13) (k, some [IntKind.u8.wrap (i : Int)]) = 1 := by omega
  have hl : putL (tuS k i).l k [IntKind.u8.wrap (i : Int)] = (tuS k (i + 1)).l := by
    show putL (if i = 0 then [] else [(k, [IntKind.u8.wrap ((i - 1 : Nat) : Int)])]) k _ = [(k, [IntKind.u8.wrap ((i + 1 - 1 : Nat) : Int)])]
    rw [Nat.add_sub_cancel]
    split
    · rfl
    · unfold putL lo2 hi2; simp
  by_cases h12 : i % 13 = 12
  · unfold putF
    rw [if_neg (fun hn => hn hk), if_neg (by simp)]
    unfold keepF
    have hk1 : ¬ (tuS k i).u + szc (tuS k i).gen (tuS k i).m (k, some [IntKind.u8.wrap (i : Int)]) ≤ 24 - 2 * (24 / 4) := by
      show ¬ i % 13 + szc (i / 13) (i % 13) (k, some [IntKind.u8.wrap (i : Int)]) ≤ 12
      omega
    have hrec : catN (((tuS k i).gen + 1 : Nat) : Int) 0 (recW (chgL (tuS k i).l (k, some [IntKind.u8.wrap (i : Int)]))) ≤ 24 / 4 := by
      show catN ((i / 13 + 1 : Nat) : Int) 0 (recW (putL (tuS k i).l k [IntKind.u8.wrap (i : Int)])) ≤ 6
      rw [hl]
      show (formJ ((i / 13 + 1 : Nat) : Int) ((0 : Nat) : Int) (numW ((1 : Nat) : Int))).1.length / 64 + ((formJ ((i / 13 + 1 : Nat) : Int) ((0 + 1 : Nat) : Int) (numW k ++ textW [IntKind.u8.wrap ((i + 1 - 1 : Nat) : Int)])).1.length / 64 + 0) ≤ 6
      have h1 := (numW_len ((1 : Nat) : Int)).2
      have h2 := (numW_len k).2
      have h3 := (textW_len [IntKind.u8.wrap ((i + 1 - 1 : Nat) : Int)]).2
      have f1 := (fsz (gen := ((i / 13 + 1 : Nat) : Int)) (n := ((0 : Nat) : Int)) (t := numW ((1 : Nat) : Int)) ⟨by omega, by omega⟩ ⟨by omega, by omega⟩ (by omega)).1
      simp only [List.length_singleton] at h3
      have f2 := (fsz (gen := ((i / 13 + 1 : Nat) : Int)) (n := ((0 + 1 : Nat) : Int)) (t := numW k ++ textW [IntKind.u8.wrap ((i + 1 - 1 : Nat) : Int)]) ⟨by omega, by omega⟩ ⟨by omega, by omega⟩ (by rw [List.length_append]; omega)).1
      rw [List.length_append] at f2
      omega
    rw [if_neg hk1, if_pos hrec]
    show (0, (⟨i / 13 + 1, putL (tuS k i).l k [IntKind.u8.wrap (i : Int)], 0, 0⟩ : VSt)) = (0, tuS k (i + 1))
    rw [hl]
    show _ = (0, (⟨(i + 1) / 13, (tuS k (i + 1)).l, (i + 1) % 13, (i + 1) % 13⟩ : VSt))
    rw [show (i + 1) / 13 = i / 13 + 1 by omega, show (i + 1) % 13 = 0 by omega]
  · rw [putF_ok hk (by simp) (by show i % 13 + szc (i / 13) (i % 13) (k, some [IntKind.u8.wrap (i : Int)]) ≤ 12; omega)]
    show (0, (⟨i / 13, putL (tuS k i).l k [IntKind.u8.wrap (i : Int)], i % 13 + szc (i / 13) (i % 13) (k, some [IntKind.u8.wrap (i : Int)]), i % 13 + 1⟩ : VSt)) = (0, tuS k (i + 1))
    rw [hl, hs1]
    show _ = (0, (⟨(i + 1) / 13, (tuS k (i + 1)).l, (i + 1) % 13, (i + 1) % 13⟩ : VSt))
    rw [show (i + 1) / 13 = i / 13 by omega, show (i + 1) % 13 = i % 13 + 1 by omega]
theorem lawTurns (t k : Int) (ht : 0 ≤ t ∧ t < 256) (hk : 0 ≤ k ∧ k < 256) : XL (t.toNat % 200) k 0 [] [] [] s0 3 [.int .u8 t, .int .u8 k] [] KT := by
  have hkk : NumJ k := ⟨by omega, by omega⟩
  have wk : IntKind.i64.wrap k = k := w64 (by omega) (by omega)
  have wt : (IntKind.i64.wrap t).tmod 200 = ((t.toNat % 200 : Nat) : Int) := by
    rw [w64 (n := t) (by omega) (by omega), Int.tmod_eq_emod_of_nonneg (by omega)]; omega
  apply vcTurns t k (t.toNat % 200)
  have hn : t.toNat % 200 < 200 := Nat.mod_lt _ (by omega)
  generalize t.toNat % 200 = n at *
  rw [wt, wk]
  have hv0 : VIs 24 s0 (zer 24) := vi_new (by omega) (by omega)
  refine ⟨fun q => q ⟨by omega, by omega⟩, fun _ => ⟨24, s0, zer 24, rfl, rfl, ⟨rfl, rfl⟩, hv0, fun M hM => ⟨fun q => (by cases q), fun _ => ⟨24, s0, zer 24, vin hv0 hM, fun q => (by cases q), fun _ => ⟨?_, ?_⟩⟩⟩⟩⟩
  · have e0 : tuS k 0 = s0 := rfl
    have hv0' : VIs 24 (tuS k 0) (zer 24) := by rw [e0]; exact hv0
    have hM' : Tab M (tuS k 0).l := by rw [e0]; exact hM
    exact At.mk' (⟨⟨0, M, zer 24⟩, ⟨Nat.zero_le _, hv0', hM'⟩⟩ : {q : VQ // VqI 24 n (tuS k q.i) q}) (by
      show _ = (([_, _, _, _, .int .i64 ((0 : Nat) : Int)], vauD 24 (tuS k 0) M (zer 24)) : List V × KB)
      rw [e0]; rfl)
  rintro ⟨⟨i, M1, x1⟩, hi, hv, hT⟩
  dsimp only at hi hv hT ⊢
  simp only [decide_eq_true_eq, decide_eq_false_iff_not]
  refine ⟨fun hc => ?_, fun hc => ?_⟩
  · have hi2 : i < n := by omega
    have hst := tu_step hkk (i := i) (by omega)
    refine ⟨Nat.le_refl _, 24, tuS k i, x1, [IntKind.u8.wrap (i : Int)], vin hv hT, rfl, fun c hc => ?_, by simp, by show i / 13 < 1000; omega, fun M2 x2 hT2 hv2 => ?_⟩
    · rw [List.mem_singleton.1 hc]; exact byt_wrap _
    rw [hst] at hT2 hv2 ⊢
    refine ⟨fun q => (by cases q), fun _ => ?_⟩
    rw [w64 (n := (i : Int) + 1) (by omega) (by omega)]
    exact Nx.mk' (⟨⟨i + 1, M2, x2⟩, ⟨by dsimp only; omega, hv2, hT2⟩⟩ : {q : VQ // VqI 24 n (tuS k q.i) q}) rfl (by dsimp only; omega)
  · have e : i = n := by omega
    subst e
    have wd : IntKind.i64.wrap ((i : Int).tdiv 13) = ((i / 13 : Nat) : Int) := by
      rw [Int.tdiv_eq_ediv_of_nonneg (by omega), w64 (by omega) (by omega)]; omega
    rw [wd]
    refine ⟨24, tuS k i, x1, rfl, rfl, ⟨rfl, rfl⟩, hv, fun M2 hM2 => ⟨fun q => (by cases q), fun _ => ⟨24, tuS k i, x1, vin hv hM2, 24, tuS k i, x1, vin hv hT, fun q => ?_, fun _ => ⟨24, tuS k i, x1, vin hv hM2, fun q => ?_, fun _ => ⟨24, tuS k i, x1, vin hv hM2, fun _ => ⟨fun _ => trivial, fun q => ⟨⟨by rw [ints_len]; exact Nat.le_refl _, Nat.le_refl _, trivial⟩, (getP (tuS k i).l k).getD [], [IntKind.u8.wrap (IntKind.i64.wrap ((i : Int) - 1))], le_take_i, rfl, ?_, trivial, fun _ => (by first | exact trivial | exact rfl), fun q2 => ?_⟩⟩, fun q => ?_⟩⟩⟩⟩⟩
    · simp at q
    · have : ((tuS k i).gen : Int) = ((i / 13 : Nat) : Int) := rfl
      rw [this] at q; simp at q
    · have := (getP_le hT.toOkL k).1
      exact Nat.le_eq ▸ (show ((getP (tuS k i).l k).getD []).length ≤ 1000000 by omega)
    · have h0 : ¬ i = 0 := fun h => by subst h; simp at q
      have e1 : getP (tuS k i).l k = some [IntKind.u8.wrap ((i - 1 : Nat) : Int)] := by
        show getP (if i = 0 then [] else _) k = _
        rw [if_neg h0]; exact getP_put
      rw [e1, w64 (n := (i : Int) - 1) (by omega) (by omega), show (i : Int) - 1 = ((i - 1 : Nat) : Int) by omega] at q2
      simp at q2
    · by_cases h0 : i = 0
      · subst h0; simp [tuS, getP] at q
      · have e1 : getP (tuS k i).l k = some [IntKind.u8.wrap ((i - 1 : Nat) : Int)] := by
          show getP (if i = 0 then [] else _) k = _
          rw [if_neg h0]; exact getP_put
        rw [e1, Option.isSome_some, decide_eq_true (show (i : Int) > 0 by omega)] at q
        cases q
end Go.Proofs.Ytkodjbegpheomaa
