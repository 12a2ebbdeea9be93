/- What a sum of 32 bits tells: a change within four neighbouring bytes never leaves it right. -/
import Derived.Test.YtnglmhckcfnfaaaVdT
set_option linter.unusedVariables false
set_option linter.unusedSimpArgs false
namespace Vc
open Go
theorem xor_inj {a b c : W32} (h : a ^^^ b = a ^^^ c) : b = c := by
  have := congrArg (fun y => a ^^^ y) h
  simpa [← BitVec.xor_assoc] using this
theorem xor_inj' {a b c : W32} (h : b ^^^ a = c ^^^ a) : b = c := by
  rw [BitVec.xor_comm b, BitVec.xor_comm c] at h; exact xor_inj h
theorem crcB_inj {x y : W32} {c : Int} (h : crcB x c = crcB y c) : x = y := xor_inj' (cstN_inj h)
theorem crcR_inj : ∀ {l : List Int} {x y : W32}, crcR x l = crcR y l → x = y
  | [], _, _, h => h
  | c :: l, x, y, h => crcB_inj (crcR_inj (l := l) h)
/-- Bytes as one number, the lowest first. -/
def val4 : List Int → W32
  | [] => 0#32
  | c :: u => BitVec.ofInt 32 c ^^^ (val4 u <<< 8)
theorem ofInt_low {c : Int} (h : 0 ≤ c ∧ c < 256) {i : Nat} (hi : 8 ≤ i) : (BitVec.ofInt 32 c).getLsbD i = false := by
  rw [BitVec.getLsbD, ofInt_lt h]
  exact Nat.testBit_lt_two_pow (Nat.lt_of_lt_of_le (show c.toNat < 2 ^ 8 by omega) (Nat.pow_le_pow_right (by decide) hi))
theorem val4_low : ∀ {u : List Int}, Byt u → ∀ {i : Nat}, 8 * u.length ≤ i → (val4 u).getLsbD i = false
  | [], _, i, _ => by simp [val4]
  | c :: u, h, i, hi => by
    simp only [List.length_cons] at hi
    rw [val4, BitVec.getLsbD_xor, ofInt_low (h c List.mem_cons_self) (by omega), BitVec.getLsbD_shiftLeft]
    by_cases h8 : i < 8
    · omega
    · have := val4_low (u := u) (fun d hd => h d (List.mem_cons_of_mem _ hd)) (i := i - 8) (by omega)
      rw [this]; simp
theorem cst_shl {v : W32} (h : ∀ i, 24 ≤ i → v.getLsbD i = false) : cstN 8 (v <<< 8) = v := by
  rw [cstN_low 8 (fun i hi => by rw [BitVec.getLsbD_shiftLeft]; simp; omega)]
  apply BitVec.eq_of_getLsbD_eq
  intro i hi
  rw [BitVec.getLsbD_ushiftRight, BitVec.getLsbD_shiftLeft]
  by_cases h24 : 24 ≤ i
  · rw [h i h24]
    have : ¬ 8 + i < 32 := by omega
    simp [this]
  · have : 8 + i < 32 := by omega
    simp [this]
theorem crcR_val : ∀ {u : List Int} (x : W32), Byt u → u.length ≤ 4 → crcR x u = cstN (8 * u.length) (x ^^^ val4 u)
  | [], x, _, _ => by simp [crcR, val4, cstN]
  | c :: u, x, h, hl => by
    simp only [List.length_cons] at hl ⊢
    have hu : Byt u := fun d hd => h d (List.mem_cons_of_mem _ hd)
    have ih := crcR_val (u := u) (crcB x c) hu (by omega)
    show crcR (crcB x c) u = _
    rw [ih, val4, ← BitVec.xor_assoc, show 8 * (u.length + 1) = 8 * u.length + 8 by omega, ← cstN_add, cstN_xor _ _ 8, cst_shl (fun i hi => val4_low hu (by omega))]
    rfl
theorem val4_inj : ∀ {u v : List Int}, Byt u → Byt v → u.length = v.length → u.length ≤ 4 → val4 u = val4 v → u = v
  | [], [], _, _, _, _, _ => rfl
  | [], _ :: _, _, _, h, _, _ => by simp at h
  | _ :: _, [], _, _, h, _, _ => by simp at h
  | c :: u, d :: v, hu, hv, hl, h4, h => by
    simp only [List.length_cons] at hl h4
    have hc := hu c List.mem_cons_self
    have hd := hv d List.mem_cons_self
    have hu' : Byt u := fun e he => hu e (List.mem_cons_of_mem _ he)
    have hv' : Byt v := fun e he => hv e (List.mem_cons_of_mem _ he)
    rw [val4, val4] at h
    have h1 : BitVec.ofInt 32 c = BitVec.ofInt 32 d := by
      apply BitVec.eq_of_getLsbD_eq
      intro i hi
      by_cases h8 : i < 8
      · have := congrArg (fun y : W32 => y.getLsbD i) h
        simp only [BitVec.getLsbD_xor, BitVec.getLsbD_shiftLeft] at this
        simpa [h8] using this
      · rw [ofInt_low hc (by omega), ofInt_low hd (by omega)]
    have e1 : c = d := by
      have a := ofInt_lt hc
      have b := ofInt_lt hd
      rw [h1, b] at a; omega
    rw [h1] at h
    have h2 := xor_inj h
    have e2 : val4 u = val4 v := by
      apply BitVec.eq_of_getLsbD_eq
      intro i hi
      by_cases h24 : 24 ≤ i
      · rw [val4_low hu' (by omega), val4_low hv' (by omega)]
      · have := congrArg (fun y : W32 => y.getLsbD (i + 8)) h2
        simp only [BitVec.getLsbD_shiftLeft] at this
        simpa [show i + 8 < 32 by omega, show ¬ i + 8 < 8 by omega] using this
    rw [e1, val4_inj hu' hv' (by omega) (by omega) e2]
theorem crcR_inj4 {u v : List Int} {x : W32} (hu : Byt u) (hv : Byt v) (hl : u.length = v.length) (h4 : u.length ≤ 4) (h : crcR x u = crcR x v) : u = v := by
  rw [crcR_val x hu h4, crcR_val x hv (by omega), hl] at h
  exact val4_inj hu hv hl h4 (xor_inj (cstN_inj h))
theorem low_high (w : W32) : (w &&& 255#32) ^^^ ((w >>> 8) <<< 8) = w := by
  apply BitVec.eq_of_getLsbD_eq
  intro i hi
  rw [BitVec.getLsbD_xor, BitVec.getLsbD_and, BitVec.getLsbD_shiftLeft, BitVec.getLsbD_ushiftRight]
  have h255 : (255#32).getLsbD i = decide (i < 8) := by
    rw [show (255#32) = (BitVec.allOnes 8).setWidth 32 by decide, BitVec.getLsbD_setWidth, BitVec.getLsbD_allOnes]
    simp [hi]
  rw [h255]
  by_cases h8 : i < 8
  · simp [h8]
  · simp [h8, hi, show 8 + (i - 8) = i by omega]
theorem byte_of (w : W32) (k : Nat) : BitVec.ofInt 32 (IntKind.u8.wrap ((U w).fdiv (2 ^ k : Nat))) = (w >>> k) &&& 255#32 := by
  rw [U_shr]
  apply U_inj
  have : IntKind.u8.wrap (U (w >>> k)) = U (w >>> k) % 256 := by rw [IntKind.wrap_u8]
  rw [this, of_U (by omega)]
  unfold U
  rw [low_toNat]; omega
theorem val4_le4 (w : W32) : val4 (le4 (U w)) = w := by
  have b0 := byte_of w 0
  have b1 := byte_of w 8
  have b2 := byte_of w 16
  have b3 := byte_of w 24
  rw [show ((2 ^ 0 : Nat) : Int) = 1 from rfl, Int.fdiv_one] at b0
  rw [show ((2 ^ 8 : Nat) : Int) = 256 from rfl] at b1
  rw [show ((2 ^ 16 : Nat) : Int) = 65536 from rfl] at b2
  rw [show ((2 ^ 24 : Nat) : Int) = 16777216 from rfl] at b3
  have z : (w >>> 24 >>> 8) = 0#32 := by
    apply BitVec.eq_of_getLsbD_eq
    intro i hi
    rw [BitVec.getLsbD_ushiftRight, BitVec.getLsbD_ushiftRight, BitVec.getLsbD_of_ge _ _ (by omega)]; simp
  have s1 : w >>> 8 >>> 8 = w >>> 16 := by rw [← BitVec.shiftRight_add]
  have s2 : w >>> 16 >>> 8 = w >>> 24 := by rw [← BitVec.shiftRight_add]
  unfold le4 val4 val4 val4 val4 val4
  rw [b0, b1, b2, b3]
  have l3 := low_high (w >>> 24)
  rw [z] at l3
  rw [l3]
  have l2 := low_high (w >>> 16)
  rw [s2] at l2
  rw [l2]
  have l1 := low_high (w >>> 8)
  rw [s1] at l1
  rw [l1]
  have e : w >>> 0 = w := by simp
  rw [e]
  exact low_high w
/-- Behind a right sum the register stands at one place. -/
theorem crcR_seal (m : List Int) : crcR 4294967295#32 (sealI m) = cstN 32 (BitVec.allOnes 32) := by
  unfold sealI
  rw [crcR_app]
  unfold crcI
  rw [crcR_val _ (le4_byt _) (by simp [le4]), val4_le4]
  have : (le4 (U (~~~crcR 4294967295#32 m))).length = 4 := rfl
  rw [this]
  congr 1
  apply BitVec.eq_of_getLsbD_eq
  intro i hi
  rw [BitVec.getLsbD_xor, BitVec.getLsbD_not, BitVec.getLsbD_allOnes]
  simp [hi]
theorem openI_some {l m : List Int} (h : openI l = some m) : l = sealI m := by
  unfold openI at h
  split at h
  · rename_i hc
    cases h
    exact hc.2.symm
  · cases h
theorem split4 (l : List Int) (k : Nat) : l = l.take k ++ ((l.drop k).take 4 ++ (l.drop k).drop 4) := by
  rw [List.take_append_drop, List.take_append_drop]
/-- Two lists that differ within four bytes. -/
def Near (k : Nat) (s t : List Int) : Prop := s.length = t.length ∧ s.take k = t.take k ∧ (s.drop k).drop 4 = (t.drop k).drop 4
theorem crc_near {s t : List Int} {k : Nat} (hs : Byt s) (ht : Byt t) (hn : Near k s t) {x : W32} (h : crcR x s = crcR x t) : s = t := by
  obtain ⟨hl, h1, h2⟩ := hn
  rw [split4 s k, split4 t k, crcR_app, crcR_app, crcR_app, crcR_app, h1, h2] at h
  have h3 := crcR_inj h
  have h4 : (s.drop k).take 4 = (t.drop k).take 4 := crcR_inj4 (fun c hc => hs c (List.mem_of_mem_drop (List.mem_of_mem_take hc))) (fun c hc => ht c (List.mem_of_mem_drop (List.mem_of_mem_take hc)))
    (by simp [hl]) (by simp; omega) h3
  rw [split4 s k, split4 t k, h1, h2, h4]
theorem open_near {b s : List Int} {k : Nat} (hb : Byt b) (hs : Byt s) (hn : Near k s (sealI b)) (hne : s ≠ sealI b) : openI s = none := by
  cases h : openI s with
  | none => rfl
  | some m =>
    have := openI_some h
    refine absurd (crc_near hs (sealI_byt hb) hn (x := 4294967295#32) ?_) hne
    rw [crcR_seal b, this, crcR_seal m]
theorem Near.refl (k : Nat) (s : List Int) : Near k s s := ⟨rfl, rfl, rfl⟩
theorem Near.set {k : Nat} {s t : List Int} (h : Near k s t) {i : Nat} (hi : i < 4) (c : Int) : Near k (s.set (k + i) c) t := by
  obtain ⟨h1, h2, h3⟩ := h
  refine ⟨by simpa using h1, ?_, ?_⟩
  · rw [List.take_set_of_le (by omega)]; exact h2
  · rw [← h3]
    apply List.ext_getElem?
    intro j
    simp only [List.getElem?_drop]
    rw [List.getElem?_set_ne (by omega)]
theorem Byt.set {s : List Int} (h : Byt s) {i : Nat} {c : Int} (hc : 0 ≤ c ∧ c < 256) : Byt (s.set i c) := fun d hd => by
  rcases List.mem_or_eq_of_mem_set hd with hd | rfl
  · exact h d hd
  · exact hc
end Vc
