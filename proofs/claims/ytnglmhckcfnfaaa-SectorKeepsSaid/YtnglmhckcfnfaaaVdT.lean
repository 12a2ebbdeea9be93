/- The sum of bytes (a cyclic code of 32 bits) in plain terms: its step is linear and loses nothing. -/
import Derived.Test.YtnglmhckcfnfaaaVdP
set_option linter.unusedVariables false
set_option linter.unusedSimpArgs false
namespace Vc
open Go
abbrev W32 := BitVec 32
def cpoly : W32 := 3988292384#32
def cst (x : W32) : W32 := (x >>> 1) ^^^ (if x.getLsbD 0 then cpoly else 0#32)
def cstN : Nat → W32 → W32
  | 0, x => x
  | n + 1, x => cst (cstN n x)
theorem xor4 (a b c d : W32) : (a ^^^ b) ^^^ (c ^^^ d) = (a ^^^ c) ^^^ (b ^^^ d) := by
  apply BitVec.eq_of_getLsbD_eq
  intro i hi
  simp only [BitVec.getLsbD_xor]
  cases a.getLsbD i <;> cases b.getLsbD i <;> cases c.getLsbD i <;> cases d.getLsbD i <;> rfl
theorem cst_xor (a b : W32) : cst (a ^^^ b) = cst a ^^^ cst b := by
  unfold cst
  rw [xor4, ← BitVec.ushiftRight_xor_distrib, BitVec.getLsbD_xor]
  congr 1
  cases a.getLsbD 0 <;> cases b.getLsbD 0 <;> decide
theorem cst_inj0 {x : W32} (h : cst x = 0#32) : x = 0#32 := by
  unfold cst at h
  have h31 : (x >>> 1).getLsbD 31 = false := by simp [BitVec.getLsbD_ushiftRight]
  by_cases h0 : x.getLsbD 0 = true
  · rw [if_pos h0] at h
    have := congrArg (fun y : W32 => y.getLsbD 31) h
    simp only [BitVec.getLsbD_xor, h31] at this
    exact absurd this (by decide)
  · rw [if_neg h0, BitVec.xor_zero] at h
    apply BitVec.eq_of_getLsbD_eq
    intro i hi
    rcases i with _ | i
    · simpa using h0
    · have := congrArg (fun y : W32 => y.getLsbD i) h
      simp only [BitVec.getLsbD_ushiftRight, BitVec.getLsbD_zero] at this
      rw [Nat.add_comm] at this
      simpa using this
theorem cst_zero : cst 0#32 = 0#32 := by decide
theorem cstN_zero : ∀ n, cstN n 0#32 = 0#32
  | 0 => rfl
  | n + 1 => by rw [cstN, cstN_zero n, cst_zero]
theorem cstN_xor (a b : W32) : ∀ n, cstN n (a ^^^ b) = cstN n a ^^^ cstN n b
  | 0 => rfl
  | n + 1 => by rw [cstN, cstN_xor a b n, cst_xor]; rfl
theorem cstN_inj0 {x : W32} : ∀ n, cstN n x = 0#32 → x = 0#32
  | 0, h => h
  | n + 1, h => cstN_inj0 n (cst_inj0 h)
theorem cstN_add (x : W32) (m : Nat) : ∀ n, cstN n (cstN m x) = cstN (n + m) x
  | 0 => by rw [Nat.zero_add]; rfl
  | n + 1 => by rw [cstN, cstN_add x m n, Nat.succ_add]; rfl
theorem xor_eq0 {a b : W32} (h : a ^^^ b = 0#32) : a = b := by
  have := congrArg (fun y => y ^^^ b) h
  simpa [BitVec.xor_assoc] using this
theorem cstN_inj {a b : W32} {n : Nat} (h : cstN n a = cstN n b) : a = b := by
  apply xor_eq0
  apply cstN_inj0 n
  rw [cstN_xor, h, BitVec.xor_self]
theorem cstN_low {x : W32} : ∀ n, (∀ i, i < n → x.getLsbD i = false) → cstN n x = x >>> n
  | 0, _ => by simp [cstN]
  | n + 1, h => by
    rw [cstN, cstN_low n (fun i hi => h i (by omega)), cst]
    have : (x >>> n).getLsbD 0 = false := by rw [BitVec.getLsbD_ushiftRight]; exact h _ (by omega)
    rw [this, ← BitVec.shiftRight_add]
    simp
theorem cstN_split (x : W32) : cstN 8 x = (x >>> 8) ^^^ cstN 8 (x &&& 255#32) := by
  have hx : x = (x &&& 4294967040#32) ^^^ (x &&& 255#32) := by
    apply BitVec.eq_of_getLsbD_eq
    intro i hi
    have e : (4294967040#32).getLsbD i = !(255#32).getLsbD i := by
      rw [show (4294967040#32) = ~~~ 255#32 by decide, BitVec.getLsbD_not]; simp [hi]
    rw [BitVec.getLsbD_xor, BitVec.getLsbD_and, BitVec.getLsbD_and, e]
    cases x.getLsbD i <;> cases (255#32).getLsbD i <;> rfl
  have h1 : cstN 8 (x &&& 4294967040#32) = (x &&& 4294967040#32) >>> 8 := cstN_low 8 (fun i hi => by
    rw [BitVec.getLsbD_and]
    have : (4294967040#32).getLsbD i = false := by
      have : i = 0 ∨ i = 1 ∨ i = 2 ∨ i = 3 ∨ i = 4 ∨ i = 5 ∨ i = 6 ∨ i = 7 := by omega
      rcases this with rfl | rfl | rfl | rfl | rfl | rfl | rfl | rfl <;> decide
    rw [this, Bool.and_false])
  have h2 : (x &&& 4294967040#32) >>> 8 = x >>> 8 := by
    rw [BitVec.ushiftRight_and_distrib]
    rw [show (4294967040#32 >>> 8) = 16777215#32 by decide]
    apply BitVec.eq_of_getLsbD_eq
    intro i hi
    rw [BitVec.getLsbD_and, BitVec.getLsbD_ushiftRight]
    by_cases h : i < 24
    · have : (16777215#32).getLsbD i = true := by
        rw [show (16777215#32) = (BitVec.allOnes 24).setWidth 32 by decide]
        rw [BitVec.getLsbD_setWidth, BitVec.getLsbD_allOnes]; simp [h, hi]
      rw [this, Bool.and_true]
    · rw [BitVec.getLsbD_of_ge x (8 + i) (by omega), Bool.false_and]
  conv => lhs; rw [hx, cstN_xor]
  rw [h1, h2]

/-! ### Numbers of 32 bits -/
def U (x : W32) : Int := (x.toNat : Int)
theorem U_range (x : W32) : 0 ≤ U x ∧ U x < 4294967296 := by unfold U; have := x.isLt; omega
theorem U_inj {x y : W32} (h : U x = U y) : x = y := by
  unfold U at h; exact BitVec.eq_of_toNat_eq (by omega)
theorem U_wrap (x : W32) : IntKind.u32.wrap (U x) = U x := IntWalk.u32_in _ (by have := U_range x; omega)
theorem U_of (x : W32) : BitVec.ofInt 32 (U x) = x := by
  unfold U
  rw [BitVec.ofInt_natCast, BitVec.ofNat_toNat, BitVec.setWidth_eq]
theorem U_shr (x : W32) (k : Nat) : (U x).fdiv (2 ^ k : Nat) = U (x >>> k) := by
  unfold U
  rw [Int.fdiv_eq_ediv_of_nonneg _ (Int.natCast_nonneg _), BitVec.toNat_ushiftRight, Nat.shiftRight_eq_div_pow]
  exact (Int.natCast_ediv _ _).symm
theorem of_U {n : Int} (h : 0 ≤ n ∧ n < 4294967296) : U (BitVec.ofInt 32 n) = n := by
  obtain ⟨k, rfl⟩ := Int.eq_ofNat_of_zero_le h.1
  unfold U
  show ((BitVec.ofInt 32 (k : Int)).toNat : Int) = k
  rw [BitVec.ofInt_natCast, BitVec.toNat_ofNat]
  have : k % 2 ^ 32 = k := Nat.mod_eq_of_lt (by have := h.2; omega)
  rw [this]
theorem U_bit (x : W32) : IntKind.u32.wrap (IntKind.u32.wrap (U (x &&& 1#32)) * 3988292384) = U (if x.getLsbD 0 then cpoly else 0#32) := by
  rw [U_wrap]
  have : x &&& 1#32 = if x.getLsbD 0 then 1#32 else 0#32 := by
    have := BitVec.and_one_eq_setWidth_ofBool_getLsbD (x := x)
    rw [this]
    cases x.getLsbD 0 <;> decide
  rw [this]
  cases x.getLsbD 0 <;> decide

/-! ### The sum -/
def Byt (l : List Int) : Prop := ∀ c ∈ l, 0 ≤ c ∧ c < 256
def crcB (x : W32) (c : Int) : W32 := cstN 8 (x ^^^ BitVec.ofInt 32 c)
def crcR (x : W32) (l : List Int) : W32 := l.foldl crcB x
def crcI (l : List Int) : Int := U (~~~ (crcR 4294967295#32 l))
theorem crcR_snoc (x : W32) (l : List Int) (c : Int) : crcR x (l ++ [c]) = crcB (crcR x l) c := by simp [crcR]
theorem crcR_app (x : W32) (l m : List Int) : crcR x (l ++ m) = crcR (crcR x l) m := by simp [crcR]
def crcTab (i : Nat) : Int := U (cstN 8 (BitVec.ofNat 32 i))
def crcTb (i : Nat) : List Int := (List.range 256).map fun j => if j < i then crcTab j else 0
theorem ofInt_lt {n : Int} (h : 0 ≤ n ∧ n < 256) : (BitVec.ofInt 32 n).toNat = n.toNat := by
  have := of_U (n := n) (by omega)
  unfold U at this; omega
theorem low_toNat (y : W32) : (y &&& 255#32).toNat = y.toNat % 256 := by
  rw [BitVec.toNat_and, show (255#32).toNat = 2 ^ 8 - 1 by decide, Nat.and_two_pow_sub_one_eq_mod]
theorem crc_idx {x : W32} {n : Int} (h : 0 ≤ n ∧ n < 256) : IntKind.u8.wrap (((BitVec.ofInt 8 (IntKind.u8.wrap (U x)) ^^^ BitVec.ofInt 8 n).toNat : Nat) : Int) = (((x ^^^ BitVec.ofInt 32 n) &&& 255#32).toNat : Int) := by
  have e1 : BitVec.ofInt 8 (IntKind.u8.wrap (U x)) = x.setWidth 8 := by
    apply BitVec.eq_of_toNat_eq
    rw [BitVec.toNat_ofInt, BitVec.toNat_setWidth]
    have : IntKind.u8.wrap (U x) = U x % 256 := by rw [IntKind.wrap_u8]
    rw [this]; unfold U; omega
  have e2 : BitVec.ofInt 8 n = (BitVec.ofInt 32 n).setWidth 8 := by
    apply BitVec.eq_of_toNat_eq
    rw [BitVec.toNat_ofInt, BitVec.toNat_setWidth, ofInt_lt h]; omega
  rw [e1, e2, ← BitVec.setWidth_xor, low_toNat, BitVec.toNat_setWidth]
  exact IntWalk.u8_in _ (by omega)
theorem shr_low {x : W32} {n : Int} (h : 0 ≤ n ∧ n < 256) : (x ^^^ BitVec.ofInt 32 n) >>> 8 = x >>> 8 := by
  rw [BitVec.ushiftRight_xor_distrib]
  have : BitVec.ofInt 32 n >>> 8 = 0#32 := by
    apply BitVec.eq_of_toNat_eq
    rw [BitVec.toNat_ushiftRight, ofInt_lt h, Nat.shiftRight_eq_div_pow]
    show n.toNat / 256 = 0
    omega
  rw [this, BitVec.xor_zero]
theorem crc_new {x : W32} {n : Int} (h : 0 ≤ n ∧ n < 256) : IntKind.u32.wrap (((BitVec.ofInt 32 ((U x).fdiv 256) ^^^ BitVec.ofInt 32 (U (cstN 8 ((x ^^^ BitVec.ofInt 32 n) &&& 255#32)))).toNat : Nat) : Int) = U (crcB x n) := by
  have e1 := U_shr x 8
  rw [show ((2 ^ 8 : Nat) : Int) = 256 from rfl] at e1
  rw [e1, U_of, U_of]
  unfold crcB
  rw [cstN_split (x ^^^ BitVec.ofInt 32 n), shr_low h]
  exact U_wrap _
theorem U_not (x : W32) : IntKind.u32.wrap (((BitVec.ofInt 32 4294967295 ^^^ BitVec.ofInt 32 (U x)).toNat : Nat) : Int) = U (~~~x) := by
  rw [U_of, show BitVec.ofInt 32 4294967295 = BitVec.allOnes 32 by decide, BitVec.allOnes_xor]
  exact U_wrap _
theorem U_not' (x : W32) : IntKind.u32.wrap (4294967295 - U x) = U (~~~x) := by
  have h : U (~~~x) = 4294967295 - U x := by
    unfold U
    rw [BitVec.toNat_not]
    have := x.isLt
    omega
  rw [← h]; exact U_wrap _
theorem ref_in {x : W32} {n : Int} (h : 0 ≤ n ∧ n < 256) : IntKind.u32.wrap (((BitVec.ofInt 32 (U x) ^^^ BitVec.ofInt 32 (IntKind.u32.wrap n)).toNat : Nat) : Int) = U (x ^^^ BitVec.ofInt 32 n) := by
  rw [U_of, show IntKind.u32.wrap n = n from IntWalk.u32_in _ (by omega)]
  exact U_wrap _
theorem U_half (z : W32) : IntKind.u32.wrap ((U z).tdiv 2) = U (z >>> 1) := by
  have e := U_shr z 1
  rw [show ((2 ^ 1 : Nat) : Int) = 2 from rfl, Int.fdiv_eq_ediv_of_nonneg _ (by omega)] at e
  rw [Int.tdiv_eq_ediv_of_nonneg (U_range z).1, e]
  exact U_wrap _
theorem U_odd (z : W32) : (((U z).tmod 2 == 1) = true) ↔ z.getLsbD 0 = true := by
  rw [Int.tmod_eq_emod_of_nonneg (U_range z).1]
  unfold U
  rw [BitVec.getLsbD, Nat.testBit_zero]
  simp only [beq_iff_eq, decide_eq_true_eq]
  omega
theorem ref_odd {z : W32} (h : z.getLsbD 0 = true) : IntKind.u32.wrap (((BitVec.ofInt 32 (IntKind.u32.wrap ((U z).tdiv 2)) ^^^ BitVec.ofInt 32 3988292384).toNat : Nat) : Int) = U (cst z) := by
  rw [U_half, U_of]
  unfold cst
  rw [if_pos h, show BitVec.ofInt 32 3988292384 = cpoly by decide]
  exact U_wrap _
theorem ref_even {z : W32} (h : z.getLsbD 0 = false) : IntKind.u32.wrap ((U z).tdiv 2) = U (cst z) := by
  rw [U_half]
  unfold cst
  rw [h]
  simp
def pickI (k n : Int) : Int := if n < 1 then 0 else if k.tmod n < 0 then k.tmod n + n else k.tmod n
theorem pickI_range {k n : Int} (h : 1 ≤ n) : 0 ≤ pickI k n ∧ pickI k n < n := by
  have h1 := Int.tmod_lt_of_pos k (show 0 < n by omega)
  have h2 : -n < k.tmod n := by
    have := Int.lt_tmod_of_pos k (show 0 < n by omega)
    exact this
  unfold pickI
  rw [if_neg (by omega)]
  split <;> omega
/-- The four bytes of a number, the lowest first. -/
def le4 (x : Int) : List Int := [IntKind.u8.wrap x, IntKind.u8.wrap (x.fdiv 256), IntKind.u8.wrap (x.fdiv 65536), IntKind.u8.wrap (x.fdiv 16777216)]
theorem le4_ref {x : Int} (h : 0 ≤ x ∧ x < 4294967296) :
    IntKind.u8.wrap (x.tmod 256) = IntKind.u8.wrap x ∧ IntKind.u8.wrap ((IntKind.u32.wrap (x.tdiv 256)).tmod 256) = IntKind.u8.wrap (x.fdiv 256) ∧
    IntKind.u8.wrap ((IntKind.u32.wrap ((IntKind.u32.wrap (x.tdiv 256)).tdiv 256)).tmod 256) = IntKind.u8.wrap (x.fdiv 65536) ∧
    IntKind.u8.wrap ((IntKind.u32.wrap ((IntKind.u32.wrap ((IntKind.u32.wrap (x.tdiv 256)).tdiv 256)).tdiv 256)).tmod 256) = IntKind.u8.wrap (x.fdiv 16777216) := by
  have d1 : IntKind.u32.wrap (x.tdiv 256) = x / 256 := by rw [Int.tdiv_eq_ediv_of_nonneg h.1]; exact IntWalk.u32_in _ (by omega)
  have d2 : IntKind.u32.wrap ((x / 256).tdiv 256) = x / 65536 := by rw [Int.tdiv_eq_ediv_of_nonneg (by omega), show x / 256 / 256 = x / 65536 by omega]; exact IntWalk.u32_in _ (by omega)
  have d3 : IntKind.u32.wrap ((x / 65536).tdiv 256) = x / 16777216 := by rw [Int.tdiv_eq_ediv_of_nonneg (by omega), show x / 65536 / 256 = x / 16777216 by omega]; exact IntWalk.u32_in _ (by omega)
  rw [d1, d2, d3, Int.fdiv_eq_ediv_of_nonneg _ (by decide), Int.fdiv_eq_ediv_of_nonneg _ (by decide), Int.fdiv_eq_ediv_of_nonneg _ (by decide)]
  rw [Int.tmod_eq_emod_of_nonneg h.1, Int.tmod_eq_emod_of_nonneg (show 0 ≤ x / 256 by omega), Int.tmod_eq_emod_of_nonneg (show 0 ≤ x / 65536 by omega), Int.tmod_eq_emod_of_nonneg (show 0 ≤ x / 16777216 by omega)]
  simp only [IntKind.wrap_u8]
  omega
def sealI (l : List Int) : List Int := l ++ le4 (crcI l)
theorem sealI_len (l : List Int) : (sealI l).length = l.length + 4 := by simp [sealI, le4]
theorem le4_byt (x : Int) : Byt (le4 x) := fun c hc => by
  simp only [le4, List.mem_cons, List.not_mem_nil, or_false] at hc
  rcases hc with rfl | rfl | rfl | rfl <;> (rw [IntKind.wrap_u8]; omega)
theorem sealI_byt {l : List Int} (h : Byt l) : Byt (sealI l) := fun c hc => by
  rcases List.mem_append.1 hc with hc | hc
  · exact h c hc
  · exact le4_byt _ c hc
theorem crcI_range (l : List Int) : 0 ≤ crcI l ∧ crcI l < 4294967296 := U_range _
/-- What stands ahead of the sum, where the sum is right. -/
def openI (l : List Int) : Option (List Int) := if 4 ≤ l.length ∧ sealI (l.take (l.length - 4)) = l then some (l.take (l.length - 4)) else none
theorem openI_seal {l : List Int} : openI (sealI l) = some l := by
  have h1 : (sealI l).take ((sealI l).length - 4) = l := by
    rw [sealI_len, Nat.add_sub_cancel]; unfold sealI; rw [List.take_left]
  unfold openI
  rw [h1, if_pos ⟨by rw [sealI_len]; omega, rfl⟩]
end Vc
