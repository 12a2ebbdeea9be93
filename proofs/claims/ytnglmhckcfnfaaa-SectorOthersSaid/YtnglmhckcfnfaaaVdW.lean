/- Numbers and texts as bytes (seven bits a byte, the low ones first), in plain terms. -/
import Derived.Test.YtnglmhckcfnfaaaVdU
set_option linter.unusedSimpArgs false
set_option linter.unusedVariables false
namespace Vc
open Go

def numF : Nat → Nat → List Int
  | 0, n => [(n : Int)]
  | k + 1, n => if n < 128 then [(n : Int)] else ((n % 128 + 128 : Nat) : Int) :: numF k (n / 128)
def numW (n : Int) : List Int := numF 8 n.toNat
def textW (b : List Int) : List Int := numW b.length ++ b
/-- An int's upper bound. -/
structure LeM (z : Int) : Prop where
  h : z ≤ 9223372036854775807
inductive RdN where
  | got (v n : Nat)
  | short
  | form
def numR : Nat → Nat → List Int → RdN
  | i, _, [] => if i < 9 then .short else .form
  | i, v, c :: r => if i = 9 ∨ (c = 0 ∧ 0 < i) then .form else if 128 ≤ c then numR (i + 1) (v + (c.toNat % 128) * 128 ^ i) r else .got (v + c.toNat * 128 ^ i) (i + 1)
/-- A number read: it, how many bytes it had, the error. -/
def rNum (l : List Int) (e most : Int) : Int × Nat × Int :=
  if e = 0 then (match numR 0 0 l with
    | .got v n => if most < (v : Int) then (0, 0, 5) else ((v : Int), n, 0)
    | .short => (0, 0, 2)
    | .form => (0, 0, 3)) else (0, 0, e)
/-- A text read. -/
def rText (l : List Int) (e most : Int) : List Int × Nat × Int :=
  if (rNum l e most).2.2 = 0 then
    (if ((l.drop (rNum l e most).2.1).length : Int) < (rNum l e most).1 then ([], (rNum l e most).2.1, 2)
     else ((l.drop (rNum l e most).2.1).take (rNum l e most).1.toNat, (rNum l e most).2.1 + (rNum l e most).1.toNat, 0))
  else ([], (rNum l e most).2.1, (rNum l e most).2.2)
def rEnd (l : List Int) (e : Int) : Int := if l ≠ [] ∧ e = 0 then 3 else e

theorem numF_ne : ∀ (k n : Nat), 1 ≤ (numF k n).length
  | 0, n => by simp [numF]
  | k + 1, n => by unfold numF; split <;> simp
theorem numF_le : ∀ (k n : Nat), (numF k n).length ≤ k + 1
  | 0, n => by simp [numF]
  | k + 1, n => by
    unfold numF; split
    · simp
    · simp; exact numF_le k _
theorem numF_byt : ∀ (k n : Nat), n < 128 ^ (k + 1) → Byt (numF k n)
  | 0, n, h => fun c hc => by simp [numF] at hc h; omega
  | k + 1, n, h => fun c hc => by
    unfold numF at hc
    split at hc
    · simp at hc; omega
    · rcases List.mem_cons.1 hc with rfl | hc
      · have := Nat.mod_lt n (show 128 > 0 by decide); omega
      · exact numF_byt k _ (by rw [Nat.div_lt_iff_lt_mul (by decide), ← Nat.pow_succ]; exact h) c hc
theorem numW_len (n : Int) : 1 ≤ (numW n).length ∧ (numW n).length ≤ 9 := ⟨numF_ne _ _, numF_le _ _⟩
theorem numW_byt {n : Int} (h : n ≤ 9223372036854775807) : Byt (numW n) := numF_byt _ _ (by have : (128 : Nat) ^ (8 + 1) = 9223372036854775808 := rfl; omega)

theorem numR_numF (r : List Int) : ∀ (k i v n : Nat), n < 128 ^ (k + 1) → i + k ≤ 8 → (n ≠ 0 ∨ i = 0) → numR i v (numF k n ++ r) = .got (v + n * 128 ^ i) (i + (numF k n).length)
  | 0, i, v, n, h, hi, hz => by
    simp at h
    simp only [numF, List.cons_append, List.nil_append, numR, List.length_cons, List.length_nil]
    rw [if_neg (by omega), if_neg (by omega)]
    simp
  | k + 1, i, v, n, h, hi, hz => by
    unfold numF
    split
    · simp only [List.cons_append, List.nil_append, numR, List.length_cons, List.length_nil]
      rw [if_neg (by omega), if_neg (by omega)]
      simp
    · rename_i hn
      have hm := Nat.mod_lt n (show 128 > 0 by decide)
      simp only [List.cons_append, numR, List.length_cons]
      rw [if_neg (by omega), if_pos (by omega), numR_numF r k (i + 1) _ (n / 128) (by rw [Nat.div_lt_iff_lt_mul (by decide), ← Nat.pow_succ]; exact h) (by omega) (.inl (by omega))]
      have e1 : (((n % 128 + 128 : Nat) : Int)).toNat % 128 = n % 128 := by omega
      have e2 : n * 128 ^ i = n % 128 * 128 ^ i + n / 128 * 128 ^ (i + 1) := by
        rw [Nat.pow_succ]
        have := Nat.div_add_mod n 128
        calc n * 128 ^ i = (128 * (n / 128) + n % 128) * 128 ^ i := by rw [this]
          _ = n % 128 * 128 ^ i + n / 128 * (128 ^ i * 128) := by rw [Nat.add_mul, Nat.add_comm, Nat.mul_comm 128 (n / 128), Nat.mul_assoc, Nat.mul_comm 128 (128 ^ i)]
      rw [e1, e2]
      congr 1
      · omega
      · omega
theorem numR_numW {n : Int} (h0 : 0 ≤ n) (h : n ≤ 9223372036854775807) (r : List Int) : numR 0 0 (numW n ++ r) = .got n.toNat (numW n).length := by
  have := numR_numF r 8 0 0 n.toNat (by have : (128 : Nat) ^ (8 + 1) = 9223372036854775808 := rfl; omega) (by omega) (.inr rfl)
  simpa [numW] using this
theorem numR_inv : ∀ (l : List Int) (i v w m : Nat), i ≤ 9 → Byt l → numR i v l = .got w m → ∃ n, i ≤ 8 ∧ w = v + n * 128 ^ i ∧ n < 128 ^ (9 - i) ∧ (0 < i → n ≠ 0) ∧ m = i + (numF (8 - i) n).length ∧ ∃ r, l = numF (8 - i) n ++ r
  | [], i, v, w, m, hi, hb, h => by unfold numR at h; split at h <;> cases h
  | c :: r, i, v, w, m, hi, hb, h => by
    have hc := hb c List.mem_cons_self
    unfold numR at h
    split at h
    · cases h
    · rename_i h1
      have hi8 : i ≤ 8 := by omega
      split at h
      · rename_i h2
        obtain ⟨n, k1, k2, k3, k4, k5, r', k6⟩ := numR_inv r (i + 1) _ w m (by omega) (fun d hd => hb d (List.mem_cons_of_mem _ hd)) h
        have hn0 : n ≠ 0 := k4 (by omega)
        have e0 : 8 - i = (8 - (i + 1)) + 1 := by omega
        have e9 : 9 - i = (9 - (i + 1)) + 1 := by omega
        have ec : c.toNat % 128 = c.toNat - 128 := by omega
        have e1 : numF (8 - i) (c.toNat - 128 + 128 * n) = c :: numF (8 - (i + 1)) n := by
          rw [e0]
          rw [numF.eq_2, if_neg (by omega)]
          have a1 : (c.toNat - 128 + 128 * n) % 128 = c.toNat - 128 := by omega
          have a2 : (c.toNat - 128 + 128 * n) / 128 = n := by omega
          rw [a1, a2]
          congr 1
          omega
        refine ⟨c.toNat - 128 + 128 * n, hi8, ?_, ?_, fun _ => by omega, ?_, r', ?_⟩
        · rw [k2, ec, Nat.pow_succ, Nat.add_mul, Nat.mul_comm (128 ^ i) 128, ← Nat.mul_assoc, Nat.mul_comm n 128]; omega
        · rw [e9, Nat.pow_succ]; omega
        · rw [e1, k5, List.length_cons]; omega
        · rw [e1, k6]; rfl
      · rename_i h2
        cases h
        have e1 : numF (8 - i) c.toNat = [c] := by
          have : ((c.toNat : Nat) : Int) = c := by omega
          cases h8 : 8 - i with
          | zero => rw [numF.eq_1, this]
          | succ k => rw [numF.eq_2, if_pos (by omega), this]
        refine ⟨c.toNat, hi8, rfl, ?_, fun _ => by omega, by rw [e1]; rfl, r, by rw [e1]; rfl⟩
        have : 9 - i = (8 - i) + 1 := by omega
        rw [this, Nat.pow_succ]
        have : 0 < 128 ^ (8 - i) := Nat.pow_pos (by decide)
        omega
theorem numR_got {l : List Int} {w m : Nat} (hb : Byt l) (h : numR 0 0 l = .got w m) : (w : Int) ≤ 9223372036854775807 ∧ m = (numW w).length ∧ ∃ r, l = numW w ++ r := by
  obtain ⟨n, _, h1, h2, _, h3, h4⟩ := numR_inv l 0 0 w m (by omega) hb h
  simp at h1
  subst h1
  have : (128 : Nat) ^ (9 - 0) = 9223372036854775808 := rfl
  have e : numW (w : Int) = numF (8 - 0) w := by unfold numW; rw [Int.toNat_natCast]
  exact ⟨by omega, by rw [e, h3, Nat.zero_add], by rw [e]; exact h4⟩
/-- A front of a number is short. -/
theorem numR_short : ∀ (l : List Int) (i v w m j : Nat), i ≤ 9 → numR i v l = .got w m → i + j < m → numR i v (l.take j) = .short
  | [], i, v, w, m, j, hi, h, hj => by unfold numR at h; split at h <;> cases h
  | c :: r, i, v, w, m, j, hi, h, hj => by
    have h0 := h
    unfold numR at h
    split at h
    · cases h
    · rename_i h1
      cases j with
      | zero => rw [List.take_zero]; unfold numR; rw [if_pos (by omega)]
      | succ j =>
        split at h
        · rename_i h2
          rw [List.take_succ_cons]
          unfold numR
          rw [if_neg h1, if_pos h2]
          exact numR_short r (i + 1) _ w m j (by omega) h (by omega)
        · cases h
          omega
theorem rNum_ok {l : List Int} {e most : Int} (hm : 0 ≤ e) : 0 ≤ (rNum l e most).1 ∧ 0 ≤ (rNum l e most).2.2 := by
  unfold rNum
  split
  · split
    · split <;> simp
    · simp
    · simp
  · exact ⟨by simp, hm⟩
theorem rNum_val {l : List Int} (hb : Byt l) (e most : Int) : 0 ≤ (rNum l e most).1 ∧ (rNum l e most).1 ≤ 9223372036854775807 ∧ (rNum l e most).2.1 ≤ l.length := by
  unfold rNum
  split
  · split
    · rename_i v n h
      obtain ⟨h1, h2, r, h3⟩ := numR_got hb h
      split
      · simp
      · refine ⟨by simp, h1, ?_⟩
        show n ≤ l.length
        rw [h2, h3, List.length_append]; omega
    · simp
    · simp
  · simp
theorem rNum_app {n : Int} (h0 : 0 ≤ n) (h : n ≤ 9223372036854775807) {most : Int} (hm : n ≤ most) (r : List Int) : rNum (numW n ++ r) 0 most = (n, (numW n).length, 0) := by
  unfold rNum
  rw [if_pos rfl, numR_numW h0 h]
  show (if most < ((n.toNat : Nat) : Int) then _ else _) = _
  rw [if_neg (by omega)]
  rw [Int.toNat_of_nonneg h0]
theorem rText_app {b : List Int} {most : Int} (hm : (b.length : Int) ≤ most) (h : (b.length : Int) ≤ 9223372036854775807) (r : List Int) : rText (textW b ++ r) 0 most = (b, (textW b).length, 0) := by
  unfold rText textW
  rw [List.append_assoc, rNum_app (by omega) h hm]
  simp
  omega
/-- The program's bits. -/
theorem or128 {n : Nat} : IntKind.u8.wrap (((BitVec.ofInt 8 (IntKind.u8.wrap (n : Int)) ||| BitVec.ofInt 8 128).toNat : Nat) : Int) = ((n % 128 + 128 : Nat) : Int) := by
  have e : IntKind.u8.wrap (n : Int) = ((n % 256 : Nat) : Int) := by
    show (n : Int) % 2 ^ 8 = _
    omega
  rw [e]
  have h : ∀ k : Fin 256, IntKind.u8.wrap (((BitVec.ofInt 8 ((k.1 : Nat) : Int) ||| BitVec.ofInt 8 128).toNat : Nat) : Int) = ((k.1 % 128 + 128 : Nat) : Int) := by decide +kernel
  have := h ⟨n % 256, Nat.mod_lt _ (by decide)⟩
  simp only at this
  rw [this]
  omega
theorem and127 {n : Int} (h0 : 0 ≤ n) (h : n < 256) : IntKind.u8.wrap (((BitVec.ofInt 8 n &&& BitVec.ofInt 8 127).toNat : Nat) : Int) = ((n.toNat % 128 : Nat) : Int) := by
  have h : ∀ k : Fin 256, IntKind.u8.wrap (((BitVec.ofInt 8 ((k.1 : Nat) : Int) &&& BitVec.ofInt 8 127).toNat : Nat) : Int) = ((k.1 % 128 : Nat) : Int) := by decide +kernel
  have := h ⟨n.toNat, by omega⟩
  simp only at this
  rw [Int.toNat_of_nonneg h0] at this
  exact this
theorem pow7 (i : Nat) : (128 : Nat) ^ i = 2 ^ (7 * i) := by rw [Nat.pow_mul]
theorem pow_le8 {i : Nat} (h : i ≤ 8) : (128 : Nat) ^ i ≤ 72057594037927936 := by
  have := Nat.pow_le_pow_right (n := 128) (by decide) h
  exact Nat.le_trans this (by decide)
theorem num_or {v m i : Nat} (hv : v < 128 ^ i) (hm : m < 128) (hi : i ≤ 8) :
    IntKind.i64.wrap (((BitVec.ofInt 64 (v : Int) ||| BitVec.ofInt 64 (shlI .i64 (m : Int) (((7 * i : Nat)) : Int))).toNat : Nat) : Int) = ((v + m * 128 ^ i : Nat) : Int) := by
  have hp := pow_le8 hi
  have hmul : m * 128 ^ i ≤ 127 * 72057594037927936 := Nat.mul_le_mul (by omega) hp
  have e1 : shlI .i64 (m : Int) (((7 * i : Nat)) : Int) = ((m * 128 ^ i : Nat) : Int) := by
    unfold shlI
    rw [Int.toNat_natCast, show min (7 * i) IntKind.i64.bits = 7 * i from Nat.min_eq_left (by show 7 * i ≤ 64; omega)]
    rw [show (m : Int) * 2 ^ (7 * i) = ((m * 128 ^ i : Nat) : Int) by rw [pow7]; simp]
    exact w64 (by omega) (by omega)
  rw [e1]
  have e2 : (BitVec.ofInt 64 (v : Int) ||| BitVec.ofInt 64 ((m * 128 ^ i : Nat) : Int)).toNat = v + m * 128 ^ i := by
    rw [BitVec.toNat_or, BitVec.toNat_ofInt, BitVec.toNat_ofInt]
    have a1 : ((v : Int) % ((2 ^ 64 : Nat) : Int)).toNat = v := by
      have : ((2 ^ 64 : Nat) : Int) = 18446744073709551616 := rfl
      rw [this]; omega
    have a2 : (((m * 128 ^ i : Nat) : Int) % ((2 ^ 64 : Nat) : Int)).toNat = m * 128 ^ i := by
      have : ((2 ^ 64 : Nat) : Int) = 18446744073709551616 := rfl
      rw [this]; omega
    rw [a1, a2]
    have := Nat.shiftLeft_add_eq_or_of_lt (i := 7 * i) (b := v) (by rw [← pow7]; exact hv) m
    rw [Nat.shiftLeft_eq, ← pow7] at this
    rw [Nat.or_comm, ← this, Nat.add_comm]
  rw [e2]
  have : v < 72057594037927936 := Nat.lt_of_lt_of_le hv hp
  exact w64 (by omega) (by omega)
/-- The document's way: how many bytes go on, and the value of so many digits. -/
def lead : List Int → Nat
  | [] => 0
  | c :: r => if 128 ≤ c then lead r + 1 else 0
def valL : Nat → List Int → Nat
  | 0, _ => 0
  | _ + 1, [] => 0
  | k + 1, c :: r => c.toNat % 128 + 128 * valL k r
theorem lead_le : ∀ l, lead l ≤ l.length
  | [] => Nat.le_refl _
  | c :: r => by
    unfold lead; split
    · simp; exact lead_le r
    · simp
theorem lead_go : ∀ {l : List Int} {i : Nat}, i < lead l → ∃ c, l[i]? = some c ∧ 128 ≤ c
  | [], i, h => by simp [lead] at h
  | c :: r, i, h => by
    unfold lead at h
    split at h
    · rename_i hc
      cases i with
      | zero => exact ⟨c, rfl, hc⟩
      | succ i =>
        obtain ⟨d, h1, h2⟩ := lead_go (l := r) (i := i) (by omega)
        exact ⟨d, by simpa using h1, h2⟩
    · omega
theorem lead_end : ∀ {l : List Int} {c : Int}, l[lead l]? = some c → c < 128
  | [], c, h => by simp at h
  | a :: r, c, h => by
    unfold lead at h
    split at h
    · exact lead_end (l := r) (by simpa using h)
    · simp at h; omega
theorem valL_lt : ∀ (k : Nat) (l : List Int), valL k l < 128 ^ k
  | 0, l => by simp [valL]
  | k + 1, [] => by simp [valL]; exact Nat.pow_pos (by decide)
  | k + 1, c :: r => by
    have := valL_lt k r
    have hm := Nat.mod_lt c.toNat (show 128 > 0 by decide)
    unfold valL
    rw [Nat.pow_succ]
    omega
theorem numR_lead : ∀ (l : List Int) (i v : Nat), i ≤ 9 → numR i v l = if 9 ≤ i + lead l then .form else if lead l = l.length then .short else
    if 0 < i + lead l ∧ l.getD (lead l) 0 = 0 then .form else .got (v + valL (lead l + 1) l * 128 ^ i) (i + lead l + 1)
  | [], i, v, h => by
    simp only [numR, lead, List.length_nil, Nat.add_zero]
    split
    · rw [if_neg (by omega)]; rfl
    · rw [if_pos (by omega)]
  | c :: r, i, v, h => by
    rw [numR.eq_2]
    by_cases h9 : i = 9
    · rw [if_pos (.inl h9), if_pos (by omega)]
    · by_cases hc : 128 ≤ c
      · rw [if_neg (by omega), if_pos hc, numR_lead r (i + 1) _ (by omega)]
        have hl : lead (c :: r) = lead r + 1 := by rw [lead.eq_2, if_pos hc]
        rw [hl]
        simp only [List.length_cons, List.getD_cons_succ, Nat.add_right_cancel_iff]
        have e1 : i + 1 + lead r = i + (lead r + 1) := by omega
        rw [e1]
        have e2 : v + c.toNat % 128 * 128 ^ i + valL (lead r + 1) r * 128 ^ (i + 1) = v + valL (lead r + 1 + 1) (c :: r) * 128 ^ i := by
          rw [valL.eq_3, Nat.pow_succ, Nat.add_mul, Nat.add_assoc]
          congr 2
          rw [Nat.mul_comm (128 ^ i) 128, ← Nat.mul_assoc, Nat.mul_comm _ 128]
        rw [e2]
      · have hl : lead (c :: r) = 0 := by rw [lead.eq_2, if_neg hc]
        rw [hl]
        simp only [List.length_cons, List.getD_cons_zero, Nat.add_zero, Nat.zero_add]
        rw [if_neg hc]
        by_cases hz : c = 0 ∧ 0 < i
        · rw [if_pos (.inr hz), if_neg (show ¬ 9 ≤ i by omega), if_neg (show ¬ 0 = r.length + 1 by omega), if_pos (show 0 < i ∧ c = 0 from ⟨hz.2, hz.1⟩)]
        · rw [if_neg (by omega), if_neg (show ¬ 9 ≤ i by omega), if_neg (show ¬ 0 = r.length + 1 by omega), if_neg (by omega)]
          have : valL 1 (c :: r) = c.toNat % 128 := by simp [valL]
          rw [this]
          by_cases hn : 0 ≤ c
          · rw [Nat.mod_eq_of_lt (by omega)]
          · rw [show c.toNat = 0 by omega]
theorem numW_max (n : Int) : numW n = numW (if 0 > n then 0 else n) := by
  unfold numW
  split
  · rw [show n.toNat = (0 : Int).toNat by omega]
  · rfl
theorem rNum_short {n most : Int} (h0 : 0 ≤ n) (h : n ≤ 9223372036854775807) {m : Nat} (hm : m < (numW n).length) : rNum ((numW n).take m) 0 most = (0, 0, 2) := by
  have h1 := numR_numW h0 h []
  rw [List.append_nil] at h1
  have h2 := numR_short (numW n) 0 0 _ _ m (by omega) h1 (by omega)
  unfold rNum
  rw [if_pos rfl, h2]
theorem rText_short {b : List Int} {most : Int} (hm : (b.length : Int) ≤ most) (h : (b.length : Int) ≤ 9223372036854775807) {m : Nat} (hk : m < (textW b).length) : (rText ((textW b).take m) 0 most).2.2 = 2 := by
  unfold textW at hk ⊢
  rw [List.length_append] at hk
  rcases Nat.lt_or_ge m (numW b.length).length with h1 | h1
  · rw [List.take_append_of_le_length (by omega)]
    unfold rText
    rw [rNum_short (by omega) h h1]
    rfl
  · have e : (numW b.length ++ b).take m = numW b.length ++ b.take (m - (numW b.length).length) := by
      rw [List.take_append, List.take_of_length_le h1]
    rw [e]
    unfold rText
    rw [rNum_app (by omega) h hm]
    simp only [List.drop_left, if_true]
    rw [if_pos (by rw [List.length_take]; omega)]
theorem textW_len (b : List Int) : 1 ≤ (textW b).length ∧ (textW b).length ≤ b.length + 9 := by
  have := numW_len b.length
  unfold textW
  rw [List.length_append]
  omega
theorem textW_byt {b : List Int} (h : Byt b) (hl : (b.length : Int) ≤ 9223372036854775807) : Byt (textW b) := fun c hc => by
  unfold textW at hc
  rcases List.mem_append.1 hc with hc | hc
  · exact numW_byt hl c hc
  · exact h c hc
end Vc
