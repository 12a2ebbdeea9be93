import Derived.Test.YthobahlcphmafaaBl
import Derived.KernelRfl
namespace Go.Proofs.Ythobahlcphmafaa
open Vc Go
set_option linter.unusedVariables false
set_option linter.unusedSimpArgs false
set_option maxRecDepth 100000
def blS : FuncId → Option Known
  | 9 => some ⟨[.asis, .asis, .lend 1], Swrite⟩
  | 10 => some ⟨[], Sread⟩
  | 12 => some ⟨[], Strim⟩
  | 26 => some ⟨[], Sall⟩
  | 17 => some ⟨[.lend 1], Sload⟩
  | 15 => some ⟨[.asis, .asis, .lend 1], SrWrite⟩
  | 18 => some ⟨[], SrRead⟩
  | 22 => some ⟨[], SrLoad⟩
  | f => codeS f
noncomputable def XD : CallT := callS Try.prog blS noT 10
abbrev Act := Int × Int × List Int
def actR (a : Act) : List D := [dn .i64 a.1, dn .i64 a.2.1, .sl 1 (ints .u8 a.2.2)]
def dInv (n k : Nat) : Prop := k ≤ n
abbrev doLI (l : List Act) (cv : Nat → List D) : LI where
  α := {k : Nat // dInv l.length k}
  live := [0, 1, 4]
  st k := ([.ptr 0 0, .dat (.sl 3 (l.map actR)), .int .i64 (k.1 : Int)], [.cells [.arr 128 (cv k.1)]])
  μ k := l.length - k.1
def doT (l : List Act) (cv : Nat → List D) : FuncId → Nat → Option LI
  | 8, 1 => some (doLI l cv)
  | _, _ => none
theorem vcBytes (c : List D) (K : V → KB → Prop) (h :
 ∃ c_1,
 c = dns IntKind.u8 c_1 ∧
 c_1.length = 128 ∧
 (128 ≤ (ints IntKind.u8 c_1).length ∧ True) ∧
 ∃ l, List.drop 0 (List.take 128 (ints IntKind.u8 c_1)) = ints IntKind.u8 l ∧ (∀ (c : Int), List.Mem c l → 0 ≤ c ∧ c < 256) ∧ l.length ≤ 900000 ∧ PlainS (ints IntKind.u8 (sealI l)).flatten ∧ K (V.sl 1 0 (l.length + 4)) [KO.cells [V.arr 128 (dns IntKind.u8 c_1)], KO.row 5 1 (ints IntKind.u8 (sealI l))]
 ) : runSpec Try.prog XD (noT 13) 13 [.ptr 0 0] [.cells [.arr 128 c]] K := Eq.mp (by kernel_rfl) h
theorem vcCSum (c : List D) (K : V → KB → Prop) (h :
 ∃ c_1,
 c = dns IntKind.u8 c_1 ∧
 c_1.length = 128 ∧
 128 ≤ (ints IntKind.u8 c_1).length ∧
 (1 ≤ 1 ∧ True) ∧ ∃ ls, [[D.sl 1 (List.drop 0 (List.take 128 (ints IntKind.u8 c_1)))]] = List.map bsl ls ∧ (ls.length ≤ 1000000 ∧ ∀ (l : List Int), List.Mem l ls → (∀ (c : Int), List.Mem c l → 0 ≤ c ∧ c < 256) ∧ l.length.le 1000000) ∧ True ∧ K (V.int IntKind.u32 (crcI ls.flatten)) [KO.cells [V.arr 128 (dns IntKind.u8 c_1)]]
 ) : runSpec Try.prog XD (noT 19) 19 [.ptr 0 0] [.cells [.arr 128 c]] K := Eq.mp (by kernel_rfl) h
theorem vcNew  (K : V → KB → Prop) (h :
 NonN 128 ∧
 Room 128 128 1 ∧
 K (V.sl 0 0 128)
 [KO.row 5 1
 (List.replicate 128 ([D.val (Value.int IntKind.u8 0)]))]
 ) : runSpec Try.prog XD (noT 14) 14 [] [] K := Eq.mp (by kernel_rfl) h
theorem vcRTrim (A : List (List D)) (i : Int) (K : V → KB → Prop) (h :
 NonN 16 ∧
 Room 16 16 1 ∧
 (16 ≤ 16 ∧ True) ∧
 ∃ a b,
 A = ints IntKind.u8 a ∧
 a.length = 128 ∧
 (List.replicate 16 ([D.val (Value.int IntKind.u8 0)])) =
 ints IntKind.u8 b ∧
 (okI i ∧ b.length = 16 → (PlainS (ints IntKind.u8 a).flatten ∧ PlainS (ints IntKind.u8 (splice a (i.toNat * 16) b)).flatten) ∧ K (V.tup [V.sl 1 0 128, V.int IntKind.i64 0]) [KO.row 5 1 (ints IntKind.u8 a), KO.row 5 1 (ints IntKind.u8 (splice a (i.toNat * 16) b))]) ∧
 ((okI i ∧ b.length = 16 → False) → PlainS (ints IntKind.u8 a).flatten ∧ K (V.tup [V.sl 0 0 128, V.int IntKind.i64 1]) [KO.row 5 1 (ints IntKind.u8 a)])
 ) : runSpec Try.prog XD (noT 16) 16 [.sl 0 0 128, .int .i64 i] [.row 5 1 A] K := Eq.mp (by kernel_rfl) h
theorem vcDo (l : List Act) (c : List D) (cv : Nat → List D) (K : V → KB → Prop) (h :
 At (doLI l cv) ([V.ptr 0 0, V.dat (D.sl 3 (List.map actR l)), V.int IntKind.i64 0], [KO.cells [V.arr 128 c]]) ∧
 ∀ (i : { k // dInv l.length k }),
 (decide ((↑i.val : Int) < (↑(List.map actR l).length : Int)) = true →
 NonN (↑i.val : Int) ∧
 ∃ e,
 (List.map actR l)[(↑i.val : Int).toNat]? = some e ∧
 ∃ n,
 e[0]? = some (D.val (Value.int IntKind.i64 n)) ∧
 ((n == 0) = true →
 NonN (↑i.val : Int) ∧
 ∃ e,
 (List.map actR l)[(↑i.val : Int).toNat]? = some e ∧
 ∃ n,
 e[1]? = some (D.val (Value.int IntKind.i64 n)) ∧
 NonN (↑i.val : Int) ∧
 ∃ e,
 (List.map actR l)[(↑i.val : Int).toNat]? = some e ∧
 ∃ l_1,
 e[2]? = some (D.sl 1 l_1) ∧
 ∃ c b,
 cv i.val = dns IntKind.u8 c ∧
 l_1 = ints IntKind.u8 b ∧
 c.length = 128 ∧
 (okI n ∧ b.length = 16 → Nx (doLI l cv) i ([V.ptr 0 0, V.dat (D.sl 3 (List.map actR l)), V.int IntKind.i64 (IntKind.i64.wrap ((↑i.val : Int) + 1))], [KO.cells [V.arr 128 (dns IntKind.u8 (splice c (n.toNat * 16) b))]])) ∧
 ((okI n ∧ b.length = 16 → False) → Nx (doLI l cv) i ([V.ptr 0 0, V.dat (D.sl 3 (List.map actR l)), V.int IntKind.i64 (IntKind.i64.wrap ((↑i.val : Int) + 1))], [KO.cells [V.arr 128 (dns IntKind.u8 c)]]))) ∧
 ((n == 0) = false →
 NonN (↑i.val : Int) ∧
 ∃ e,
 (List.map actR l)[(↑i.val : Int).toNat]? = some e ∧
 ∃ n,
 e[1]? = some (D.val (Value.int IntKind.i64 n)) ∧
 ∃ c,
 cv i.val = dns IntKind.u8 c ∧
 c.length = 128 ∧
 (okI n → Nx (doLI l cv) i ([V.ptr 0 0, V.dat (D.sl 3 (List.map actR l)), V.int IntKind.i64 (IntKind.i64.wrap ((↑i.val : Int) + 1))], [KO.cells [V.arr 128 (dns IntKind.u8 (splice c (n.toNat * 16) [0, 0, 0, 0, 0, 0, 0, 0, 0, 0, 0, 0, 0, 0, 0, 0]))]])) ∧
 ((okI n → False) → Nx (doLI l cv) i ([V.ptr 0 0, V.dat (D.sl 3 (List.map actR l)), V.int IntKind.i64 (IntKind.i64.wrap ((↑i.val : Int) + 1))], [KO.cells [V.arr 128 (dns IntKind.u8 c)]])))) ∧
 (decide ((↑i.val : Int) < (↑(List.map actR l).length : Int)) = false → K (V.tup []) [KO.cells [V.arr 128 (cv i.val)]])
 ) : runSpec Try.prog XD (doT l cv 8) 8 [.ptr 0 0, .dat (.sl 3 (l.map actR))] [.cells [.arr 128 c]] K := Eq.mp (by kernel_rfl) h
theorem blS_ok : AllOk Try.prog blS := fun f k h => by
  unfold blS at h
  split at h
  · cases h; exact okWrite
  · cases h; exact okRead
  · cases h; exact okTrim
  · cases h; exact okAll
  · cases h; exact okLoad
  · cases h; exact okRWrite
  · cases h; exact okRRead
  · cases h; exact okRLoad
  · exact codeS_ok _ _ h
theorem XD_ok : CallOk Try.prog XD := callS_ok mixed blS_ok noT 10
def Sbytes : FSpec := fun args kb K => match args, kb with
  | [.ptr 0 0], [.cells [.arr 128 C]] => ∃ c : List Int, C = dns .u8 c ∧ c.length = 128 ∧ Byt c ∧ K (.sl 1 0 132) [.cells [.arr 128 (dns .u8 c)], .row 5 1 (ints .u8 (sealI c))]
  | _, _ => False
def Scsum : FSpec := fun args kb K => match args, kb with
  | [.ptr 0 0], [.cells [.arr 128 C]] => ∃ c : List Int, C = dns .u8 c ∧ c.length = 128 ∧ Byt c ∧ K (.int .u32 (crcI c)) [.cells [.arr 128 (dns .u8 c)]]
  | _, _ => False
def Snew : FSpec := fun args kb K => match args, kb with
  | [], [] => K (.sl 0 0 128) [.row 5 1 (ints .u8 z128)]
  | _, _ => False
def SrTrim : FSpec := fun args kb K => match args, kb with
  | [.sl 0 0 128, .int .i64 i], [.row 5 1 A] => ∃ a : List Int, A = ints .u8 a ∧ a.length = 128 ∧ (okI i → K (.tup [.sl 1 0 128, .int .i64 0]) [.row 5 1 (ints .u8 a), .row 5 1 (ints .u8 (splice a (i.toNat * 16) (List.replicate 16 0)))]) ∧ (¬ okI i → K (.tup [.sl 0 0 128, .int .i64 1]) [.row 5 1 (ints .u8 a)])
  | _, _ => False
theorem t128 {c : List Int} (h : c.length = 128) : List.drop 0 (List.take 128 (ints .u8 c)) = ints .u8 c := by rw [← h]; rw [List.drop_zero]; exact List.take_of_length_le (by rw [ints_len]; omega)
theorem okBytes : SpecOk Try.prog 13 Sbytes := specOk_of' XD_ok mixed (fun args kb K h => by
  unfold Sbytes at h; split at h <;> try exact h.elim
  obtain ⟨c, rfl, hl, hb, h⟩ := h
  refine ⟨noT 13, vcBytes _ K ⟨c, rfl, hl, ⟨by rw [ints_len]; omega, trivial⟩, c, t128 hl, hb, by omega, ⟨plain_ints⟩, ?_⟩⟩
  rw [hl]; exact h)
theorem okCSum : SpecOk Try.prog 19 Scsum := specOk_of' XD_ok mixed (fun args kb K h => by
  unfold Scsum at h; split at h <;> try exact h.elim
  obtain ⟨c, rfl, hl, hb, h⟩ := h
  refine ⟨noT 19, vcCSum _ K ⟨c, rfl, hl, by rw [ints_len]; omega, ⟨by decide, trivial⟩, [c], by rw [t128 hl]; rfl, ⟨by simp, fun x hx => ?_⟩, trivial, ?_⟩⟩
  · cases hx with
    | head => exact ⟨hb, by show c.length ≤ 1000000; omega⟩
    | tail _ hx => cases hx
  · rw [crcI_one]; exact h)
theorem okNew : SpecOk Try.prog 14 Snew := specOk_of' XD_ok mixed (fun args kb K h => by
  unfold Snew at h; split at h <;> try exact h.elim
  exact ⟨noT 14, vcNew K ⟨by unfold NonN; omega, ⟨by omega, by omega, by omega⟩, h⟩⟩)
theorem okRTrim : SpecOk Try.prog 16 SrTrim := specOk_of' XD_ok mixed (fun args kb K h => by
  unfold SrTrim at h; split at h <;> try exact h.elim
  rename_i i A
  obtain ⟨a, rfl, hl, h1, h2⟩ := h
  refine ⟨noT 16, vcRTrim _ i K ⟨by unfold NonN; omega, ⟨by omega, by omega, by omega⟩, ⟨by omega, trivial⟩, a, List.replicate 16 0, rfl, hl, rfl, fun hc => ⟨⟨⟨plain_ints⟩, ⟨plain_ints⟩⟩, h1 hc.1⟩, fun hc => ⟨⟨plain_ints⟩, h2 (fun ho => hc ⟨ho, rfl⟩)⟩⟩⟩)
def actC (c : List Int) (a : Act) : List Int := if a.1 = 0 then (if (0 ≤ a.2.1 ∧ a.2.1 < 8) ∧ a.2.2.length = 16 then splice c (a.2.1.toNat * 16) a.2.2 else c) else (if 0 ≤ a.2.1 ∧ a.2.1 < 8 then splice c (a.2.1.toNat * 16) (List.replicate 16 0) else c)
def doC (c : List Int) (l : List Act) : List Int := l.foldl actC c
theorem splice_len' {c b : List Int} {i : Int} (h : c.length = 128) (hi : 0 ≤ i ∧ i < 8) (hb : b.length = 16) : (splice c (i.toNat * 16) b).length = 128 := by
  unfold splice; simp; omega
theorem actC_len {c : List Int} {a : Act} (h : c.length = 128) : (actC c a).length = 128 := by
  unfold actC
  split
  · split
    · rename_i hc; exact splice_len' h hc.1 hc.2
    · exact h
  · split
    · rename_i hc; exact splice_len' h hc (by simp)
    · exact h
theorem doC_len {l : List Act} : ∀ {c : List Int}, c.length = 128 → (doC c l).length = 128 := by
  induction l with
  | nil => intro c h; exact h
  | cons a l ih => intro c h; exact ih (actC_len h)
theorem doC_step {c : List Int} {l : List Act} {k : Nat} (h : k < l.length) : doC c (l.take (k + 1)) = actC (doC c (l.take k)) l[k] := by
  have hq : l[k]? = some l[k] := List.getElem?_eq_getElem h
  unfold doC; rw [List.take_add_one, hq, List.foldl_append]; rfl
def Sdo : FSpec := fun args kb K => match args, kb with
  | [.ptr 0 0, .dat (.sl 3 L)], [.cells [.arr 128 C]] => ∃ (c : List Int) (l : List Act), C = dns .u8 c ∧ c.length = 128 ∧ L = l.map actR ∧ l.length ≤ 1000 ∧ K (.tup []) [.cells [.arr 128 (dns .u8 (doC c l))]]
  | _, _ => False
theorem okDo : SpecOk Try.prog 8 Sdo := specOk_of' XD_ok mixed (fun args kb K h => by
  unfold Sdo at h; split at h <;> try exact h.elim
  obtain ⟨c, l, rfl, hl, rfl, hsm, h⟩ := h
  refine ⟨doT l (fun k => dns .u8 (doC c (l.take k))) 8, vcDo l _ (fun k => dns .u8 (doC c (l.take k))) K ⟨At.mk' ⟨0, Nat.zero_le _⟩ rfl, ?_⟩⟩
  rintro ⟨k, hk⟩
  simp only [dInv, List.length_map] at hk ⊢
  refine ⟨fun hc => ?_, fun hc => ?_⟩
  · simp only [decide_eq_true_eq] at hc
    have hk2 : k < l.length := by omega
    have e2 : ((k : Nat) : Int).toNat = k := by omega
    have hq : l[k]? = some l[k] := List.getElem?_eq_getElem hk2
    have hnn : NonN (k : Int) := by unfold NonN; omega
    have w2 := w64 (n := (k : Int) + 1) (by omega) (by omega)
    have hcl : (doC c (l.take k)).length = 128 := doC_len hl
    have hst := doC_step (c := c) hk2
    have nx : ∀ C', C' = doC c (l.take (k + 1)) → Nx (doLI l (fun k => dns .u8 (doC c (l.take k)))) ⟨k, hk⟩ ([V.ptr 0 0, V.dat (D.sl 3 (l.map actR)), V.int IntKind.i64 ((k : Int) + 1)], [KO.cells [V.arr 128 (dns .u8 C')]]) := fun C' hC =>
      Nx.mk' (⟨k + 1, by show k + 1 ≤ l.length; omega⟩ : {k : Nat // dInv l.length k}) (by rw [hC]; rfl) (by show l.length - (k + 1) < l.length - k; omega)
    simp only [e2, w2, hq, hnn, actR, List.getElem?_map, Option.map_some, Option.some.injEq, exists_eq_left', dn, db, List.getElem?_cons_zero, List.getElem?_cons_succ, D.val.injEq, D.sl.injEq, Value.int.injEq, Value.bool.injEq, true_and, beq_iff_eq, bne_iff_ne, ne_eq, beq_eq_false_iff_ne, bne_eq_false_iff_eq, Bool.and_eq_true, Bool.or_eq_true, Bool.not_eq_true', Bool.not_eq_false', Bool.and_eq_false_iff, Bool.or_eq_false_iff, decide_eq_true_eq, decide_eq_false_iff_not]
    refine ⟨fun hd => ⟨_, _, rfl, rfl, hcl, fun hb => nx _ ?_, fun hb => nx _ ?_⟩, fun hd => ⟨_, rfl, hcl, fun hb => nx _ ?_, fun hb => nx _ ?_⟩⟩
    · rw [hst, actC, if_pos hd, if_pos ⟨⟨hb.1.lo, hb.1.hi⟩, hb.2⟩]
    · rw [hst, actC, if_pos hd, if_neg (fun x => hb ⟨⟨x.1.1, x.1.2⟩, x.2⟩)]
    · rw [hst, actC, if_neg hd, if_pos ⟨hb.lo, hb.hi⟩]; rfl
    · rw [hst, actC, if_neg hd, if_neg (fun x => hb ⟨x.1, x.2⟩)]
  · simp only [decide_eq_false_iff_not] at hc
    rw [List.take_of_length_le (by omega)]
    exact h)
end Go.Proofs.Ythobahlcphmafaa
