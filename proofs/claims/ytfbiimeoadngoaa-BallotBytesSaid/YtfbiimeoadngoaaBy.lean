import Derived.Test.YtfbiimeoadngoaaPkC
import Derived.KernelRfl
namespace Go.Proofs.Ytfbiimeoadngoaa
open Vc Go
set_option linter.unusedVariables false
set_option linter.unusedSimpArgs false
set_option maxRecDepth 100000
/-- A ballot read: its term, its vote, is it one? -/
def bdT (l : List Int) : Int × Nat × Int := rNum l 0 1099511627776
def bdV (l : List Int) : Int × Nat × Int := rNum (l.drop (bdT l).2.1) (bdT l).2.2 16
def bdE (l : List Int) : Int := rEnd (l.drop ((bdT l).2.1 + (bdV l).2.1)) (bdV l).2.2
def bbW (t v : Int) : List Int := numW t ++ numW (v + 1)
structure VoteOk (v : Int) : Prop where
  lo : -9223372036854775808 ≤ v
  hi : v ≤ 9223372036854775806
def SbRead : FSpec := fun args kb K => match args, kb with
  | [.dat (.sl 1 A)], [] => ∃ l : List Int, A = ints .u8 l ∧ Byt l ∧ l.length ≤ 900000 ∧ ((bdE l != 0) = true → K (.tup [.agg [.int .i64 0, .int .i64 0], .sb false]) []) ∧ ((bdE l != 0) = false → K (.tup [.agg [.int .i64 (bdT l).1, .int .i64 ((bdV l).1 - 1)], .sb true]) [])
  | _, _ => False
def SbBytes : FSpec := fun args kb K => match args, kb with
  | [.agg [.int .i64 t, .int .i64 v]], [] => LeM t ∧ VoteOk v ∧ K (.sl 0 0 (bbW t v).length) [.row 5 1 (ints .u8 (bbW t v))]
  | _, _ => False
def Sawake : FSpec := fun args kb K => match args, kb with | [], [] => K (.sb true) [] | _, _ => False
def lawS : FuncId → Option Known
  | 8 => some ⟨[], Sawake⟩
  | 16 => some ⟨[.lend 1], SbRead⟩
  | 18 => some ⟨[], SbBytes⟩
  | f => pxS f
noncomputable def XL : CallT := callS Try.prog lawS noT 10
theorem vcBRead (l : List Int) (K : V → KB → Prop) (h :
 (ints IntKind.u8 l).length ≤ 1000000 ∧
 ∃ l_1,
 ints IntKind.u8 l = ints IntKind.u8 l_1 ∧
 (ints IntKind.u8 l).length = l_1.length ∧
 0 ≤ l_1.length ∧
 (∀ (c : Int), List.Mem c l_1 → 0 ≤ c ∧ c < 256) ∧
 l_1.length ≤ 10000000 ∧
 ∃ l,
 ints IntKind.u8 l_1 = ints IntKind.u8 l ∧
 l_1.length = l.length ∧
 0 + (rNum (List.drop 0 l_1) 0 1099511627776).snd.fst ≤ l.length ∧
 (∀ (c : Int), List.Mem c l → 0 ≤ c ∧ c < 256) ∧
 l.length ≤ 10000000 ∧
 ∃ l_2,
 ints IntKind.u8 l = ints IntKind.u8 l_2 ∧
 l.length = l_2.length ∧
 ((rEnd (List.drop (0 + (rNum (List.drop 0 l_1) 0 1099511627776).snd.fst + (rNum (List.drop (0 + (rNum (List.drop 0 l_1) 0 1099511627776).snd.fst) l) (rNum (List.drop 0 l_1) 0 1099511627776).snd.snd 16).snd.fst) l_2) (rNum (List.drop (0 + (rNum (List.drop 0 l_1) 0 1099511627776).snd.fst) l) (rNum (List.drop 0 l_1) 0 1099511627776).snd.snd 16).snd.snd != 0) = true →
 K (V.tup [V.agg [V.int IntKind.i64 0, V.int IntKind.i64 0], V.sb false]) []) ∧
 ((rEnd (List.drop (0 + (rNum (List.drop 0 l_1) 0 1099511627776).snd.fst + (rNum (List.drop (0 + (rNum (List.drop 0 l_1) 0 1099511627776).snd.fst) l) (rNum (List.drop 0 l_1) 0 1099511627776).snd.snd 16).snd.fst) l_2) (rNum (List.drop (0 + (rNum (List.drop 0 l_1) 0 1099511627776).snd.fst) l) (rNum (List.drop 0 l_1) 0 1099511627776).snd.snd 16).snd.snd != 0) =
 false →
 K (V.tup [V.agg [V.int IntKind.i64 (rNum (List.drop 0 l_1) 0 1099511627776).fst, V.int IntKind.i64 (IntKind.i64.wrap ((rNum (List.drop (0 + (rNum (List.drop 0 l_1) 0 1099511627776).snd.fst) l) (rNum (List.drop 0 l_1) 0 1099511627776).snd.snd 16).fst - 1))], V.sb true]) [])
 ) : runSpec Try.prog XPx (noT 16) 16 [.dat (.sl 1 (ints .u8 l))] [] (tidyRes 0 K) := Eq.mp (by kernel_rfl) h
theorem vcBBytes (t v : Int) (K : V → KB → Prop) (h :
 ∃ a,
 [] = ints IntKind.u8 a ∧
 0 = a.length ∧
 a.length ≤ 10000000 ∧
 LeM t ∧ ∃ a_1, ints IntKind.u8 (a ++ numW t) = ints IntKind.u8 a_1 ∧ (a ++ numW t).length = a_1.length ∧ a_1.length ≤ 10000000 ∧ LeM (IntKind.i64.wrap (v + 1)) ∧ ∃ a, ints IntKind.u8 (a_1 ++ numW (IntKind.i64.wrap (v + 1))) = ints IntKind.u8 a ∧ (a_1 ++ numW (IntKind.i64.wrap (v + 1))).length = a.length ∧ a.length ≤ 1000000 ∧ K (V.sl 0 0 a.length) [KO.row 5 1 (ints IntKind.u8 a)]
 ) : runSpec Try.prog XPx (noT 18) 18 [.agg [.int .i64 t, .int .i64 v]] [] (tidyRes 0 K) := Eq.mp (by kernel_rfl) h
theorem vcAwake  (K : V → KB → Prop) (h :
 K (V.sb true) []
 ) : runSpec Try.prog XPx (noT 8) 8 [] [] K := Eq.mp (by kernel_rfl) h
theorem vcLaw (t v : Int) (l : List Int)  (h :
 (decide ((↑(ints IntKind.u8 l).length : Int) > 20) = true → true = true) ∧
 (decide ((↑(ints IntKind.u8 l).length : Int) > 20) = false →
 ∃ l_1,
 ints IntKind.u8 l = ints IntKind.u8 l_1 ∧
 (∀ (c : Int), List.Mem c l_1 → 0 ≤ c ∧ c < 256) ∧
 l_1.length ≤ 900000 ∧
 ((bdE l_1 != 0) = true →
 (false = true →
 (true = true →
 (true = true →
 (true = true →
 (false = true → False) ∧
 (false = false →
 LeM 0 ∧
 VoteOk 0 ∧
 (2 ≤ 2 ∧ True ∧ True) ∧
 ∃ a b,
 [[D.val (Value.int IntKind.u8 0)], [D.val (Value.int IntKind.u8 1)]] = ints IntKind.u8 a ∧
 ints IntKind.u8 l = ints IntKind.u8 b ∧
 a.length.le 1000000 ∧
 True ∧
 ((!decide (a = b)) = true → False) ∧
 ((!decide (a = b)) = false →
 (true = true →
 (false = true → False) ∧
 (false = false →
 (decide (t ≥ 0) = true →
 (decide (t ≤ 1099511627776) = true →
 (decide (v ≥ -1) = true →
 ((!decide (v ≤ 15)) = true → true = true) ∧
 ((!decide (v ≤ 15)) = false →
 LeM t ∧
 VoteOk v ∧
 ((bbW t v).length ≤ (ints IntKind.u8 (bbW t v)).length ∧ True) ∧
 ∃ l,
 List.drop 0 (List.take (bbW t v).length (ints IntKind.u8 (bbW t v))) = ints IntKind.u8 l ∧
 (∀ (c : Int), List.Mem c l → 0 ≤ c ∧ c < 256) ∧
 l.length ≤ 900000 ∧
 ((bdE l != 0) = true → True ∧ (false = true → ((0 == t && (0 == v && true)) = true → true = true) ∧ ((0 == t && (0 == v && true)) = false → False)) ∧ (false = false → False)) ∧
 ((bdE l != 0) = false → True ∧ (true = true → (((bdT l).fst == t && ((bdV l).fst - 1 == v && true)) = true → true = true) ∧ (((bdT l).fst == t && ((bdV l).fst - 1 == v && true)) = false → False)) ∧ (true = false → False)))) ∧
 (decide (v ≥ -1) = false → true = true)) ∧
 (decide (t ≤ 1099511627776) = false → true = true)) ∧
 (decide (t ≥ 0) = false → true = true))) ∧
 (true = false →
 (decide (t ≥ 0) = true →
 (decide (t ≤ 1099511627776) = true →
 (decide (v ≥ -1) = true →
 ((!decide (v ≤ 15)) = true → true = true) ∧
 ((!decide (v ≤ 15)) = false →
 LeM t ∧
 VoteOk v ∧
 ((bbW t v).length ≤ (ints IntKind.u8 (bbW t v)).length ∧ True) ∧
 ∃ l,
 List.drop 0 (List.take (bbW t v).length (ints IntKind.u8 (bbW t v))) = ints IntKind.u8 l ∧
 (∀ (c : Int), List.Mem c l → 0 ≤ c ∧ c < 256) ∧
 l.length ≤ 900000 ∧
 ((bdE l != 0) = true → True ∧ (false = true → ((0 == t && (0 == v && true)) = true → true = true) ∧ ((0 == t && (0 == v && true)) = false → False)) ∧ (false = false → False)) ∧
 ((bdE l != 0) = false → True ∧ (true = true → (((bdT l).fst == t && ((bdV l).fst - 1 == v && true)) = true → true = true) ∧ (((bdT l).fst == t && ((bdV l).fst - 1 == v && true)) = false → False)) ∧ (true = false → False)))) ∧
 (decide (v ≥ -1) = false → true = true)) ∧
 (decide (t ≤ 1099511627776) = false → true = true)) ∧
 (decide (t ≥ 0) = false → true = true))))) ∧
 (true = false → False)) ∧
 (true = false → False)) ∧
 (true = false → False)) ∧
 (false = false →
 (true = true →
 (false = true → False) ∧
 (false = false →
 (decide (t ≥ 0) = true →
 (decide (t ≤ 1099511627776) = true →
 (decide (v ≥ -1) = true →
 ((!decide (v ≤ 15)) = true → true = true) ∧
 ((!decide (v ≤ 15)) = false →
 LeM t ∧
 VoteOk v ∧
 ((bbW t v).length ≤ (ints IntKind.u8 (bbW t v)).length ∧ True) ∧
 ∃ l,
 List.drop 0 (List.take (bbW t v).length (ints IntKind.u8 (bbW t v))) = ints IntKind.u8 l ∧
 (∀ (c : Int), List.Mem c l → 0 ≤ c ∧ c < 256) ∧
 l.length ≤ 900000 ∧
 ((bdE l != 0) = true → True ∧ (false = true → ((0 == t && (0 == v && true)) = true → true = true) ∧ ((0 == t && (0 == v && true)) = false → False)) ∧ (false = false → False)) ∧
 ((bdE l != 0) = false → True ∧ (true = true → (((bdT l).fst == t && ((bdV l).fst - 1 == v && true)) = true → true = true) ∧ (((bdT l).fst == t && ((bdV l).fst - 1 == v && true)) = false → False)) ∧ (true = false → False)))) ∧
 (decide (v ≥ -1) = false → true = true)) ∧
 (decide (t ≤ 1099511627776) = false → true = true)) ∧
 (decide (t ≥ 0) = false → true = true))) ∧
 (true = false →
 (decide (t ≥ 0) = true →
 (decide (t ≤ 1099511627776) = true →
 (decide (v ≥ -1) = true →
 ((!decide (v ≤ 15)) = true → true = true) ∧
 ((!decide (v ≤ 15)) = false →
 LeM t ∧
 VoteOk v ∧
 ((bbW t v).length ≤ (ints IntKind.u8 (bbW t v)).length ∧ True) ∧
 ∃ l,
 List.drop 0 (List.take (bbW t v).length (ints IntKind.u8 (bbW t v))) = ints IntKind.u8 l ∧
 (∀ (c : Int), List.Mem c l → 0 ≤ c ∧ c < 256) ∧
 l.length ≤ 900000 ∧
 ((bdE l != 0) = true → True ∧ (false = true → ((0 == t && (0 == v && true)) = true → true = true) ∧ ((0 == t && (0 == v && true)) = false → False)) ∧ (false = false → False)) ∧
 ((bdE l != 0) = false → True ∧ (true = true → (((bdT l).fst == t && ((bdV l).fst - 1 == v && true)) = true → true = true) ∧ (((bdT l).fst == t && ((bdV l).fst - 1 == v && true)) = false → False)) ∧ (true = false → False)))) ∧
 (decide (v ≥ -1) = false → true = true)) ∧
 (decide (t ≤ 1099511627776) = false → true = true)) ∧
 (decide (t ≥ 0) = false → true = true)))) ∧
 ((bdE l_1 != 0) = false →
 (true = true →
 (decide ((bdT l_1).fst ≥ 0) = true →
 (decide ((bdT l_1).fst ≤ 1099511627776) = true →
 (decide ((bdV l_1).fst - 1 ≥ -1) = true →
 ((!decide ((bdV l_1).fst - 1 ≤ 15)) = true → False) ∧
 ((!decide ((bdV l_1).fst - 1 ≤ 15)) = false →
 LeM (bdT l_1).fst ∧
 VoteOk ((bdV l_1).fst - 1) ∧
 ((bbW (bdT l_1).fst ((bdV l_1).fst - 1)).length ≤ (ints IntKind.u8 (bbW (bdT l_1).fst ((bdV l_1).fst - 1))).length ∧ True ∧ True) ∧
 ∃ a b,
 List.drop 0 (List.take (bbW (bdT l_1).fst ((bdV l_1).fst - 1)).length (ints IntKind.u8 (bbW (bdT l_1).fst ((bdV l_1).fst - 1)))) = ints IntKind.u8 a ∧
 ints IntKind.u8 l = ints IntKind.u8 b ∧
 a.length.le 1000000 ∧
 True ∧
 ((!decide (a = b)) = true → False) ∧
 ((!decide (a = b)) = false →
 (false = true →
 ((!((bdT l_1).fst == 0 && ((bdV l_1).fst - 1 == 0 && true))) = true → False) ∧
 ((!((bdT l_1).fst == 0 && ((bdV l_1).fst - 1 == 0 && true))) = false →
 (decide (t ≥ 0) = true →
 (decide (t ≤ 1099511627776) = true →
 (decide (v ≥ -1) = true →
 ((!decide (v ≤ 15)) = true → true = true) ∧
 ((!decide (v ≤ 15)) = false →
 LeM t ∧
 VoteOk v ∧
 ((bbW t v).length ≤ (ints IntKind.u8 (bbW t v)).length ∧ True) ∧
 ∃ l,
 List.drop 0 (List.take (bbW t v).length (ints IntKind.u8 (bbW t v))) = ints IntKind.u8 l ∧
 (∀ (c : Int), List.Mem c l → 0 ≤ c ∧ c < 256) ∧
 l.length ≤ 900000 ∧
 ((bdE l != 0) = true → True ∧ (false = true → ((0 == t && (0 == v && true)) = true → true = true) ∧ ((0 == t && (0 == v && true)) = false → False)) ∧ (false = false → False)) ∧
 ((bdE l != 0) = false → True ∧ (true = true → (((bdT l).fst == t && ((bdV l).fst - 1 == v && true)) = true → true = true) ∧ (((bdT l).fst == t && ((bdV l).fst - 1 == v && true)) = false → False)) ∧ (true = false → False)))) ∧
 (decide (v ≥ -1) = false → true = true)) ∧
 (decide (t ≤ 1099511627776) = false → true = true)) ∧
 (decide (t ≥ 0) = false → true = true))) ∧
 (false = false →
 (decide (t ≥ 0) = true →
 (decide (t ≤ 1099511627776) = true →
 (decide (v ≥ -1) = true →
 ((!decide (v ≤ 15)) = true → true = true) ∧
 ((!decide (v ≤ 15)) = false →
 LeM t ∧
 VoteOk v ∧
 ((bbW t v).length ≤ (ints IntKind.u8 (bbW t v)).length ∧ True) ∧
 ∃ l,
 List.drop 0 (List.take (bbW t v).length (ints IntKind.u8 (bbW t v))) = ints IntKind.u8 l ∧
 (∀ (c : Int), List.Mem c l → 0 ≤ c ∧ c < 256) ∧
 l.length ≤ 900000 ∧
 ((bdE l != 0) = true → True ∧ (false = true → ((0 == t && (0 == v && true)) = true → true = true) ∧ ((0 == t && (0 == v && true)) = false → False)) ∧ (false = false → False)) ∧
 ((bdE l != 0) = false → True ∧ (true = true → (((bdT l).fst == t && ((bdV l).fst - 1 == v && true)) = true → true = true) ∧ (((bdT l).fst == t && ((bdV l).fst - 1 == v && true)) = false → False)) ∧ (true = false → False)))) ∧
 (decide (v ≥ -1) = false → true = true)) ∧
 (decide (t ≤ 1099511627776) = false → true = true)) ∧
 (decide (t ≥ 0) = false → true = true))))) ∧
 (decide ((bdV l_1).fst - 1 ≥ -1) = false → False)) ∧
 (decide ((bdT l_1).fst ≤ 1099511627776) = false → False)) ∧
 (decide ((bdT l_1).fst ≥ 0) = false → False)) ∧
 (true = false →
 (false = true →
 ((!((bdT l_1).fst == 0 && ((bdV l_1).fst - 1 == 0 && true))) = true → False) ∧
 ((!((bdT l_1).fst == 0 && ((bdV l_1).fst - 1 == 0 && true))) = false →
 (decide (t ≥ 0) = true →
 (decide (t ≤ 1099511627776) = true →
 (decide (v ≥ -1) = true →
 ((!decide (v ≤ 15)) = true → true = true) ∧
 ((!decide (v ≤ 15)) = false →
 LeM t ∧
 VoteOk v ∧
 ((bbW t v).length ≤ (ints IntKind.u8 (bbW t v)).length ∧ True) ∧
 ∃ l,
 List.drop 0 (List.take (bbW t v).length (ints IntKind.u8 (bbW t v))) = ints IntKind.u8 l ∧
 (∀ (c : Int), List.Mem c l → 0 ≤ c ∧ c < 256) ∧
 l.length ≤ 900000 ∧
 ((bdE l != 0) = true → True ∧ (false = true → ((0 == t && (0 == v && true)) = true → true = true) ∧ ((0 == t && (0 == v && true)) = false → False)) ∧ (false = false → False)) ∧
 ((bdE l != 0) = false → True ∧ (true = true → (((bdT l).fst == t && ((bdV l).fst - 1 == v && true)) = true → true = true) ∧ (((bdT l).fst == t && ((bdV l).fst - 1 == v && true)) = false → False)) ∧ (true = false → False)))) ∧
 (decide (v ≥ -1) = false → true = true)) ∧
 (decide (t ≤ 1099511627776) = false → true = true)) ∧
 (decide (t ≥ 0) = false → true = true))) ∧
 (false = false →
 (decide (t ≥ 0) = true →
 (decide (t ≤ 1099511627776) = true →
 (decide (v ≥ -1) = true →
 ((!decide (v ≤ 15)) = true → true = true) ∧
 ((!decide (v ≤ 15)) = false →
 LeM t ∧
 VoteOk v ∧
 ((bbW t v).length ≤ (ints IntKind.u8 (bbW t v)).length ∧ True) ∧
 ∃ l,
 List.drop 0 (List.take (bbW t v).length (ints IntKind.u8 (bbW t v))) = ints IntKind.u8 l ∧
 (∀ (c : Int), List.Mem c l → 0 ≤ c ∧ c < 256) ∧
 l.length ≤ 900000 ∧
 ((bdE l != 0) = true → True ∧ (false = true → ((0 == t && (0 == v && true)) = true → true = true) ∧ ((0 == t && (0 == v && true)) = false → False)) ∧ (false = false → False)) ∧
 ((bdE l != 0) = false → True ∧ (true = true → (((bdT l).fst == t && ((bdV l).fst - 1 == v && true)) = true → true = true) ∧ (((bdT l).fst == t && ((bdV l).fst - 1 == v && true)) = false → False)) ∧ (true = false → False)))) ∧
 (decide (v ≥ -1) = false → true = true)) ∧
 (decide (t ≤ 1099511627776) = false → true = true)) ∧
 (decide (t ≥ 0) = false → true = true)))))
 ) : XL 6 [.agg [.int .i64 t, .int .i64 v], .dat (.sl 1 (ints .u8 l))] [] KT := Eq.mp (by kernel_rfl) h
theorem rNum_most {l : List Int} {most : Int} (h0 : 0 ≤ most) (e : Int) : (rNum l e most).1 ≤ most ∧ 0 ≤ (rNum l e most).1 := by
  unfold rNum
  split
  · split
    · split
      · exact ⟨h0, Int.le_refl _⟩
      · exact ⟨by simp only; omega, by simp only; omega⟩
    · exact ⟨h0, Int.le_refl _⟩
    · exact ⟨h0, Int.le_refl _⟩
  · exact ⟨h0, Int.le_refl _⟩
theorem okBRead : SpecOk Try.prog 16 SbRead := specOk_tidy XPx_ok mixed (fun args kb K h => by
  unfold SbRead at h; split at h <;> try exact h.elim
  obtain ⟨l, rfl, hb, hl, h1, h2⟩ := h
  have hv := rNum_val hb 0 1099511627776
  have hw := rNum_most (l := l.drop (bdT l).2.1) (most := 16) (by omega) (bdT l).2.2
  refine ⟨noT 16, vcBRead l K ⟨by rw [ints_len]; omega, l, rfl, ints_len, Nat.zero_le _, hb, by omega, l, rfl, rfl, ?_, hb, by omega, l, rfl, rfl, ?_⟩⟩
  · rw [List.drop_zero, Nat.zero_add]; exact hv.2.2
  · simp only [List.drop_zero, Nat.zero_add]
    refine ⟨fun h => h1 h, fun h => ?_⟩
    have := h2 h
    have e : IntKind.i64.wrap ((bdV l).1 - 1) = (bdV l).1 - 1 := w64 (by unfold bdV; omega) (by unfold bdV; omega)
    rw [← e] at this
    exact this)
theorem okBBytes : SpecOk Try.prog 18 SbBytes := specOk_tidy XPx_ok mixed (fun args kb K h => by
  unfold SbBytes at h; split at h <;> try exact h.elim
  rename_i t v
  obtain ⟨ht, hv, h⟩ := h
  have e : IntKind.i64.wrap (v + 1) = v + 1 := w64 (by have := hv.lo; omega) (by have := hv.hi; omega)
  have n1 := numW_len t
  have n2 := numW_len (v + 1)
  refine ⟨noT 18, vcBBytes t v K ⟨[], rfl, rfl, Nat.zero_le _, ht, numW t, rfl, rfl, by omega, ?_⟩⟩
  rw [e]
  exact ⟨⟨by have := hv.hi; omega⟩, bbW t v, rfl, rfl, by unfold bbW; rw [List.length_append]; omega, h⟩)
theorem okAwake : SpecOk Try.prog 8 Sawake := specOk_of' XPx_ok mixed (fun args kb K h => by
  unfold Sawake at h; split at h <;> try exact h.elim
  exact ⟨noT 8, vcAwake K h⟩)
theorem lawS_ok : AllOk Try.prog lawS := fun f k h => by
  unfold lawS at h
  split at h
  · cases h; exact okAwake
  · cases h; exact okBRead
  · cases h; exact okBBytes
  · exact pxS_ok _ _ h
theorem XL_ok : CallOk Try.prog XL := callS_ok mixed lawS_ok noT 10
theorem byt_wf {l : List Int} (h : ∀ n ∈ l, (Lit.int .u8 n).wf = true) : Byt l := fun c hc => by have := bounds_u8 (h c hc); omega
theorem rNum0 {b : List Int} {v : Int} {u : Nat} {most : Int} (hb : Byt b) (h : rNum b 0 most = (v, u, 0)) : b = numW v ++ b.drop u ∧ u = (numW v).length ∧ 0 ≤ v ∧ v ≤ 9223372036854775807 := by
  unfold rNum at h
  rw [if_pos rfl] at h
  split at h
  · rename_i w n hn
    split at h
    · simp at h
    · simp only [Prod.mk.injEq, and_true] at h
      obtain ⟨rfl, rfl⟩ := h
      obtain ⟨h1, h2, r, h3⟩ := numR_got hb hn
      refine ⟨?_, h2, by omega, h1⟩
      have : b.drop n = r := by rw [h3, h2, List.drop_left]
      rw [this]; exact h3
  · simp at h
  · simp at h
theorem rNum_e {l : List Int} {e most : Int} (h : e ≠ 0) : rNum l e most = (0, 0, e) := by unfold rNum; rw [if_neg h]
/-- What is read to its end is what was written. -/
theorem bd_back {l : List Int} (hb : Byt l) (h : bdE l = 0) : l = bbW (bdT l).1 ((bdV l).1 - 1) := by
  have hE : (bdV l).2.2 = 0 ∧ l.drop ((bdT l).2.1 + (bdV l).2.1) = [] := by
    unfold bdE rEnd at h
    split at h
    · omega
    · rename_i hh
      refine ⟨h, ?_⟩
      by_cases hd : l.drop ((bdT l).2.1 + (bdV l).2.1) = []
      · exact hd
      · exact absurd ⟨hd, h⟩ hh
  have hT : (bdT l).2.2 = 0 := by
    by_cases ht : (bdT l).2.2 = 0
    · exact ht
    · have : bdV l = (0, 0, (bdT l).2.2) := rNum_e ht
      rw [this] at hE
      exact absurd hE.1 ht
  have h1 := rNum0 (b := l) (v := (bdT l).1) (u := (bdT l).2.1) (most := 1099511627776) hb (by show bdT l = _; rw [← hT])
  have h2 := rNum0 (b := l.drop (bdT l).2.1) (v := (bdV l).1) (u := (bdV l).2.1) (most := 16) (byt_drop hb _) (by
    have : bdV l = rNum (l.drop (bdT l).2.1) 0 16 := by show rNum _ _ _ = _; rw [hT]
    rw [← this, ← hE.1])
  unfold bbW
  rw [show (bdV l).1 - 1 + 1 = (bdV l).1 by omega]
  have h3 := h2.1
  rw [List.drop_drop, hE.2, List.append_nil] at h3
  rw [← h3]
  exact h1.1
theorem bd_of {t v : Int} (h1 : 0 ≤ t) (h2 : t ≤ 1099511627776) (h3 : -1 ≤ v) (h4 : v ≤ 15) : bdE (bbW t v) = 0 ∧ (bdT (bbW t v)).1 = t ∧ (bdV (bbW t v)).1 = v + 1 := by
  have eT : bdT (bbW t v) = (t, (numW t).length, 0) := rNum_app h1 (by omega) h2 _
  have eV : bdV (bbW t v) = (v + 1, (numW (v + 1)).length, 0) := by
    unfold bdV
    rw [eT]
    simp only
    unfold bbW
    rw [List.drop_left]
    have := rNum_app (n := v + 1) (most := 16) (by omega) (by omega) (by omega) []
    rwa [List.append_nil] at this
  refine ⟨?_, by rw [eT], by rw [eV]⟩
  unfold bdE
  rw [eT, eV]
  simp only
  rw [List.drop_eq_nil_of_le (by unfold bbW; rw [List.length_append]; omega)]
  rfl
theorem lawBytes (t v : Int) (l : List Int) (ht : inI t) (hv : inI v) (hw : ∀ n ∈ l, (Lit.int .u8 n).wf = true) : XL 6 [.agg [.int .i64 t, .int .i64 v], .dat (.sl 1 (ints .u8 l))] [] KT := by
  have hb := byt_wf hw
  refine vcLaw t v l ⟨fun _ => rfl, fun h20 => ?_⟩
  simp only [ints_len, decide_eq_false_iff_not] at h20
  refine ⟨l, rfl, hb, by omega, ?_⟩
  simp only [Bool.true_eq_false, Bool.false_eq_true, false_implies, true_implies, true_and, and_true, implies_true]
  have tail : decide (t ≥ 0) = true → decide (t ≤ 1099511627776) = true → decide (v ≥ -1) = true → (!decide (v ≤ 15)) = false →
      LeM t ∧ VoteOk v ∧ (bbW t v).length ≤ (ints IntKind.u8 (bbW t v)).length ∧ ∃ l, List.drop 0 (List.take (bbW t v).length (ints IntKind.u8 (bbW t v))) = ints IntKind.u8 l ∧ (∀ (c : Int), List.Mem c l → 0 ≤ c ∧ c < 256) ∧ l.length ≤ 900000 ∧
      ((bdE l != 0) = true → False) ∧ ((bdE l != 0) = false → ((bdT l).fst == t && ((bdV l).fst - 1 == v && true)) = false → False) := by
    intro a1 a2 a3 a4
    simp only [decide_eq_true_eq, Bool.not_eq_false'] at a1 a2 a3 a4
    obtain ⟨k1, k2, k3⟩ := bd_of a1 a2 a3 a4
    have n1 := numW_len t
    have n2 := numW_len (v + 1)
    refine ⟨⟨by omega⟩, ⟨by omega, by omega⟩, by rw [ints_len]; exact Nat.le_refl _, bbW t v, dropTake, ?_, by unfold bbW; rw [List.length_append]; omega, fun f => (by rw [k1] at f; cases f), fun _ f => by rw [k2, k3] at f; simp at f⟩
    intro c hc
    rcases List.mem_append.1 hc with hc | hc
    · exact numW_byt (by omega) c hc
    · exact numW_byt (by omega) c hc
  refine ⟨fun _ => tail, fun hE => ?_⟩
  have hT1 := rNum_most (l := l) (most := 1099511627776) (by omega) 0
  have hV1 := rNum_most (l := l.drop (bdT l).2.1) (most := 16) (by omega) (bdT l).2.2
  have eT : (bdT l).1 = (rNum l 0 1099511627776).1 := rfl
  have eV : (bdV l).1 = (rNum (l.drop (bdT l).2.1) (bdT l).2.2 16).1 := rfl
  have hback := bd_back hb (by simpa using hE)
  have hbl : (bbW (bdT l).1 ((bdV l).1 - 1)).length = l.length := by rw [← hback]
  have d1 : decide ((bdT l).1 ≥ 0) = true := decide_eq_true (by omega)
  have d2 : decide ((bdT l).1 ≤ 1099511627776) = true := decide_eq_true (by omega)
  have d3 : decide ((bdV l).1 - 1 ≥ -1) = true := decide_eq_true (by omega)
  have d4 : (!decide ((bdV l).1 - 1 ≤ 15)) = false := by rw [decide_eq_true (by omega)]; rfl
  simp only [d1, d2, d3, d4, Bool.true_eq_false, Bool.false_eq_true, false_implies, true_implies, true_and, and_true]
  refine ⟨⟨by omega⟩, ⟨by omega, by omega⟩, by rw [ints_len]; exact Nat.le_refl _, bbW (bdT l).1 ((bdV l).1 - 1), l, dropTake, rfl, by show (bbW _ _).length ≤ 1000000; omega, fun f => by rw [← hback] at f; simp at f, fun _ => tail⟩
end Go.Proofs.Ytfbiimeoadngoaa
