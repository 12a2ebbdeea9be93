import Derived.Test.YtmemkblmocgnlaaPk
import Derived.KernelRfl
namespace Go.Proofs.Ytmemkblmocgnlaa
open Vc Go
set_option linter.unusedVariables false
set_option linter.unusedSimpArgs false
set_option maxRecDepth 100000
def nuS : FuncId → Option Known
  | 48 => some ⟨[], Snumber⟩
  | f => baS f
noncomputable def XNu : CallT := callS Try.prog nuS noT 10
def SrNum : FSpec := fun args kb K => match args, kb with
  | [.ptr 0 0, .int .i64 most], [.cells [.sl 1 lo h, .int .i64 e], .row 5 1 A] => ∃ l : List Int, A = ints .u8 l ∧ h = l.length ∧ lo ≤ l.length ∧ Byt l ∧ l.length ≤ 10000000 ∧
    K (.int .i64 (rNum (l.drop lo) e most).1) [.cells [.sl 1 (lo + (rNum (l.drop lo) e most).2.1) l.length, .int .i64 (rNum (l.drop lo) e most).2.2], .row 5 1 (ints .u8 l)]
  | _, _ => False
def rdS : FuncId → Option Known
  | 31 => some ⟨[], SrNum⟩
  | 20 => some ⟨[], nilIn [.cell 0 0 5 1] SwNum⟩
  | 34 => some ⟨[], SrefNum⟩
  | f => nuS f
noncomputable def XRd : CallT := callS Try.prog rdS noT 10
def leInv (m i : Nat) : Prop := i ≤ m
abbrev ta1LI (l : List Int) (most : Int) : LI where
  α := {i : Nat // leInv (lead l) i}
  live := [0, 1, 4, 5]
  st := fun i => ([.dat (.sl 1 (ints .u8 l)), .int .i64 most, .ptr 0 0, .int .i64 (i.1 : Int)], [.cells [.int .i64 0, .any (.slice none 0 0), .int .i64 0, .any (.slice none 0 0)]])
  μ := fun i => l.length - i.1
abbrev ta2LI (l : List Int) (most : Int) (n : Nat) : LI where
  α := {j : Nat // leInv (n + 1) j}
  live := [0, 1, 4, 5, 6, 7]
  st := fun j => ([.dat (.sl 1 (ints .u8 l)), .int .i64 most, .ptr 0 0, .int .i64 (n : Int), .int .i64 ((valL (n + 1 - j.1) (l.drop j.1) : Nat) : Int), .int .i64 ((j.1 : Int) - 1)], [.cells [.int .i64 0, .any (.slice none 0 0), .int .i64 0, .any (.slice none 0 0)]])
  μ := fun j => j.1
def rdT (l : List Int) (most : Int) (n : Nat) : FuncId → Nat → Option LI
  | 39, 2 => some (ta1LI l most)
  | 39, 12 => some (ta2LI l most n)
  | _, _ => none
theorem vcNum (l : List Int) (lo : Nat) (e most : Int) (K : V → KB → Prop) (hvc_ :
 ((e != 0) = true → K (V.int IntKind.i64 0) [KO.cells [V.sl 1 lo l.length, V.int IntKind.i64 e], KO.row 5 1 (ints IntKind.u8 l)]) ∧
 ((e != 0) = false →
 ∃ (l_1 : List Int),
 ints IntKind.u8 l = ints IntKind.u8 l_1 ∧
 l.length = l_1.length ∧
 lo ≤ l_1.length ∧
 (∀ (c : Int), List.Mem c l_1 → 0 ≤ c ∧ c < 256) ∧
 l_1.length ≤ 10000000 ∧
 e = 0 ∧
 (∀ (v n : Nat),
 numR 0 0 (List.drop lo l_1) = RdN.got v n →
 (((↑n : Int) == 0) = true → K (V.int IntKind.i64 0) [KO.cells [V.sl 1 lo l_1.length, V.int IntKind.i64 0], KO.row 5 1 (ints IntKind.u8 l_1)]) ∧
 (((↑n : Int) == 0) = false →
 (decide ((↑v : Int) > most) = true → (true = true → K (V.int IntKind.i64 0) [KO.cells [V.sl 1 lo l_1.length, V.int IntKind.i64 5], KO.row 5 1 (ints IntKind.u8 l_1)]) ∧ (true = false → K (V.int IntKind.i64 0) [KO.cells [V.sl 1 lo l_1.length, V.int IntKind.i64 0], KO.row 5 1 (ints IntKind.u8 l_1)])) ∧
 (decide ((↑v : Int) > most) = false → NonN (↑n : Int) ∧ True ∧ (↑n : Int).toNat ≤ l_1.length - lo ∧ l_1.length - lo ≤ l_1.length - lo ∧ K (V.int IntKind.i64 (↑v : Int)) [KO.cells [V.sl 1 (lo + (↑n : Int).toNat) (lo + (l_1.length - lo)), V.int IntKind.i64 0], KO.row 5 1 (ints IntKind.u8 l_1)]))) ∧
 (numR 0 0 (List.drop lo l_1) = RdN.short →
 (true = true → K (V.int IntKind.i64 0) [KO.cells [V.sl 1 lo l_1.length, V.int IntKind.i64 2], KO.row 5 1 (ints IntKind.u8 l_1)]) ∧
 (true = false →
 (decide (0 > most) = true → (false = true → K (V.int IntKind.i64 0) [KO.cells [V.sl 1 lo l_1.length, V.int IntKind.i64 5], KO.row 5 1 (ints IntKind.u8 l_1)]) ∧ (false = false → K (V.int IntKind.i64 0) [KO.cells [V.sl 1 lo l_1.length, V.int IntKind.i64 2], KO.row 5 1 (ints IntKind.u8 l_1)])) ∧
 (decide (0 > most) = false → NonN 0 ∧ True ∧ 0 ≤ l_1.length - lo ∧ l_1.length - lo ≤ l_1.length - lo ∧ K (V.int IntKind.i64 0) [KO.cells [V.sl 1 (lo + 0) (lo + (l_1.length - lo)), V.int IntKind.i64 2], KO.row 5 1 (ints IntKind.u8 l_1)]))) ∧
 (numR 0 0 (List.drop lo l_1) = RdN.form →
 (true = true → K (V.int IntKind.i64 0) [KO.cells [V.sl 1 lo l_1.length, V.int IntKind.i64 3], KO.row 5 1 (ints IntKind.u8 l_1)]) ∧
 (true = false →
 (decide (0 > most) = true → (false = true → K (V.int IntKind.i64 0) [KO.cells [V.sl 1 lo l_1.length, V.int IntKind.i64 5], KO.row 5 1 (ints IntKind.u8 l_1)]) ∧ (false = false → K (V.int IntKind.i64 0) [KO.cells [V.sl 1 lo l_1.length, V.int IntKind.i64 3], KO.row 5 1 (ints IntKind.u8 l_1)])) ∧
 (decide (0 > most) = false → NonN 0 ∧ True ∧ 0 ≤ l_1.length - lo ∧ l_1.length - lo ≤ l_1.length - lo ∧ K (V.int IntKind.i64 0) [KO.cells [V.sl 1 (lo + 0) (lo + (l_1.length - lo)), V.int IntKind.i64 3], KO.row 5 1 (ints IntKind.u8 l_1)]))))
 ) : runSpec Try.prog XNu (noT 31) 31 [.ptr 0 0, .int .i64 most] [.cells [.sl 1 lo l.length, .int .i64 e], .row 5 1 (ints .u8 l)] K := Eq.mp (by kernel_rfl) hvc_
theorem vcText (l : List Int) (lo : Nat) (e most : Int) (K : V → KB → Prop) (hvc_ :
 ∃ (l_1 : List Int),
 ints IntKind.u8 l = ints IntKind.u8 l_1 ∧
 l.length = l_1.length ∧
 lo ≤ l_1.length ∧
 (∀ (c : Int), List.Mem c l_1 → 0 ≤ c ∧ c < 256) ∧
 l_1.length ≤ 10000000 ∧
 (((rNum (List.drop lo l_1) e most).snd.snd != 0) = true → K (V.sl 2 0 0) [KO.cells [V.sl 1 (lo + (rNum (List.drop lo l_1) e most).snd.fst) l_1.length, V.int IntKind.i64 (rNum (List.drop lo l_1) e most).snd.snd], KO.row 5 1 (ints IntKind.u8 l_1), KO.row 5 1 []]) ∧
 (((rNum (List.drop lo l_1) e most).snd.snd != 0) = false →
 (decide ((rNum (List.drop lo l_1) e most).fst > (↑(l_1.length - (lo + (rNum (List.drop lo l_1) e most).snd.fst)) : Int)) = true →
 (((rNum (List.drop lo l_1) e most).snd.snd == 0) = true → K (V.sl 2 0 0) [KO.cells [V.sl 1 (lo + (rNum (List.drop lo l_1) e most).snd.fst) l_1.length, V.int IntKind.i64 2], KO.row 5 1 (ints IntKind.u8 l_1), KO.row 5 1 []]) ∧
 (((rNum (List.drop lo l_1) e most).snd.snd == 0) = false → K (V.sl 2 0 0) [KO.cells [V.sl 1 (lo + (rNum (List.drop lo l_1) e most).snd.fst) l_1.length, V.int IntKind.i64 (rNum (List.drop lo l_1) e most).snd.snd], KO.row 5 1 (ints IntKind.u8 l_1), KO.row 5 1 []])) ∧
 (decide ((rNum (List.drop lo l_1) e most).fst > (↑(l_1.length - (lo + (rNum (List.drop lo l_1) e most).snd.fst)) : Int)) = false →
 True ∧
 NonN (rNum (List.drop lo l_1) e most).fst ∧
 0 ≤ (rNum (List.drop lo l_1) e most).fst.toNat ∧
 (rNum (List.drop lo l_1) e most).fst.toNat ≤ l_1.length - (lo + (rNum (List.drop lo l_1) e most).snd.fst) ∧
 (lo + (rNum (List.drop lo l_1) e most).snd.fst + (rNum (List.drop lo l_1) e most).fst.toNat ≤ (ints IntKind.u8 l_1).length ∧ True) ∧
 (List.drop (lo + (rNum (List.drop lo l_1) e most).snd.fst + 0) (List.take (lo + (rNum (List.drop lo l_1) e most).snd.fst + (rNum (List.drop lo l_1) e most).fst.toNat) (ints IntKind.u8 l_1))).length ≤ 1000000 ∧
 PlainS (List.drop (lo + (rNum (List.drop lo l_1) e most).snd.fst + 0) (List.take (lo + (rNum (List.drop lo l_1) e most).snd.fst + (rNum (List.drop lo l_1) e most).fst.toNat) (ints IntKind.u8 l_1))).flatten ∧
 NonN (rNum (List.drop lo l_1) e most).fst ∧
 True ∧
 (rNum (List.drop lo l_1) e most).fst.toNat ≤ l_1.length - (lo + (rNum (List.drop lo l_1) e most).snd.fst) ∧
 l_1.length - (lo + (rNum (List.drop lo l_1) e most).snd.fst) ≤ l_1.length - (lo + (rNum (List.drop lo l_1) e most).snd.fst) ∧
 K (V.sl 2 0 (List.drop (lo + (rNum (List.drop lo l_1) e most).snd.fst + 0) (List.take (lo + (rNum (List.drop lo l_1) e most).snd.fst + (rNum (List.drop lo l_1) e most).fst.toNat) (ints IntKind.u8 l_1))).length)
 [KO.cells [V.sl 1 (lo + (rNum (List.drop lo l_1) e most).snd.fst + (rNum (List.drop lo l_1) e most).fst.toNat) (lo + (rNum (List.drop lo l_1) e most).snd.fst + (l_1.length - (lo + (rNum (List.drop lo l_1) e most).snd.fst))), V.int IntKind.i64 (rNum (List.drop lo l_1) e most).snd.snd], KO.row 5 1 (ints IntKind.u8 l_1),
 KO.row 5 1 (List.drop (lo + (rNum (List.drop lo l_1) e most).snd.fst + 0) (List.take (lo + (rNum (List.drop lo l_1) e most).snd.fst + (rNum (List.drop lo l_1) e most).fst.toNat) (ints IntKind.u8 l_1)))]))
 ) : runSpec Try.prog XRd (noT 32) 32 [.ptr 0 0, .int .i64 most] [.cells [.sl 1 lo l.length, .int .i64 e], .row 5 1 (ints .u8 l)] (nilRes [.slot 0 5 1] K) := Eq.mp (by kernel_rfl) hvc_
theorem vcWText (a : List Int) (B : List (List D)) (K : V → KB → Prop) (hvc_ :
 ∃ (a_1 : List Int),
 ints IntKind.u8 a = ints IntKind.u8 a_1 ∧
 a.length = a_1.length ∧
 a_1.length ≤ 10000000 ∧
 LeM (↑B.length : Int) ∧
 True ∧
 (a_1 ++ numW (↑B.length : Int)).length ≤ (ints IntKind.u8 (a_1 ++ numW (↑B.length : Int))).length ∧
 ((a_1 ++ numW (↑B.length : Int)).length + B.length) * 1 ≤ 140737488355328 ∧ K (V.tup []) [KO.cells [V.sl 2 0 ((a_1 ++ numW (↑B.length : Int)).length + B.length)], KO.dead, KO.row 5 1 (List.take (a_1 ++ numW (↑B.length : Int)).length (ints IntKind.u8 (a_1 ++ numW (↑B.length : Int))) ++ B)]
 ) : runSpec Try.prog XRd (noT 21) 21 [.ptr 0 0, .dat (.sl 1 B)] [.cells [.sl 1 0 a.length], .row 5 1 (ints .u8 a)] (tidyRes 2 K) := Eq.mp (by kernel_rfl) hvc_
theorem vcBytes (A : List (List D)) (n : Nat) (K : V → KB → Prop) (hvc_ :
 (n ≤ A.length ∧ True) ∧ (List.drop 0 (List.take n A)).length ≤ 1000000 ∧ PlainS (List.drop 0 (List.take n A)).flatten ∧ K (V.sl 2 0 (List.drop 0 (List.take n A)).length) [KO.cells [V.sl 1 0 n], KO.row 5 1 A, KO.row 5 1 (List.drop 0 (List.take n A))]
 ) : runSpec Try.prog XRd (noT 23) 23 [.ptr 0 0] [.cells [.sl 1 0 n], .row 5 1 A] K := Eq.mp (by kernel_rfl) hvc_
theorem vcRead (A : List (List D)) (K : V → KB → Prop) (hvc_ :
 A.length ≤ 1000000 ∧ K (V.ptr 0 0) [KO.cells [V.sl 1 0 A.length, V.int IntKind.i64 0], KO.row 5 1 A]
 ) : runSpec Try.prog XRd (noT 30) 30 [.dat (.sl 1 A)] [] (tidyRes 0 K) := Eq.mp (by kernel_rfl) hvc_
theorem vcEnd (l : List Int) (lo : Nat) (e : Int) (K : V → KB → Prop) (hvc_ :
 (decide ((↑(l.length - lo) : Int) > 0) = true → ((e == 0) = true → K (V.int IntKind.i64 3) [KO.cells [V.sl 1 lo l.length, V.int IntKind.i64 3], KO.row 5 1 (ints IntKind.u8 l)]) ∧ ((e == 0) = false → K (V.int IntKind.i64 e) [KO.cells [V.sl 1 lo l.length, V.int IntKind.i64 e], KO.row 5 1 (ints IntKind.u8 l)])) ∧
 (decide ((↑(l.length - lo) : Int) > 0) = false → K (V.int IntKind.i64 e) [KO.cells [V.sl 1 lo l.length, V.int IntKind.i64 e], KO.row 5 1 (ints IntKind.u8 l)])
 ) : runSpec Try.prog XRd (noT 33) 33 [.ptr 0 0] [.cells [.sl 1 lo l.length, .int .i64 e], .row 5 1 (ints .u8 l)] K := Eq.mp (by kernel_rfl) hvc_
theorem vcRefText (b : List (List D)) (K : V → KB → Prop) (hvc_ :
 LeM (↑b.length : Int) ∧ True ∧ (numW (↑b.length : Int)).length ≤ (ints IntKind.u8 (numW (↑b.length : Int))).length ∧ ((numW (↑b.length : Int)).length + b.length) * 1 ≤ 140737488355328 ∧ K (V.sl 0 0 ((numW (↑b.length : Int)).length + b.length)) [KO.row 5 1 (List.take (numW (↑b.length : Int)).length (ints IntKind.u8 (numW (↑b.length : Int))) ++ b)]
 ) : runSpec Try.prog XRd (noT 35) 35 [.dat (.sl 1 b)] [] (tidyRes 0 K) := Eq.mp (by kernel_rfl) hvc_
theorem vcTake (l : List Int) (most : Int) (n : Nat) (K : V → KB → Prop) (hvc_ :
 At (ta1LI l most) ([V.dat (D.sl 1 (ints IntKind.u8 l)), V.int IntKind.i64 most, V.ptr 0 0, V.int IntKind.i64 0], [KO.cells [V.int IntKind.i64 0, V.any (Value.slice none 0 0), V.int IntKind.i64 0, V.any (Value.slice none 0 0)]]) ∧
 ∀ (i : { i : Nat // leInv (lead l) i }),
 (decide ((↑i.val : Int) < (↑(ints IntKind.u8 l).length : Int)) = true →
 NonN (↑i.val : Int) ∧
 ∃ (e : List D),
 (ints IntKind.u8 l)[(↑i.val : Int).toNat]? = some e ∧
 ∃ (n_1 : Int),
 e[0]? = some (D.val (Value.int IntKind.u8 n_1)) ∧
 (decide (n_1 > 127) = true → Nx (ta1LI l most) i ([V.dat (D.sl 1 (ints IntKind.u8 l)), V.int IntKind.i64 most, V.ptr 0 0, V.int IntKind.i64 (IntKind.i64.wrap ((↑i.val : Int) + 1))], [KO.cells [V.int IntKind.i64 0, V.any (Value.slice none 0 0), V.int IntKind.i64 0, V.any (Value.slice none 0 0)]])) ∧
 (decide (n_1 > 127) = false →
 (decide ((↑i.val : Int) ≥ 9) = true → K (V.agg [V.int IntKind.i64 0, V.dat (D.sl 1 []), V.int IntKind.i64 3, V.dat (D.sl 1 (ints IntKind.u8 l))]) []) ∧
 (decide ((↑i.val : Int) ≥ 9) = false →
 (((↑i.val : Int) == (↑(ints IntKind.u8 l).length : Int)) = true → K (V.agg [V.int IntKind.i64 0, V.dat (D.sl 1 []), V.int IntKind.i64 2, V.dat (D.sl 1 (ints IntKind.u8 l))]) []) ∧
 (((↑i.val : Int) == (↑(ints IntKind.u8 l).length : Int)) = false →
 (decide ((↑i.val : Int) > 0) = true →
 NonN (↑i.val : Int) ∧
 ∃ (e : List D),
 (ints IntKind.u8 l)[(↑i.val : Int).toNat]? = some e ∧
 ∃ (n_2 : Int),
 e[0]? = some (D.val (Value.int IntKind.u8 n_2)) ∧
 ((n_2 == 0) = true → K (V.agg [V.int IntKind.i64 0, V.dat (D.sl 1 []), V.int IntKind.i64 3, V.dat (D.sl 1 (ints IntKind.u8 l))]) []) ∧
 ((n_2 == 0) = false →
 At (ta2LI l most n) ([V.dat (D.sl 1 (ints IntKind.u8 l)), V.int IntKind.i64 most, V.ptr 0 0, V.int IntKind.i64 (↑i.val : Int), V.int IntKind.i64 0, V.int IntKind.i64 (↑i.val : Int)], [KO.cells [V.int IntKind.i64 0, V.any (Value.slice none 0 0), V.int IntKind.i64 0, V.any (Value.slice none 0 0)]]) ∧
 ∀ (i : { j : Nat // leInv (n + 1) j }),
 (decide ((↑i.val : Int) - 1 ≥ 0) = true →
 NonN ((↑i.val : Int) - 1) ∧
 ∃ (e : List D),
 (ints IntKind.u8 l)[((↑i.val : Int) - 1).toNat]? = some e ∧
 ∃ (n_3 : Int),
 e[0]? = some (D.val (Value.int IntKind.u8 n_3)) ∧
 Nx (ta2LI l most n) i
 ([V.dat (D.sl 1 (ints IntKind.u8 l)), V.int IntKind.i64 most, V.ptr 0 0, V.int IntKind.i64 (↑n : Int), V.int IntKind.i64 (IntKind.i64.wrap (IntKind.i64.wrap ((↑(valL (n + 1 - i.val) (List.drop i.val l)) : Int) * 128) + (IntKind.i64.wrap n_3).tmod 128)), V.int IntKind.i64 (IntKind.i64.wrap ((↑i.val : Int) - 1 - 1))],
 [KO.cells [V.int IntKind.i64 0, V.any (Value.slice none 0 0), V.int IntKind.i64 0, V.any (Value.slice none 0 0)]])) ∧
 (decide ((↑i.val : Int) - 1 ≥ 0) = false →
 (decide ((↑(valL (n + 1 - i.val) (List.drop i.val l)) : Int) > most) = true → K (V.agg [V.int IntKind.i64 0, V.dat (D.sl 1 []), V.int IntKind.i64 5, V.dat (D.sl 1 (ints IntKind.u8 l))]) []) ∧
 (decide ((↑(valL (n + 1 - i.val) (List.drop i.val l)) : Int) > most) = false →
 NonN (IntKind.i64.wrap ((↑n : Int) + 1)) ∧
 True ∧
 (IntKind.i64.wrap ((↑n : Int) + 1)).toNat ≤ (ints IntKind.u8 l).length ∧
 (ints IntKind.u8 l).length ≤ (ints IntKind.u8 l).length ∧ K (V.agg [V.int IntKind.i64 (↑(valL (n + 1 - i.val) (List.drop i.val l)) : Int), V.dat (D.sl 1 []), V.int IntKind.i64 0, V.dat (D.sl 1 (List.drop (IntKind.i64.wrap ((↑n : Int) + 1)).toNat (List.take (ints IntKind.u8 l).length (ints IntKind.u8 l))))]) [])))) ∧
 (decide ((↑i.val : Int) > 0) = false →
 At (ta2LI l most n) ([V.dat (D.sl 1 (ints IntKind.u8 l)), V.int IntKind.i64 most, V.ptr 0 0, V.int IntKind.i64 (↑i.val : Int), V.int IntKind.i64 0, V.int IntKind.i64 (↑i.val : Int)], [KO.cells [V.int IntKind.i64 0, V.any (Value.slice none 0 0), V.int IntKind.i64 0, V.any (Value.slice none 0 0)]]) ∧
 ∀ (i : { j : Nat // leInv (n + 1) j }),
 (decide ((↑i.val : Int) - 1 ≥ 0) = true →
 NonN ((↑i.val : Int) - 1) ∧
 ∃ (e : List D),
 (ints IntKind.u8 l)[((↑i.val : Int) - 1).toNat]? = some e ∧
 ∃ (n_2 : Int),
 e[0]? = some (D.val (Value.int IntKind.u8 n_2)) ∧
 Nx (ta2LI l most n) i
 ([V.dat (D.sl 1 (ints IntKind.u8 l)), V.int IntKind.i64 most, V.ptr 0 0, V.int IntKind.i64 (↑n : Int), V.int IntKind.i64 (IntKind.i64.wrap (IntKind.i64.wrap ((↑(valL (n + 1 - i.val) (List.drop i.val l)) : Int) * 128) + (IntKind.i64.wrap n_2).tmod 128)), V.int IntKind.i64 (IntKind.i64.wrap ((↑i.val : Int) - 1 - 1))],
 [KO.cells [V.int IntKind.i64 0, V.any (Value.slice none 0 0), V.int IntKind.i64 0, V.any (Value.slice none 0 0)]])) ∧
 (decide ((↑i.val : Int) - 1 ≥ 0) = false →
 (decide ((↑(valL (n + 1 - i.val) (List.drop i.val l)) : Int) > most) = true → K (V.agg [V.int IntKind.i64 0, V.dat (D.sl 1 []), V.int IntKind.i64 5, V.dat (D.sl 1 (ints IntKind.u8 l))]) []) ∧
 (decide ((↑(valL (n + 1 - i.val) (List.drop i.val l)) : Int) > most) = false →
 NonN (IntKind.i64.wrap ((↑n : Int) + 1)) ∧
 True ∧
 (IntKind.i64.wrap ((↑n : Int) + 1)).toNat ≤ (ints IntKind.u8 l).length ∧
 (ints IntKind.u8 l).length ≤ (ints IntKind.u8 l).length ∧ K (V.agg [V.int IntKind.i64 (↑(valL (n + 1 - i.val) (List.drop i.val l)) : Int), V.dat (D.sl 1 []), V.int IntKind.i64 0, V.dat (D.sl 1 (List.drop (IntKind.i64.wrap ((↑n : Int) + 1)).toNat (List.take (ints IntKind.u8 l).length (ints IntKind.u8 l))))]) []))))))) ∧
 (decide ((↑i.val : Int) < (↑(ints IntKind.u8 l).length : Int)) = false →
 (decide ((↑i.val : Int) ≥ 9) = true → K (V.agg [V.int IntKind.i64 0, V.dat (D.sl 1 []), V.int IntKind.i64 3, V.dat (D.sl 1 (ints IntKind.u8 l))]) []) ∧
 (decide ((↑i.val : Int) ≥ 9) = false →
 (((↑i.val : Int) == (↑(ints IntKind.u8 l).length : Int)) = true → K (V.agg [V.int IntKind.i64 0, V.dat (D.sl 1 []), V.int IntKind.i64 2, V.dat (D.sl 1 (ints IntKind.u8 l))]) []) ∧
 (((↑i.val : Int) == (↑(ints IntKind.u8 l).length : Int)) = false →
 (decide ((↑i.val : Int) > 0) = true →
 NonN (↑i.val : Int) ∧
 ∃ (e : List D),
 (ints IntKind.u8 l)[(↑i.val : Int).toNat]? = some e ∧
 ∃ (n_1 : Int),
 e[0]? = some (D.val (Value.int IntKind.u8 n_1)) ∧
 ((n_1 == 0) = true → K (V.agg [V.int IntKind.i64 0, V.dat (D.sl 1 []), V.int IntKind.i64 3, V.dat (D.sl 1 (ints IntKind.u8 l))]) []) ∧
 ((n_1 == 0) = false →
 At (ta2LI l most n) ([V.dat (D.sl 1 (ints IntKind.u8 l)), V.int IntKind.i64 most, V.ptr 0 0, V.int IntKind.i64 (↑i.val : Int), V.int IntKind.i64 0, V.int IntKind.i64 (↑i.val : Int)], [KO.cells [V.int IntKind.i64 0, V.any (Value.slice none 0 0), V.int IntKind.i64 0, V.any (Value.slice none 0 0)]]) ∧
 ∀ (i : { j : Nat // leInv (n + 1) j }),
 (decide ((↑i.val : Int) - 1 ≥ 0) = true →
 NonN ((↑i.val : Int) - 1) ∧
 ∃ (e : List D),
 (ints IntKind.u8 l)[((↑i.val : Int) - 1).toNat]? = some e ∧
 ∃ (n_2 : Int),
 e[0]? = some (D.val (Value.int IntKind.u8 n_2)) ∧
 Nx (ta2LI l most n) i
 ([V.dat (D.sl 1 (ints IntKind.u8 l)), V.int IntKind.i64 most, V.ptr 0 0, V.int IntKind.i64 (↑n : Int), V.int IntKind.i64 (IntKind.i64.wrap (IntKind.i64.wrap ((↑(valL (n + 1 - i.val) (List.drop i.val l)) : Int) * 128) + (IntKind.i64.wrap n_2).tmod 128)), V.int IntKind.i64 (IntKind.i64.wrap ((↑i.val : Int) - 1 - 1))],
 [KO.cells [V.int IntKind.i64 0, V.any (Value.slice none 0 0), V.int IntKind.i64 0, V.any (Value.slice none 0 0)]])) ∧
 (decide ((↑i.val : Int) - 1 ≥ 0) = false →
 (decide ((↑(valL (n + 1 - i.val) (List.drop i.val l)) : Int) > most) = true → K (V.agg [V.int IntKind.i64 0, V.dat (D.sl 1 []), V.int IntKind.i64 5, V.dat (D.sl 1 (ints IntKind.u8 l))]) []) ∧
 (decide ((↑(valL (n + 1 - i.val) (List.drop i.val l)) : Int) > most) = false →
 NonN (IntKind.i64.wrap ((↑n : Int) + 1)) ∧
 True ∧
 (IntKind.i64.wrap ((↑n : Int) + 1)).toNat ≤ (ints IntKind.u8 l).length ∧
 (ints IntKind.u8 l).length ≤ (ints IntKind.u8 l).length ∧ K (V.agg [V.int IntKind.i64 (↑(valL (n + 1 - i.val) (List.drop i.val l)) : Int), V.dat (D.sl 1 []), V.int IntKind.i64 0, V.dat (D.sl 1 (List.drop (IntKind.i64.wrap ((↑n : Int) + 1)).toNat (List.take (ints IntKind.u8 l).length (ints IntKind.u8 l))))]) [])))) ∧
 (decide ((↑i.val : Int) > 0) = false →
 At (ta2LI l most n) ([V.dat (D.sl 1 (ints IntKind.u8 l)), V.int IntKind.i64 most, V.ptr 0 0, V.int IntKind.i64 (↑i.val : Int), V.int IntKind.i64 0, V.int IntKind.i64 (↑i.val : Int)], [KO.cells [V.int IntKind.i64 0, V.any (Value.slice none 0 0), V.int IntKind.i64 0, V.any (Value.slice none 0 0)]]) ∧
 ∀ (i : { j : Nat // leInv (n + 1) j }),
 (decide ((↑i.val : Int) - 1 ≥ 0) = true →
 NonN ((↑i.val : Int) - 1) ∧
 ∃ (e : List D),
 (ints IntKind.u8 l)[((↑i.val : Int) - 1).toNat]? = some e ∧
 ∃ (n_1 : Int),
 e[0]? = some (D.val (Value.int IntKind.u8 n_1)) ∧
 Nx (ta2LI l most n) i
 ([V.dat (D.sl 1 (ints IntKind.u8 l)), V.int IntKind.i64 most, V.ptr 0 0, V.int IntKind.i64 (↑n : Int), V.int IntKind.i64 (IntKind.i64.wrap (IntKind.i64.wrap ((↑(valL (n + 1 - i.val) (List.drop i.val l)) : Int) * 128) + (IntKind.i64.wrap n_1).tmod 128)), V.int IntKind.i64 (IntKind.i64.wrap ((↑i.val : Int) - 1 - 1))],
 [KO.cells [V.int IntKind.i64 0, V.any (Value.slice none 0 0), V.int IntKind.i64 0, V.any (Value.slice none 0 0)]])) ∧
 (decide ((↑i.val : Int) - 1 ≥ 0) = false →
 (decide ((↑(valL (n + 1 - i.val) (List.drop i.val l)) : Int) > most) = true → K (V.agg [V.int IntKind.i64 0, V.dat (D.sl 1 []), V.int IntKind.i64 5, V.dat (D.sl 1 (ints IntKind.u8 l))]) []) ∧
 (decide ((↑(valL (n + 1 - i.val) (List.drop i.val l)) : Int) > most) = false →
 NonN (IntKind.i64.wrap ((↑n : Int) + 1)) ∧
 True ∧
 (IntKind.i64.wrap ((↑n : Int) + 1)).toNat ≤ (ints IntKind.u8 l).length ∧
 (ints IntKind.u8 l).length ≤ (ints IntKind.u8 l).length ∧ K (V.agg [V.int IntKind.i64 (↑(valL (n + 1 - i.val) (List.drop i.val l)) : Int), V.dat (D.sl 1 []), V.int IntKind.i64 0, V.dat (D.sl 1 (List.drop (IntKind.i64.wrap ((↑n : Int) + 1)).toNat (List.take (ints IntKind.u8 l).length (ints IntKind.u8 l))))]) []))))))
 ) : runSpec Try.prog XRd (rdT l most n 39) 39 [.dat (.sl 1 (ints .u8 l)), .int .i64 most] [] (nilRes [.fldD 0 1 1] K) := Eq.mp (by kernel_rfl) hvc_
theorem baS_ok : AllOk Try.prog baS := fun f k h => by
  unfold baS at h
  split at h <;> first | (cases h; first | exact okSame | exact cloneN_of okClone | exact okPick) | cases h
theorem nuS_ok : AllOk Try.prog nuS := fun f k h => by
  unfold nuS at h
  split at h
  · cases h; exact okNumber
  · exact baS_ok _ _ h
theorem XNu_ok : CallOk Try.prog XNu := callS_ok mixed nuS_ok noT 10
theorem byt_drop {l : List Int} (h : Byt l) (n : Nat) : Byt (l.drop n) := fun c hc => h c (List.mem_of_mem_drop hc)
theorem byt_take {l : List Int} (h : Byt l) (n : Nat) : Byt (l.take n) := fun c hc => h c (List.mem_of_mem_take hc)
theorem okNum : SpecOk Try.prog 31 SrNum := specOk_of' XNu_ok mixed (fun args kb K h => by
  unfold SrNum at h; split at h <;> try exact h.elim
  rename_i most lo _ e _
  obtain ⟨l, rfl, rfl, hlo, hb, hl, h⟩ := h
  refine ⟨noT 31, vcNum l lo e most K ⟨fun hc => ?_, fun hc => ?_⟩⟩
  · simp only [bne_iff_ne, ne_eq] at hc
    unfold rNum at h
    rw [if_neg hc] at h
    exact h
  · simp only [bne_eq_false_iff_eq] at hc
    subst hc
    refine ⟨l, rfl, rfl, hlo, hb, hl, rfl, fun v n hn => ⟨fun h0 => ?_, fun h0 => ⟨fun hv => ⟨fun _ => ?_, fun h => by simp at h⟩, fun hv => ⟨by unfold NonN; omega, trivial, ?_, Nat.le_refl _, ?_⟩⟩⟩, fun hn => ⟨fun _ => ?_, fun h => by simp at h⟩, fun hn => ⟨fun _ => ?_, fun h => by simp at h⟩⟩
    · obtain ⟨_, h2, _⟩ := numR_got (byt_drop hb lo) hn
      have := numW_len (v : Int)
      simp only [beq_iff_eq] at h0
      omega
    · simp only [decide_eq_true_eq] at hv
      unfold rNum at h
      rw [if_pos rfl, hn] at h
      simp only [if_pos (show most < (v : Int) from hv)] at h
      exact h
    · obtain ⟨_, h2, r, h3⟩ := numR_got (byt_drop hb lo) hn
      have := congrArg List.length h3
      rw [List.length_drop, List.length_append] at this
      omega
    · simp only [decide_eq_false_iff_not] at hv
      unfold rNum at h
      rw [if_pos rfl, hn] at h
      simp only [if_neg (show ¬ most < (v : Int) from hv)] at h
      rw [show lo + (l.length - lo) = l.length by omega]
      exact h
    · unfold rNum at h
      rw [if_pos rfl, hn] at h
      exact h
    · unfold rNum at h
      rw [if_pos rfl, hn] at h
      exact h)
theorem rdS_ok : AllOk Try.prog rdS := fun f k h => by
  unfold rdS at h
  split at h
  · cases h; exact okNum
  · cases h; exact nilIn_ok okWNum _
  · cases h; exact okRefNum
  · exact nuS_ok _ _ h
theorem XRd_ok : CallOk Try.prog XRd := callS_ok mixed rdS_ok noT 10
def SrText : FSpec := fun args kb K => match args, kb with
  | [.ptr 0 0, .int .i64 most], [.cells [.sl 1 lo h, .int .i64 e], .row 5 1 A] => ∃ l : List Int, A = ints .u8 l ∧ h = l.length ∧ lo ≤ l.length ∧ Byt l ∧ l.length ≤ 900000 ∧
    K (.sl 2 0 (rText (l.drop lo) e most).1.length) [.cells [.sl 1 (lo + (rText (l.drop lo) e most).2.1) l.length, .int .i64 (rText (l.drop lo) e most).2.2], .row 5 1 (ints .u8 l), .row 5 1 (ints .u8 (rText (l.drop lo) e most).1)]
  | _, _ => False
theorem okText : SpecOk Try.prog 32 SrText := specOk_nil XRd_ok mixed [.slot 0 5 1] (fun args kb K h => by
  unfold SrText at h; split at h <;> try exact h.elim
  rename_i most lo _ e _
  obtain ⟨l, rfl, rfl, hlo, hb, hl, h⟩ := h
  refine ⟨noT 32, vcText l lo e most K ⟨l, rfl, rfl, hlo, hb, by omega, ?_⟩⟩
  have hv := rNum_val (byt_drop hb lo) e most
  rw [List.length_drop] at hv
  unfold rText at h
  generalize hr : rNum (l.drop lo) e most = r at h hv ⊢
  obtain ⟨n, u, e'⟩ := r
  simp only at h hv ⊢
  refine ⟨fun hc => ?_, fun hc => ⟨fun hx => ⟨fun hy => ?_, fun hy => ?_⟩, fun hx => ?_⟩⟩
  · simp only [bne_iff_ne, ne_eq] at hc
    rw [if_neg hc] at h
    exact h
  · simp only [decide_eq_true_eq] at hx
    simp only [bne_eq_false_iff_eq] at hc
    subst hc
    rw [if_pos rfl, if_pos (by rw [List.length_drop, List.length_drop]; omega)] at h
    exact h
  · rw [bne, hy] at hc
    cases hc
  · simp only [decide_eq_false_iff_not] at hx
    simp only [bne_eq_false_iff_eq] at hc
    subst hc
    rw [if_pos rfl, if_neg (by rw [List.length_drop, List.length_drop]; omega)] at h
    have hnn : NonN n := hv.1
    have e1 : List.drop (lo + u + 0) (List.take (lo + u + n.toNat) (ints .u8 l)) = ints .u8 (List.take n.toNat (List.drop u (List.drop lo l))) := by
      rw [Nat.add_zero, List.drop_take, ints_drop, ints_take, List.drop_drop, Nat.add_sub_cancel_left]
    rw [e1]
    simp only [List.drop_drop, ints_len] at h ⊢
    have e3 : lo + u + (l.length - (lo + u)) = l.length := by omega
    rw [e3]
    refine ⟨trivial, hnn, Nat.zero_le _, by omega, ⟨by omega, trivial⟩, by rw [List.length_take, List.length_drop]; omega, ⟨plain_ints⟩, hnn, trivial, by omega, Nat.le_refl _, ?_⟩
    rw [show lo + u + n.toNat = lo + (u + n.toNat) by omega]
    exact h)
def SwText : FSpec := fun args kb K => match args, kb with
  | [.ptr 0 0, .dat (.sl 1 B)], [.cells [.sl 1 0 h], .row 5 1 A] => ∃ a b : List Int, A = ints .u8 a ∧ B = ints .u8 b ∧ h = a.length ∧ a.length ≤ 1000000 ∧ b.length ≤ 1000000 ∧
    K (.tup []) [.cells [.sl 2 0 (a ++ textW b).length], .dead, .row 5 1 (ints .u8 (a ++ textW b))]
  | _, _ => False
theorem okWText : SpecOk Try.prog 21 SwText := specOk_tidy XRd_ok mixed (fun args kb K h => by
  unfold SwText at h; split at h <;> try exact h.elim
  obtain ⟨a, b, rfl, rfl, rfl, h1, h2, h⟩ := h
  refine ⟨noT 21, vcWText a _ K ⟨a, rfl, rfl, by omega, ⟨by rw [ints_len]; omega⟩, trivial, by simp only [ints_len]; exact Nat.le_refl _, ?_, ?_⟩⟩
  · have := (numW_len ((ints IntKind.u8 b).length : Int)).2
    rw [List.length_append, ints_len]
    rw [ints_len] at this
    omega
  · rw [ints_len, ints_take, List.take_length, ← ints_app, ← List.length_append, List.append_assoc]
    exact h)
def SwBytes : FSpec := fun args kb K => match args, kb with
  | [.ptr 0 0], [.cells [.sl 1 0 h], .row 5 1 A] => ∃ a : List Int, A = ints .u8 a ∧ h = a.length ∧ a.length ≤ 1000000 ∧ K (.sl 2 0 a.length) [.cells [.sl 1 0 a.length], .row 5 1 (ints .u8 a), .row 5 1 (ints .u8 a)]
  | _, _ => False
theorem dropTake {k : IntKind} {a : List Int} : List.drop 0 (List.take a.length (ints k a)) = ints k a := by rw [List.drop_zero, ints_take, List.take_length]
theorem okBytesW : SpecOk Try.prog 23 SwBytes := specOk_of' XRd_ok mixed (fun args kb K h => by
  unfold SwBytes at h; split at h <;> try exact h.elim
  obtain ⟨a, rfl, rfl, h1, h⟩ := h
  refine ⟨noT 23, vcBytes _ _ K ?_⟩
  rw [dropTake, ints_len]
  exact ⟨⟨Nat.le_refl _, trivial⟩, h1, ⟨plain_ints⟩, h⟩)
def SpRead : FSpec := fun args kb K => match args, kb with
  | [.dat (.sl 1 A)], [] => A.length ≤ 1000000 ∧ K (.ptr 0 0) [.cells [.sl 1 0 A.length, .int .i64 0], .row 5 1 A]
  | _, _ => False
theorem okPRead : SpecOk Try.prog 30 SpRead := specOk_tidy XRd_ok mixed (fun args kb K h => by
  unfold SpRead at h; split at h <;> try exact h.elim
  exact ⟨noT 30, vcRead _ K h⟩)
def SrEnd : FSpec := fun args kb K => match args, kb with
  | [.ptr 0 0], [.cells [.sl 1 lo h, .int .i64 e], .row 5 1 A] => ∃ l : List Int, A = ints .u8 l ∧ h = l.length ∧
    K (.int .i64 (rEnd (l.drop lo) e)) [.cells [.sl 1 lo l.length, .int .i64 (rEnd (l.drop lo) e)], .row 5 1 (ints .u8 l)]
  | _, _ => False
theorem okEnd : SpecOk Try.prog 33 SrEnd := specOk_of' XRd_ok mixed (fun args kb K h => by
  unfold SrEnd at h; split at h <;> try exact h.elim
  rename_i lo _ e _
  obtain ⟨l, rfl, rfl, h⟩ := h
  have hd : l.drop lo = [] ↔ l.length - lo = 0 := by rw [← List.length_eq_zero_iff, List.length_drop]
  refine ⟨noT 33, vcEnd l lo e K ⟨fun hc => ⟨fun h0 => ?_, fun h0 => ?_⟩, fun hc => ?_⟩⟩
  · simp only [decide_eq_true_eq] at hc
    simp only [beq_iff_eq] at h0
    unfold rEnd at h
    rw [if_pos ⟨fun hh => by rw [hd] at hh; omega, h0⟩] at h
    exact h
  · simp only [beq_eq_false_iff_ne, ne_eq] at h0
    unfold rEnd at h
    rw [if_neg (fun hh => h0 hh.2)] at h
    exact h
  · simp only [decide_eq_false_iff_not] at hc
    unfold rEnd at h
    rw [if_neg (fun hh => hh.1 (hd.2 (by omega)))] at h
    exact h)
def SrefText : FSpec := fun args kb K => match args, kb with
  | [.dat (.sl 1 B)], [] => ∃ b : List Int, B = ints .u8 b ∧ b.length ≤ 1000000 ∧ K (.sl 0 0 (textW b).length) [.row 5 1 (ints .u8 (textW b))]
  | _, _ => False
theorem okRefText : SpecOk Try.prog 35 SrefText := specOk_tidy XRd_ok mixed (fun args kb K h => by
  unfold SrefText at h; split at h <;> try exact h.elim
  obtain ⟨b, rfl, hl, h⟩ := h
  refine ⟨noT 35, vcRefText _ K ?_⟩
  rw [ints_len, ints_len, ints_take, List.take_length, ← ints_app, ← List.length_append]
  have := (numW_len (b.length : Int)).2
  exact ⟨⟨by omega⟩, trivial, Nat.le_refl _, by rw [List.length_append]; omega, h⟩)
def STake : FSpec := fun args kb K => match args, kb with
  | [.dat (.sl 1 A), .int .i64 most], [] => ∃ l : List Int, A = ints .u8 l ∧ Byt l ∧ l.length ≤ 10000000 ∧
    K (.agg [.int .i64 (rNum l 0 most).1, .dat (.sl 1 []), .int .i64 (rNum l 0 most).2.2, .dat (.sl 1 (ints .u8 (l.drop (rNum l 0 most).2.1)))]) []
  | _, _ => False
theorem takeTail (l : List Int) (most : Int) (hb : Byt l) (hl : l.length ≤ 10000000) (K : V → KB → Prop) (h9 : lead l < 9) (hlt : lead l < l.length) (hz : ¬ (0 < lead l ∧ l.getD (lead l) 0 = 0))
    (h : K (.agg [.int .i64 (rNum l 0 most).1, .dat (.sl 1 []), .int .i64 (rNum l 0 most).2.2, .dat (.sl 1 (ints .u8 (l.drop (rNum l 0 most).2.1)))]) []) :
 At (ta2LI l most (lead l)) ([V.dat (D.sl 1 (ints IntKind.u8 l)), V.int IntKind.i64 most, V.ptr 0 0, V.int IntKind.i64 (lead l : Int), V.int IntKind.i64 0, V.int IntKind.i64 (lead l : Int)], [KO.cells [V.int IntKind.i64 0, V.any (Value.slice none 0 0), V.int IntKind.i64 0, V.any (Value.slice none 0 0)]]) ∧
 ∀ (i : { j // leInv (lead l + 1) j }),
 (decide ((i.val : Int) - 1 ≥ 0) = true →
 NonN ((i.val : Int) - 1) ∧
 ∃ e,
 (ints IntKind.u8 l)[((i.val : Int) - 1).toNat]? = some e ∧
 ∃ n_3,
 e[0]? = some (D.val (Value.int IntKind.u8 n_3)) ∧
 Nx (ta2LI l most (lead l)) i
 ([V.dat (D.sl 1 (ints IntKind.u8 l)), V.int IntKind.i64 most, V.ptr 0 0, V.int IntKind.i64 (lead l : Int), V.int IntKind.i64 (IntKind.i64.wrap (IntKind.i64.wrap (((valL (lead l + 1 - i.val) (List.drop i.val l) : Nat) : Int) * 128) + (IntKind.i64.wrap n_3).tmod 128)), V.int IntKind.i64 (IntKind.i64.wrap ((i.val : Int) - 1 - 1))],
 [KO.cells [V.int IntKind.i64 0, V.any (Value.slice none 0 0), V.int IntKind.i64 0, V.any (Value.slice none 0 0)]])) ∧
 (decide ((i.val : Int) - 1 ≥ 0) = false →
 (decide (((valL (lead l + 1 - i.val) (List.drop i.val l) : Nat) : Int) > most) = true → K (V.agg [V.int IntKind.i64 0, V.dat (D.sl 1 []), V.int IntKind.i64 5, V.dat (D.sl 1 (ints IntKind.u8 l))]) []) ∧
 (decide (((valL (lead l + 1 - i.val) (List.drop i.val l) : Nat) : Int) > most) = false →
 NonN (IntKind.i64.wrap ((lead l : Int) + 1)) ∧
 True ∧
 (IntKind.i64.wrap ((lead l : Int) + 1)).toNat ≤ (ints IntKind.u8 l).length ∧
 (ints IntKind.u8 l).length ≤ (ints IntKind.u8 l).length ∧ K (V.agg [V.int IntKind.i64 ((valL (lead l + 1 - i.val) (List.drop i.val l) : Nat) : Int), V.dat (D.sl 1 []), V.int IntKind.i64 0, V.dat (D.sl 1 (List.drop (IntKind.i64.wrap ((lead l : Int) + 1)).toNat (List.take (ints IntKind.u8 l).length (ints IntKind.u8 l))))]) [])) := by
  have hn : numR 0 0 l = .got (valL (lead l + 1) l) (lead l + 1) := by
    rw [numR_lead l 0 0 (by omega), if_neg (by omega), if_neg (by omega), if_neg (by rw [Nat.zero_add]; exact hz)]
    simp
  refine ⟨At.mk' ⟨lead l + 1, Nat.le_refl _⟩ ?_, ?_⟩
  · show _ = ([_, _, _, _, _, _], _)
    have e1 : ((valL (lead l + 1 - (lead l + 1)) (l.drop (lead l + 1)) : Nat) : Int) = 0 := by rw [Nat.sub_self]; rfl
    have e2 : (((lead l + 1 : Nat) : Int) - 1) = (lead l : Int) := by omega
    simp only [e1, e2]
  · rintro ⟨j, hj⟩
    unfold leInv at hj
    simp only
    refine ⟨fun hc => ?_, fun hc => ?_⟩
    · simp only [decide_eq_true_eq] at hc
      obtain ⟨j, rfl⟩ : ∃ k, j = k + 1 := ⟨j - 1, by omega⟩
      have hel : l[j]? = some l[j] := List.getElem?_eq_getElem (by omega)
      have hbd := hb l[j] (List.getElem_mem _)
      have hdr : l.drop j = l[j] :: l.drop (j + 1) := List.drop_eq_getElem_cons (by omega)
      generalize l[j] = c at hel hbd hdr
      have ei : (((j + 1 : Nat) : Int) - 1) = (j : Int) := by omega
      rw [ei]
      refine ⟨by unfold NonN; omega, [D.val (.int .u8 c)], by rw [Int.toNat_natCast, ints_get, hel]; rfl, c, rfl, ?_⟩
      have hv := valL_lt (lead l + 1 - (j + 1)) (l.drop (j + 1))
      have hp := pow_le8 (i := lead l + 1 - (j + 1)) (by omega)
      have ev : valL (lead l + 1 - j) (l.drop j) = c.toNat % 128 + 128 * valL (lead l + 1 - (j + 1)) (l.drop (j + 1)) := by
        rw [hdr, show lead l + 1 - j = (lead l + 1 - (j + 1)) + 1 by omega, valL.eq_3]
      generalize valL (lead l + 1 - (j + 1)) (l.drop (j + 1)) = v at hv ev ⊢
      have hvb : v < 72057594037927936 := Nat.lt_of_lt_of_le hv hp
      have e1 : IntKind.i64.wrap (IntKind.i64.wrap ((v : Int) * 128) + (IntKind.i64.wrap c).tmod 128) = ((c.toNat % 128 + 128 * v : Nat) : Int) := by
        rw [w64 (n := c) (by omega) (by omega), Int.tmod_eq_emod_of_nonneg (by omega), w64 (n := (v : Int) * 128) (by omega) (by omega), w64 (by omega) (by omega)]
        omega
      rw [e1, w64 (n := (j : Int) - 1) (by omega) (by omega), ← ev]
      exact Nx.mk' (⟨j, by unfold leInv; omega⟩ : {j // leInv (lead l + 1) j}) rfl (Nat.lt_succ_self j)
    · simp only [decide_eq_false_iff_not] at hc
      have : j = 0 := by omega
      subst this
      simp only [Nat.sub_zero, List.drop_zero]
      unfold rNum at h
      rw [if_pos rfl, hn] at h
      simp only at h
      refine ⟨fun hx => ?_, fun hx => ?_⟩
      · simp only [decide_eq_true_eq] at hx
        rw [if_pos hx] at h
        exact h
      · simp only [decide_eq_false_iff_not] at hx
        rw [if_neg hx] at h
        rw [w64 (n := (lead l : Int) + 1) (by omega) (by omega), show ((lead l : Int) + 1).toNat = lead l + 1 by omega, List.take_length, ints_drop, ints_len]
        exact ⟨by unfold NonN; omega, trivial, by omega, Nat.le_refl _, h⟩
theorem okTake : SpecOk Try.prog 39 STake := specOk_nil XRd_ok mixed [.fldD 0 1 1] (fun args kb K h => by
  unfold STake at h; split at h <;> try exact h.elim
  rename_i most
  obtain ⟨l, rfl, hb, hl, h⟩ := h
  refine ⟨rdT l most (lead l) 39, vcTake l most (lead l) K ⟨At.mk' ⟨0, Nat.zero_le _⟩ rfl, ?_⟩⟩
  rintro ⟨i, hi⟩
  unfold leInv at hi
  simp only [ints_len]
  have hle := lead_le l
  have hN := numR_lead l 0 0 (by omega)
  simp only [Nat.zero_add] at hN
  have k3 : (9 ≤ lead l ∨ (0 < lead l ∧ l.getD (lead l) 0 = 0 ∧ lead l < l.length)) → K (V.agg [V.int IntKind.i64 0, V.dat (D.sl 1 []), V.int IntKind.i64 3, V.dat (D.sl 1 (ints IntKind.u8 l))]) [] := fun hh => by
    have : numR 0 0 l = .form := by
      rw [hN]
      rcases hh with hh | ⟨h1, h2, h3⟩
      · rw [if_pos hh]
      · split
        · rfl
        · rw [if_neg (by omega), if_pos ⟨h1, h2⟩]
    unfold rNum at h
    rw [if_pos rfl, this] at h
    exact h
  have k2 : lead l < 9 → lead l = l.length → K (V.agg [V.int IntKind.i64 0, V.dat (D.sl 1 []), V.int IntKind.i64 2, V.dat (D.sl 1 (ints IntKind.u8 l))]) [] := fun h1 h2 => by
    have : numR 0 0 l = .short := by rw [hN, if_neg (by omega), if_pos h2]
    unfold rNum at h
    rw [if_pos rfl, this] at h
    exact h
  refine ⟨fun hc => ?_, fun hc => ?_⟩
  · simp only [decide_eq_true_eq] at hc
    have hel : l[i]? = some l[i] := List.getElem?_eq_getElem (by omega)
    generalize l[i] = c at hel
    refine ⟨by unfold NonN; omega, [D.val (.int .u8 c)], by rw [Int.toNat_natCast, ints_get, hel]; rfl, c, rfl, fun hx => ?_, fun hx => ?_⟩
    · simp only [decide_eq_true_eq] at hx
      have hlt : i < lead l := by
        rcases Nat.lt_or_ge i (lead l) with h' | h'
        · exact h'
        · have : i = lead l := by omega
          subst this
          have := lead_end hel
          omega
      rw [w64 (by omega) (by omega)]
      exact Nx.mk' (⟨i + 1, by unfold leInv; omega⟩ : {i // leInv (lead l) i}) rfl (by show l.length - (i + 1) < l.length - i; omega)
    · simp only [decide_eq_false_iff_not] at hx
      have hil : i = lead l := by
        rcases Nat.lt_or_ge i (lead l) with h' | h'
        · obtain ⟨d, h1, h2⟩ := lead_go h'
          rw [hel] at h1; cases h1; omega
        · omega
      subst hil
      have hgd : l.getD (lead l) 0 = c := by rw [List.getD_eq_getElem?_getD, hel]; rfl
      refine ⟨fun hy => k3 (.inl (by simp only [decide_eq_true_eq] at hy; omega)), fun hy => ⟨fun hz => ?_, fun hz => ⟨fun hp => ?_, fun hp => ?_⟩⟩⟩
      · simp only [beq_iff_eq] at hz; omega
      · simp only [decide_eq_true_eq] at hp
        simp only [decide_eq_false_iff_not] at hy
        refine ⟨by unfold NonN; omega, [D.val (.int .u8 c)], by rw [Int.toNat_natCast, ints_get, hel]; rfl, c, rfl, fun h0 => ?_, fun h0 => ?_⟩
        · simp only [beq_iff_eq] at h0
          exact k3 (.inr ⟨by omega, by rw [hgd, h0], by omega⟩)
        · simp only [beq_eq_false_iff_ne, ne_eq] at h0
          have tt := takeTail l most hb hl K (by omega) (by omega) (by rw [hgd]; exact fun hh => h0 hh.2) h
          simp only [ints_len] at tt
          exact tt
      · simp only [decide_eq_false_iff_not] at hp hy
        have tt := takeTail l most hb hl K (by omega) (by omega) (fun hh => hp (by omega)) h
        simp only [ints_len] at tt
        exact tt
  · simp only [decide_eq_false_iff_not] at hc
    have hil : i = lead l := by omega
    subst hil
    have hlen : lead l = l.length := by omega
    refine ⟨fun hy => k3 (.inl (by simp only [decide_eq_true_eq] at hy; omega)), fun hy => ⟨fun hz => ?_, fun hz => ?_⟩⟩
    · simp only [decide_eq_false_iff_not] at hy
      exact k2 (by omega) hlen
    · simp only [beq_eq_false_iff_ne, ne_eq] at hz
      omega)
end Go.Proofs.Ytmemkblmocgnlaa
