import Derived.Test.YtmemkblmocgnlaaFm
import Derived.KernelRfl
namespace Go.Proofs.Ytmemkblmocgnlaa
open Vc Go
set_option linter.unusedVariables false
set_option linter.unusedSimpArgs false
set_option maxRecDepth 100000
abbrev eqfL (l l' : List (List Int)) : LI where
  α := {i : Nat // i ≤ l.length ∧ l.length = l'.length ∧ l.take i = l'.take i}
  live := [1, 2, 15, 16, 17]
  st i := ([.dat (.sl 1 (l'.map bsl)), .fn 42 [], .dat (.sl 1 (l.map bsl)), .int .i64 (l.length : Int), .int .i64 (i.1 : Int)], [])
  μ i := l.length - i.1
def smT (k : Int) (n b : List Int) (l : List (List Int)) (k' : Int) (n' b' : List Int) (l' : List (List Int)) : FuncId → Nat → Option LI
  | 43, 4 => some (eqfL l l')
  | 16, 4 => some (sm1LI k n b l k' n' b' l')
  | _, _ => none
def SeqF : FSpec := fun args kb K => match args, kb with
  | [.dat (.sl 1 L), .dat (.sl 1 L'), .fn 42 []], [] => ∃ l l' : List (List Int), L = l.map bsl ∧ L' = l'.map bsl ∧ l.length ≤ maxLen ∧ (∀ t ∈ l, t.length ≤ maxLen) ∧ K (.sb (decide (l = l'))) []
  | _, _ => False
def SsameM : FSpec := fun args kb K => match args, kb with
  | [.agg [.int .i64 k, .dat (.sl 1 N), .dat (.sl 1 B), .dat (.sl 1 L)], .agg [.int .i64 k', .dat (.sl 1 N'), .dat (.sl 1 B'), .dat (.sl 1 L')]], [] => ∃ n b l n' b' l', N = ints .i64 n ∧ B = ints .u8 b ∧ L = l.map bsl ∧ N' = ints .i64 n' ∧ B' = ints .u8 b' ∧ L' = l'.map bsl ∧ LenI n b l ∧
    K (.sb (decide (k = k' ∧ n = n' ∧ b = b' ∧ l = l'))) []
  | _, _ => False
def smS : FuncId → Option Known
  | 42 => some ⟨[.lend 1, .lend 1], SsameL .u8⟩
  | 41 => some ⟨[.lend 1, .lend 1], SsameL .i64⟩
  | 14 => some ⟨[.lend 1, .lend 1], SsameL .u8⟩
  | 37 => some ⟨[.lend 1, .lend 1], SsameL .i64⟩
  | _ => none
def sm2 : FuncId → Option Known
  | 43 => some ⟨[.lend 1, .lend 1], SeqF⟩
  | f => smS f
noncomputable def XSm : CallT := callS Try.prog smS noT 10
noncomputable def XS2 : CallT := callS Try.prog sm2 noT 10
structure BytM (b : List Int) (l : List (List Int)) : Prop where
  b : Byt b
  l : ∀ t ∈ l, Byt t
def SputF : FSpec := fun args kb K => match args, kb with
  | [.agg [.int .i64 k, .dat (.sl 1 N), .dat (.sl 1 B), .dat (.sl 1 L)]], [] => ∃ n b l, N = ints .i64 n ∧ B = ints .u8 b ∧ L = l.map bsl ∧ LenI n b l ∧ BytM b l ∧
    (RightM k n b l → K (.tup [.sl 0 0 ((putW k n b l).length + 4), .int .i64 0]) [.row 5 1 (ints .u8 (sealI (putW k n b l)))]) ∧ (¬ RightM k n b l → K (.tup [.sl 0 0 0, .int .i64 3]) [.row 5 1 []])
  | _, _ => False
def SputR : FSpec := fun args kb K => match args, kb with
  | [.agg [.int .i64 k, .dat (.sl 1 N), .dat (.sl 1 B), .dat (.sl 1 L)]], [] => ∃ n b l, N = ints .i64 n ∧ B = ints .u8 b ∧ L = l.map bsl ∧ RightM k n b l ∧ BytM b l ∧
    K (.sl 0 0 ((putW k n b l).length + 4)) [.row 5 1 (ints .u8 (sealI (putW k n b l)))]
  | _, _ => False
def fpS : FuncId → Option Known
  | 12 => some ⟨[.lend 1], Scheck⟩
  | 22 => some ⟨[.lend 1], Sseal⟩
  | 36 => some ⟨[.lend 1], Sseal⟩
  | f => pxS f
noncomputable def XFp : CallT := callS Try.prog fpS noT 10
theorem vcEqF (l l' : List (List Int)) (K : V → KB → Prop) (hvc_ :
 (((↑(List.map bsl l).length : Int) != (↑(List.map bsl l').length : Int)) = true → K (V.sb false) []) ∧
 (((↑(List.map bsl l).length : Int) != (↑(List.map bsl l').length : Int)) = false →
 At (eqfL l l') ([V.dat (D.sl 1 (List.map bsl l')), V.fn 42 [], V.dat (D.sl 1 (List.map bsl l)), V.int IntKind.i64 (↑(List.map bsl l).length : Int), V.int IntKind.i64 0], []) ∧
 ∀ (i : { i : Nat // i ≤ l.length ∧ l.length = l'.length ∧ List.take i l = List.take i l' }),
 (decide ((↑i.val : Int) < (↑l.length : Int)) = true →
 NonN (↑i.val : Int) ∧
 ∃ (e : List D),
 (List.map bsl l)[(↑i.val : Int).toNat]? = some e ∧
 ∃ (l_1 : List (List D)),
 e[0]? = some (D.sl 1 l_1) ∧
 NonN (↑i.val : Int) ∧
 ∃ (e : List D),
 (List.map bsl l')[(↑i.val : Int).toNat]? = some e ∧
 ∃ (l_2 : List (List D)),
 e[0]? = some (D.sl 1 l_2) ∧
 ∃ (a : List Int),
 ∃ (b : List Int),
 l_1 = ints IntKind.u8 a ∧ l_2 = ints IntKind.u8 b ∧ a.length ≤ maxLen ∧ ((!decide (a = b)) = true → K (V.sb false) []) ∧ ((!decide (a = b)) = false → Nx (eqfL l l') i ([V.dat (D.sl 1 (List.map bsl l')), V.fn 42 [], V.dat (D.sl 1 (List.map bsl l)), V.int IntKind.i64 (↑l.length : Int), V.int IntKind.i64 (IntKind.i64.wrap ((↑i.val : Int) + 1))], []))) ∧
 (decide ((↑i.val : Int) < (↑l.length : Int)) = false → K (V.sb true) []))
 ) : runSpec Try.prog XSm (smT 0 [] [] l 0 [] [] l' 43) 43 [.dat (.sl 1 (l.map bsl)), .dat (.sl 1 (l'.map bsl)), .fn 42 []] [] K := Eq.mp (by kernel_rfl) hvc_
theorem vcSameF (k : Int) (n b : List Int) (l : List (List Int)) (k' : Int) (n' b' : List Int) (l' : List (List Int)) (K : V → KB → Prop) (hvc_ :
 ((k == k') = true →
 ∃ (a : List Int),
 ∃ (b_1 : List Int),
 ints IntKind.i64 n = ints IntKind.i64 a ∧
 ints IntKind.i64 n' = ints IntKind.i64 b_1 ∧
 a.length ≤ maxLen ∧
 (decide (a = b_1) = true →
 ∃ (a : List Int),
 ∃ (b_2 : List Int),
 ints IntKind.u8 b = ints IntKind.u8 a ∧
 ints IntKind.u8 b' = ints IntKind.u8 b_2 ∧
 a.length ≤ maxLen ∧ (decide (a = b_2) = true → ∃ (l_1 : List (List Int)), ∃ (l'_1 : List (List Int)), List.map bsl l = List.map bsl l_1 ∧ List.map bsl l' = List.map bsl l'_1 ∧ l_1.length ≤ maxLen ∧ (∀ (t : List Int), List.Mem t l_1 → t.length ≤ maxLen) ∧ K (V.sb (decide (l_1 = l'_1))) []) ∧ (decide (a = b_2) = false → K (V.sb false) [])) ∧
 (decide (a = b_1) = false → K (V.sb false) [])) ∧
 ((k == k') = false → K (V.sb false) [])
 ) : runSpec Try.prog XS2 (noT 19) 19 [.agg (msgC k n b l), .agg (msgC k' n' b' l')] [] K := Eq.mp (by kernel_rfl) hvc_
theorem vcSameR (k : Int) (n b : List Int) (l : List (List Int)) (k' : Int) (n' b' : List Int) (l' : List (List Int)) (K : V → KB → Prop) (hvc_ :
 ((k != k') = true → K (V.sb false) []) ∧
 ((k != k') = false →
 ∃ (a : List Int),
 ∃ (b_1 : List Int),
 ints IntKind.i64 n = ints IntKind.i64 a ∧
 ints IntKind.i64 n' = ints IntKind.i64 b_1 ∧
 a.length ≤ maxLen ∧
 ((!decide (a = b_1)) = true → K (V.sb false) []) ∧
 ((!decide (a = b_1)) = false →
 ∃ (a : List Int),
 ∃ (b_2 : List Int),
 ints IntKind.u8 b = ints IntKind.u8 a ∧
 ints IntKind.u8 b' = ints IntKind.u8 b_2 ∧
 a.length ≤ maxLen ∧
 ((!decide (a = b_2)) = true → K (V.sb false) []) ∧
 ((!decide (a = b_2)) = false →
 (((↑(List.map bsl l).length : Int) != (↑(List.map bsl l').length : Int)) = true → K (V.sb false) []) ∧
 (((↑(List.map bsl l).length : Int) != (↑(List.map bsl l').length : Int)) = false →
 At (sm1LI k n b l k' n' b' l') ([V.ptr 0 0, V.ptr 1 0, V.int IntKind.i64 0], [KO.cells [V.int IntKind.i64 k, V.dat (D.sl 1 (ints IntKind.i64 n)), V.dat (D.sl 1 (ints IntKind.u8 b)), V.dat (D.sl 1 (List.map bsl l))], KO.cells [V.int IntKind.i64 k', V.dat (D.sl 1 (ints IntKind.i64 n')), V.dat (D.sl 1 (ints IntKind.u8 b')), V.dat (D.sl 1 (List.map bsl l'))]]) ∧
 ∀ (i : { i : Nat // i ≤ l.length ∧ l.length = l'.length ∧ (k = k' ∧ n = n' ∧ b = b') ∧ List.take i l = List.take i l' }),
 (decide ((↑i.val : Int) < (↑(List.map bsl l).length : Int)) = true →
 NonN (↑i.val : Int) ∧
 ∃ (e : List D),
 (List.map bsl l)[(↑i.val : Int).toNat]? = some e ∧
 ∃ (l_1 : List (List D)),
 e[0]? = some (D.sl 1 l_1) ∧
 NonN (↑i.val : Int) ∧
 ∃ (e : List D),
 (List.map bsl l')[(↑i.val : Int).toNat]? = some e ∧
 ∃ (l_2 : List (List D)),
 e[0]? = some (D.sl 1 l_2) ∧
 ∃ (a : List Int),
 ∃ (b_3 : List Int),
 l_1 = ints IntKind.u8 a ∧
 l_2 = ints IntKind.u8 b_3 ∧
 a.length ≤ maxLen ∧
 ((!decide (a = b_3)) = true → K (V.sb false) []) ∧
 ((!decide (a = b_3)) = false →
 Nx (sm1LI k n b l k' n' b' l') i
 ([V.ptr 0 0, V.ptr 1 0, V.int IntKind.i64 (IntKind.i64.wrap ((↑i.val : Int) + 1))],
 [KO.cells [V.int IntKind.i64 k, V.dat (D.sl 1 (ints IntKind.i64 n)), V.dat (D.sl 1 (ints IntKind.u8 b)), V.dat (D.sl 1 (List.map bsl l))], KO.cells [V.int IntKind.i64 k', V.dat (D.sl 1 (ints IntKind.i64 n')), V.dat (D.sl 1 (ints IntKind.u8 b')), V.dat (D.sl 1 (List.map bsl l'))]]))) ∧
 (decide ((↑i.val : Int) < (↑(List.map bsl l).length : Int)) = false → K (V.sb true) [])))))
 ) : runSpec Try.prog XSm (smT k n b l k' n' b' l' 16) 16 [.agg (msgC k n b l), .agg (msgC k' n' b' l')] [] K := Eq.mp (by kernel_rfl) hvc_
theorem vcPutF (k : Int) (n b : List Int) (l : List (List Int)) (K : V → KB → Prop) (hvc_ :
 ∃ (n_1 : List Int),
 ∃ (b_1 : List Int),
 ∃ (l_1 : List (List Int)),
 ints IntKind.i64 n = ints IntKind.i64 n_1 ∧
 ints IntKind.u8 b = ints IntKind.u8 b_1 ∧
 List.map bsl l = List.map bsl l_1 ∧
 LenI n_1 b_1 l_1 ∧
 (RightM k n_1 b_1 l_1 →
 (false = true → K (V.tup [V.sl 0 0 0, V.int IntKind.i64 0]) [KO.row 5 1 []]) ∧
 (false = false →
 ∃ (a : List Int),
 [] = ints IntKind.u8 a ∧
 0 = a.length ∧
 a.length ≤ 10000000 ∧
 LeM k ∧
 ∃ (a_1 : List Int),
 ints IntKind.u8 (a ++ numW k) = ints IntKind.u8 a_1 ∧
 (a ++ numW k).length = a_1.length ∧
 a_1.length ≤ 10000000 ∧
 LeM (↑(ints IntKind.i64 n).length : Int) ∧
 At (pu1LI k n b l)
 ([V.ptr 0 0, V.ptr 1 0, V.dat (D.sl 1 (ints IntKind.i64 n)), V.int IntKind.i64 (↑(ints IntKind.i64 n).length : Int), V.int IntKind.i64 0],
 [KO.cells [V.int IntKind.i64 k, V.dat (D.sl 1 (ints IntKind.i64 n)), V.dat (D.sl 1 (ints IntKind.u8 b)), V.dat (D.sl 1 (List.map bsl l))], KO.cells [V.sl 2 0 (a_1 ++ numW (↑(ints IntKind.i64 n).length : Int)).length], KO.row 5 1 (ints IntKind.u8 (a_1 ++ numW (↑(ints IntKind.i64 n).length : Int)))]) ∧
 ∀ (i : { i : Nat // i ≤ n.length }),
 (decide ((↑i.val : Int) < (↑n.length : Int)) = true →
 NonN (↑i.val : Int) ∧
 ∃ (e : List D),
 (ints IntKind.i64 n)[(↑i.val : Int).toNat]? = some e ∧
 ∃ (n_2 : Int),
 e[0]? = some (D.val (Value.int IntKind.i64 n_2)) ∧
 ∃ (a : List Int),
 ints IntKind.u8 (pu1 k n i.val) = ints IntKind.u8 a ∧
 (pu1 k n i.val).length = a.length ∧
 a.length ≤ 10000000 ∧
 LeM n_2 ∧
 Nx (pu1LI k n b l) i
 ([V.ptr 0 0, V.ptr 1 0, V.dat (D.sl 1 (ints IntKind.i64 n)), V.int IntKind.i64 (↑n.length : Int), V.int IntKind.i64 (IntKind.i64.wrap ((↑i.val : Int) + 1))],
 [KO.cells [V.int IntKind.i64 k, V.dat (D.sl 1 (ints IntKind.i64 n)), V.dat (D.sl 1 (ints IntKind.u8 b)), V.dat (D.sl 1 (List.map bsl l))], KO.cells [V.sl 2 0 (a ++ numW n_2).length], KO.row 5 1 (ints IntKind.u8 (a ++ numW n_2))])) ∧
 (decide ((↑i.val : Int) < (↑n.length : Int)) = false →
 ∃ (a : List Int),
 ∃ (b_2 : List Int),
 ints IntKind.u8 (pu1 k n i.val) = ints IntKind.u8 a ∧
 ints IntKind.u8 b = ints IntKind.u8 b_2 ∧
 (pu1 k n i.val).length = a.length ∧
 a.length ≤ 1000000 ∧
 b_2.length ≤ 1000000 ∧
 ∃ (a_2 : List Int),
 ints IntKind.u8 (a ++ textW b_2) = ints IntKind.u8 a_2 ∧
 (a ++ textW b_2).length = a_2.length ∧
 a_2.length ≤ 10000000 ∧
 LeM (↑(List.map bsl l).length : Int) ∧
 At (pu2LI k n b l) ([V.ptr 0 0, V.dat (D.sl 1 (List.map bsl l)), V.int IntKind.i64 (↑(List.map bsl l).length : Int), V.int IntKind.i64 0], [KO.cells [V.sl 1 0 (a_2 ++ numW (↑(List.map bsl l).length : Int)).length], KO.row 5 1 (ints IntKind.u8 (a_2 ++ numW (↑(List.map bsl l).length : Int)))]) ∧
 ∀ (i : { i : Nat // i ≤ l.length }),
 (decide ((↑i.val : Int) < (↑l.length : Int)) = true →
 NonN (↑i.val : Int) ∧
 ∃ (e : List D),
 (List.map bsl l)[(↑i.val : Int).toNat]? = some e ∧
 ∃ (l_2 : List (List D)),
 e[0]? = some (D.sl 1 l_2) ∧
 ∃ (a : List Int),
 ∃ (b_3 : List Int),
 ints IntKind.u8 (pu2 k n b l i.val) = ints IntKind.u8 a ∧
 l_2 = ints IntKind.u8 b_3 ∧
 (pu2 k n b l i.val).length = a.length ∧
 a.length ≤ 1000000 ∧
 b_3.length ≤ 1000000 ∧ Nx (pu2LI k n b l) i ([V.ptr 0 0, V.dat (D.sl 1 (List.map bsl l)), V.int IntKind.i64 (↑l.length : Int), V.int IntKind.i64 (IntKind.i64.wrap ((↑i.val : Int) + 1))], [KO.cells [V.sl 1 0 (a ++ textW b_3).length], KO.row 5 1 (ints IntKind.u8 (a ++ textW b_3))])) ∧
 (decide ((↑i.val : Int) < (↑l.length : Int)) = false →
 ∃ (a : List Int),
 ints IntKind.u8 (pu2 k n b l i.val) = ints IntKind.u8 a ∧
 (pu2 k n b l i.val).length = a.length ∧
 a.length ≤ 1000000 ∧
 (a.length ≤ (ints IntKind.u8 a).length ∧ True) ∧
 ∃ (l : List Int),
 List.drop 0 (List.take a.length (ints IntKind.u8 a)) = ints IntKind.u8 l ∧ (∀ (c : Int), List.Mem c l → 0 ≤ c ∧ c < 256) ∧ l.length ≤ 900000 ∧ PlainS (ints IntKind.u8 (sealI l)).flatten ∧ K (V.tup [V.sl 0 0 (l.length + 4), V.int IntKind.i64 0]) [KO.row 5 1 (ints IntKind.u8 (sealI l))])))) ∧
 ((RightM k n_1 b_1 l_1 → False) →
 (true = true → K (V.tup [V.sl 0 0 0, V.int IntKind.i64 3]) [KO.row 5 1 []]) ∧
 (true = false →
 ∃ (a : List Int),
 [] = ints IntKind.u8 a ∧
 0 = a.length ∧
 a.length ≤ 10000000 ∧
 LeM k ∧
 ∃ (a_1 : List Int),
 ints IntKind.u8 (a ++ numW k) = ints IntKind.u8 a_1 ∧
 (a ++ numW k).length = a_1.length ∧
 a_1.length ≤ 10000000 ∧
 LeM (↑(ints IntKind.i64 n).length : Int) ∧
 At (pu1LI k n b l)
 ([V.ptr 0 0, V.ptr 1 0, V.dat (D.sl 1 (ints IntKind.i64 n)), V.int IntKind.i64 (↑(ints IntKind.i64 n).length : Int), V.int IntKind.i64 0],
 [KO.cells [V.int IntKind.i64 k, V.dat (D.sl 1 (ints IntKind.i64 n)), V.dat (D.sl 1 (ints IntKind.u8 b)), V.dat (D.sl 1 (List.map bsl l))], KO.cells [V.sl 2 0 (a_1 ++ numW (↑(ints IntKind.i64 n).length : Int)).length], KO.row 5 1 (ints IntKind.u8 (a_1 ++ numW (↑(ints IntKind.i64 n).length : Int)))]) ∧
 ∀ (i : { i : Nat // i ≤ n.length }),
 (decide ((↑i.val : Int) < (↑n.length : Int)) = true →
 NonN (↑i.val : Int) ∧
 ∃ (e : List D),
 (ints IntKind.i64 n)[(↑i.val : Int).toNat]? = some e ∧
 ∃ (n_2 : Int),
 e[0]? = some (D.val (Value.int IntKind.i64 n_2)) ∧
 ∃ (a : List Int),
 ints IntKind.u8 (pu1 k n i.val) = ints IntKind.u8 a ∧
 (pu1 k n i.val).length = a.length ∧
 a.length ≤ 10000000 ∧
 LeM n_2 ∧
 Nx (pu1LI k n b l) i
 ([V.ptr 0 0, V.ptr 1 0, V.dat (D.sl 1 (ints IntKind.i64 n)), V.int IntKind.i64 (↑n.length : Int), V.int IntKind.i64 (IntKind.i64.wrap ((↑i.val : Int) + 1))],
 [KO.cells [V.int IntKind.i64 k, V.dat (D.sl 1 (ints IntKind.i64 n)), V.dat (D.sl 1 (ints IntKind.u8 b)), V.dat (D.sl 1 (List.map bsl l))], KO.cells [V.sl 2 0 (a ++ numW n_2).length], KO.row 5 1 (ints IntKind.u8 (a ++ numW n_2))])) ∧
 (decide ((↑i.val : Int) < (↑n.length : Int)) = false →
 ∃ (a : List Int),
 ∃ (b_2 : List Int),
 ints IntKind.u8 (pu1 k n i.val) = ints IntKind.u8 a ∧
 ints IntKind.u8 b = ints IntKind.u8 b_2 ∧
 (pu1 k n i.val).length = a.length ∧
 a.length ≤ 1000000 ∧
 b_2.length ≤ 1000000 ∧
 ∃ (a_2 : List Int),
 ints IntKind.u8 (a ++ textW b_2) = ints IntKind.u8 a_2 ∧
 (a ++ textW b_2).length = a_2.length ∧
 a_2.length ≤ 10000000 ∧
 LeM (↑(List.map bsl l).length : Int) ∧
 At (pu2LI k n b l) ([V.ptr 0 0, V.dat (D.sl 1 (List.map bsl l)), V.int IntKind.i64 (↑(List.map bsl l).length : Int), V.int IntKind.i64 0], [KO.cells [V.sl 1 0 (a_2 ++ numW (↑(List.map bsl l).length : Int)).length], KO.row 5 1 (ints IntKind.u8 (a_2 ++ numW (↑(List.map bsl l).length : Int)))]) ∧
 ∀ (i : { i : Nat // i ≤ l.length }),
 (decide ((↑i.val : Int) < (↑l.length : Int)) = true →
 NonN (↑i.val : Int) ∧
 ∃ (e : List D),
 (List.map bsl l)[(↑i.val : Int).toNat]? = some e ∧
 ∃ (l_2 : List (List D)),
 e[0]? = some (D.sl 1 l_2) ∧
 ∃ (a : List Int),
 ∃ (b_3 : List Int),
 ints IntKind.u8 (pu2 k n b l i.val) = ints IntKind.u8 a ∧
 l_2 = ints IntKind.u8 b_3 ∧
 (pu2 k n b l i.val).length = a.length ∧
 a.length ≤ 1000000 ∧
 b_3.length ≤ 1000000 ∧ Nx (pu2LI k n b l) i ([V.ptr 0 0, V.dat (D.sl 1 (List.map bsl l)), V.int IntKind.i64 (↑l.length : Int), V.int IntKind.i64 (IntKind.i64.wrap ((↑i.val : Int) + 1))], [KO.cells [V.sl 1 0 (a ++ textW b_3).length], KO.row 5 1 (ints IntKind.u8 (a ++ textW b_3))])) ∧
 (decide ((↑i.val : Int) < (↑l.length : Int)) = false →
 ∃ (a : List Int),
 ints IntKind.u8 (pu2 k n b l i.val) = ints IntKind.u8 a ∧
 (pu2 k n b l i.val).length = a.length ∧
 a.length ≤ 1000000 ∧
 (a.length ≤ (ints IntKind.u8 a).length ∧ True) ∧
 ∃ (l : List Int), List.drop 0 (List.take a.length (ints IntKind.u8 a)) = ints IntKind.u8 l ∧ (∀ (c : Int), List.Mem c l → 0 ≤ c ∧ c < 256) ∧ l.length ≤ 900000 ∧ PlainS (ints IntKind.u8 (sealI l)).flatten ∧ K (V.tup [V.sl 0 0 (l.length + 4), V.int IntKind.i64 0]) [KO.row 5 1 (ints IntKind.u8 (sealI l))]))))
 ) : runSpec Try.prog XFp (fmT k n b l 10) 10 [.agg (msgC k n b l)] [] (nilRes [.slot 0 5 1] (tidyRes 0 K)) := Eq.mp (by kernel_rfl) hvc_
theorem vcPutR (k : Int) (n b : List Int) (l : List (List Int)) (K : V → KB → Prop) (hvc_ :
 (LeM k ∧
 LeM (↑(ints IntKind.i64 n).length : Int) ∧
 (numW (↑(ints IntKind.i64 n).length : Int)).length ≤ (ints IntKind.u8 (numW (↑(ints IntKind.i64 n).length : Int))).length ∧
 (numW k).length ≤ (ints IntKind.u8 (numW k)).length ∧
 ((numW k).length + (List.drop 0 (List.take (numW (↑(ints IntKind.i64 n).length : Int)).length (ints IntKind.u8 (numW (↑(ints IntKind.i64 n).length : Int))))).length) * 1 ≤ 140737488355328 ∧
 At (rp1LI k n b l)
 ([V.ptr 0 0, V.sl 1 0 ((numW k).length + (List.drop 0 (List.take (numW (↑(ints IntKind.i64 n).length : Int)).length (ints IntKind.u8 (numW (↑(ints IntKind.i64 n).length : Int))))).length), V.int IntKind.i64 0],
 [KO.cells [V.int IntKind.i64 k, V.dat (D.sl 1 (ints IntKind.i64 n)), V.dat (D.sl 1 (ints IntKind.u8 b)), V.dat (D.sl 1 (List.map bsl l))], KO.row 5 1 (List.take (numW k).length (ints IntKind.u8 (numW k)) ++ List.drop 0 (List.take (numW (↑(ints IntKind.i64 n).length : Int)).length (ints IntKind.u8 (numW (↑(ints IntKind.i64 n).length : Int)))))]) ∧
 ∀ (i : { i : Nat // i ≤ n.length }),
 (decide ((↑i.val : Int) < (↑(ints IntKind.i64 n).length : Int)) = true →
 NonN (↑i.val : Int) ∧
 ∃ (e : List D),
 (ints IntKind.i64 n)[(↑i.val : Int).toNat]? = some e ∧
 ∃ (n_1 : Int),
 e[0]? = some (D.val (Value.int IntKind.i64 n_1)) ∧
 LeM n_1 ∧
 (numW n_1).length ≤ (ints IntKind.u8 (numW n_1)).length ∧
 (pu1 k n i.val).length ≤ (ints IntKind.u8 (pu1 k n i.val)).length ∧
 ((pu1 k n i.val).length + (List.drop 0 (List.take (numW n_1).length (ints IntKind.u8 (numW n_1)))).length) * 1 ≤ 140737488355328 ∧
 Nx (rp1LI k n b l) i
 ([V.ptr 0 0, V.sl 1 0 ((pu1 k n i.val).length + (List.drop 0 (List.take (numW n_1).length (ints IntKind.u8 (numW n_1)))).length), V.int IntKind.i64 (IntKind.i64.wrap ((↑i.val : Int) + 1))],
 [KO.cells [V.int IntKind.i64 k, V.dat (D.sl 1 (ints IntKind.i64 n)), V.dat (D.sl 1 (ints IntKind.u8 b)), V.dat (D.sl 1 (List.map bsl l))], KO.row 5 1 (List.take (pu1 k n i.val).length (ints IntKind.u8 (pu1 k n i.val)) ++ List.drop 0 (List.take (numW n_1).length (ints IntKind.u8 (numW n_1))))])) ∧
 (decide ((↑i.val : Int) < (↑(ints IntKind.i64 n).length : Int)) = false →
 ∃ (b_1 : List Int),
 ints IntKind.u8 b = ints IntKind.u8 b_1 ∧
 b_1.length ≤ 1000000 ∧
 (textW b_1).length ≤ (ints IntKind.u8 (textW b_1)).length ∧
 (pu1 k n i.val).length ≤ (ints IntKind.u8 (pu1 k n i.val)).length ∧
 ((pu1 k n i.val).length + (List.drop 0 (List.take (textW b_1).length (ints IntKind.u8 (textW b_1)))).length) * 1 ≤ 140737488355328 ∧
 LeM (↑(List.map bsl l).length : Int) ∧
 (numW (↑(List.map bsl l).length : Int)).length ≤ (ints IntKind.u8 (numW (↑(List.map bsl l).length : Int))).length ∧
 (pu1 k n i.val).length + (List.drop 0 (List.take (textW b_1).length (ints IntKind.u8 (textW b_1)))).length ≤ (List.take (pu1 k n i.val).length (ints IntKind.u8 (pu1 k n i.val)) ++ List.drop 0 (List.take (textW b_1).length (ints IntKind.u8 (textW b_1)))).length ∧
 ((pu1 k n i.val).length + (List.drop 0 (List.take (textW b_1).length (ints IntKind.u8 (textW b_1)))).length + (List.drop 0 (List.take (numW (↑(List.map bsl l).length : Int)).length (ints IntKind.u8 (numW (↑(List.map bsl l).length : Int))))).length) * 1 ≤ 140737488355328 ∧
 At (rp2LI k n b l)
 ([V.ptr 0 0, V.sl 1 0 ((pu1 k n i.val).length + (List.drop 0 (List.take (textW b_1).length (ints IntKind.u8 (textW b_1)))).length + (List.drop 0 (List.take (numW (↑(List.map bsl l).length : Int)).length (ints IntKind.u8 (numW (↑(List.map bsl l).length : Int))))).length), V.int IntKind.i64 0],
 [KO.cells [V.int IntKind.i64 k, V.dat (D.sl 1 (ints IntKind.i64 n)), V.dat (D.sl 1 (ints IntKind.u8 b)), V.dat (D.sl 1 (List.map bsl l))],
 KO.row 5 1
 (List.take ((pu1 k n i.val).length + (List.drop 0 (List.take (textW b_1).length (ints IntKind.u8 (textW b_1)))).length) (List.take (pu1 k n i.val).length (ints IntKind.u8 (pu1 k n i.val)) ++ List.drop 0 (List.take (textW b_1).length (ints IntKind.u8 (textW b_1)))) ++
 List.drop 0 (List.take (numW (↑(List.map bsl l).length : Int)).length (ints IntKind.u8 (numW (↑(List.map bsl l).length : Int)))))]) ∧
 ∀ (i : { i : Nat // i ≤ l.length }),
 (decide ((↑i.val : Int) < (↑(List.map bsl l).length : Int)) = true →
 NonN (↑i.val : Int) ∧
 ∃ (e : List D),
 (List.map bsl l)[(↑i.val : Int).toNat]? = some e ∧
 ∃ (l_1 : List (List D)),
 e[0]? = some (D.sl 1 l_1) ∧
 ∃ (b_2 : List Int),
 l_1 = ints IntKind.u8 b_2 ∧
 b_2.length ≤ 1000000 ∧
 (textW b_2).length ≤ (ints IntKind.u8 (textW b_2)).length ∧
 (pu2 k n b l i.val).length ≤ (ints IntKind.u8 (pu2 k n b l i.val)).length ∧
 ((pu2 k n b l i.val).length + (List.drop 0 (List.take (textW b_2).length (ints IntKind.u8 (textW b_2)))).length) * 1 ≤ 140737488355328 ∧
 Nx (rp2LI k n b l) i
 ([V.ptr 0 0, V.sl 1 0 ((pu2 k n b l i.val).length + (List.drop 0 (List.take (textW b_2).length (ints IntKind.u8 (textW b_2)))).length), V.int IntKind.i64 (IntKind.i64.wrap ((↑i.val : Int) + 1))],
 [KO.cells [V.int IntKind.i64 k, V.dat (D.sl 1 (ints IntKind.i64 n)), V.dat (D.sl 1 (ints IntKind.u8 b)), V.dat (D.sl 1 (List.map bsl l))], KO.row 5 1 (List.take (pu2 k n b l i.val).length (ints IntKind.u8 (pu2 k n b l i.val)) ++ List.drop 0 (List.take (textW b_2).length (ints IntKind.u8 (textW b_2))))])) ∧
 (decide ((↑i.val : Int) < (↑(List.map bsl l).length : Int)) = false →
 ((pu2 k n b l i.val).length ≤ (ints IntKind.u8 (pu2 k n b l i.val)).length ∧ True) ∧
 ∃ (l_1 : List Int), List.drop 0 (List.take (pu2 k n b l i.val).length (ints IntKind.u8 (pu2 k n b l i.val))) = ints IntKind.u8 l_1 ∧ (∀ (c : Int), List.Mem c l_1 → 0 ≤ c ∧ c < 256) ∧ l_1.length ≤ 900000 ∧ PlainS (ints IntKind.u8 (sealI l_1)).flatten ∧ K (V.sl 0 0 (l_1.length + 4)) [KO.row 5 1 (ints IntKind.u8 (sealI l_1))]))) ∧
 LeM k ∧
 LeM (↑(ints IntKind.i64 n).length : Int) ∧
 (numW (↑(ints IntKind.i64 n).length : Int)).length ≤ (ints IntKind.u8 (numW (↑(ints IntKind.i64 n).length : Int))).length ∧
 (numW k).length ≤ (ints IntKind.u8 (numW k)).length ∧
 ((numW k).length + (List.drop 0 (List.take (numW (↑(ints IntKind.i64 n).length : Int)).length (ints IntKind.u8 (numW (↑(ints IntKind.i64 n).length : Int))))).length) * 1 ≤ 140737488355328 ∧
 At (rp1LI k n b l)
 ([V.ptr 0 0, V.sl 1 0 ((numW k).length + (List.drop 0 (List.take (numW (↑(ints IntKind.i64 n).length : Int)).length (ints IntKind.u8 (numW (↑(ints IntKind.i64 n).length : Int))))).length), V.int IntKind.i64 0],
 [KO.cells [V.int IntKind.i64 k, V.dat (D.sl 1 (ints IntKind.i64 n)), V.dat (D.sl 1 (ints IntKind.u8 b)), V.dat (D.sl 1 (List.map bsl l))], KO.row 5 1 (List.take (numW k).length (ints IntKind.u8 (numW k)) ++ List.drop 0 (List.take (numW (↑(ints IntKind.i64 n).length : Int)).length (ints IntKind.u8 (numW (↑(ints IntKind.i64 n).length : Int)))))]) ∧
 ∀ (i : { i : Nat // i ≤ n.length }),
 (decide ((↑i.val : Int) < (↑(ints IntKind.i64 n).length : Int)) = true →
 NonN (↑i.val : Int) ∧
 ∃ (e : List D),
 (ints IntKind.i64 n)[(↑i.val : Int).toNat]? = some e ∧
 ∃ (n_1 : Int),
 e[0]? = some (D.val (Value.int IntKind.i64 n_1)) ∧
 LeM n_1 ∧
 (numW n_1).length ≤ (ints IntKind.u8 (numW n_1)).length ∧
 (pu1 k n i.val).length ≤ (ints IntKind.u8 (pu1 k n i.val)).length ∧
 ((pu1 k n i.val).length + (List.drop 0 (List.take (numW n_1).length (ints IntKind.u8 (numW n_1)))).length) * 1 ≤ 140737488355328 ∧
 Nx (rp1LI k n b l) i
 ([V.ptr 0 0, V.sl 1 0 ((pu1 k n i.val).length + (List.drop 0 (List.take (numW n_1).length (ints IntKind.u8 (numW n_1)))).length), V.int IntKind.i64 (IntKind.i64.wrap ((↑i.val : Int) + 1))],
 [KO.cells [V.int IntKind.i64 k, V.dat (D.sl 1 (ints IntKind.i64 n)), V.dat (D.sl 1 (ints IntKind.u8 b)), V.dat (D.sl 1 (List.map bsl l))], KO.row 5 1 (List.take (pu1 k n i.val).length (ints IntKind.u8 (pu1 k n i.val)) ++ List.drop 0 (List.take (numW n_1).length (ints IntKind.u8 (numW n_1))))])) ∧
 (decide ((↑i.val : Int) < (↑(ints IntKind.i64 n).length : Int)) = false →
 ∃ (b_1 : List Int),
 ints IntKind.u8 b = ints IntKind.u8 b_1 ∧
 b_1.length ≤ 1000000 ∧
 (textW b_1).length ≤ (ints IntKind.u8 (textW b_1)).length ∧
 (pu1 k n i.val).length ≤ (ints IntKind.u8 (pu1 k n i.val)).length ∧
 ((pu1 k n i.val).length + (List.drop 0 (List.take (textW b_1).length (ints IntKind.u8 (textW b_1)))).length) * 1 ≤ 140737488355328 ∧
 LeM (↑(List.map bsl l).length : Int) ∧
 (numW (↑(List.map bsl l).length : Int)).length ≤ (ints IntKind.u8 (numW (↑(List.map bsl l).length : Int))).length ∧
 (pu1 k n i.val).length + (List.drop 0 (List.take (textW b_1).length (ints IntKind.u8 (textW b_1)))).length ≤ (List.take (pu1 k n i.val).length (ints IntKind.u8 (pu1 k n i.val)) ++ List.drop 0 (List.take (textW b_1).length (ints IntKind.u8 (textW b_1)))).length ∧
 ((pu1 k n i.val).length + (List.drop 0 (List.take (textW b_1).length (ints IntKind.u8 (textW b_1)))).length + (List.drop 0 (List.take (numW (↑(List.map bsl l).length : Int)).length (ints IntKind.u8 (numW (↑(List.map bsl l).length : Int))))).length) * 1 ≤ 140737488355328 ∧
 At (rp2LI k n b l)
 ([V.ptr 0 0, V.sl 1 0 ((pu1 k n i.val).length + (List.drop 0 (List.take (textW b_1).length (ints IntKind.u8 (textW b_1)))).length + (List.drop 0 (List.take (numW (↑(List.map bsl l).length : Int)).length (ints IntKind.u8 (numW (↑(List.map bsl l).length : Int))))).length), V.int IntKind.i64 0],
 [KO.cells [V.int IntKind.i64 k, V.dat (D.sl 1 (ints IntKind.i64 n)), V.dat (D.sl 1 (ints IntKind.u8 b)), V.dat (D.sl 1 (List.map bsl l))],
 KO.row 5 1
 (List.take ((pu1 k n i.val).length + (List.drop 0 (List.take (textW b_1).length (ints IntKind.u8 (textW b_1)))).length) (List.take (pu1 k n i.val).length (ints IntKind.u8 (pu1 k n i.val)) ++ List.drop 0 (List.take (textW b_1).length (ints IntKind.u8 (textW b_1)))) ++
 List.drop 0 (List.take (numW (↑(List.map bsl l).length : Int)).length (ints IntKind.u8 (numW (↑(List.map bsl l).length : Int)))))]) ∧
 ∀ (i : { i : Nat // i ≤ l.length }),
 (decide ((↑i.val : Int) < (↑(List.map bsl l).length : Int)) = true →
 NonN (↑i.val : Int) ∧
 ∃ (e : List D),
 (List.map bsl l)[(↑i.val : Int).toNat]? = some e ∧
 ∃ (l_1 : List (List D)),
 e[0]? = some (D.sl 1 l_1) ∧
 ∃ (b_2 : List Int),
 l_1 = ints IntKind.u8 b_2 ∧
 b_2.length ≤ 1000000 ∧
 (textW b_2).length ≤ (ints IntKind.u8 (textW b_2)).length ∧
 (pu2 k n b l i.val).length ≤ (ints IntKind.u8 (pu2 k n b l i.val)).length ∧
 ((pu2 k n b l i.val).length + (List.drop 0 (List.take (textW b_2).length (ints IntKind.u8 (textW b_2)))).length) * 1 ≤ 140737488355328 ∧
 Nx (rp2LI k n b l) i
 ([V.ptr 0 0, V.sl 1 0 ((pu2 k n b l i.val).length + (List.drop 0 (List.take (textW b_2).length (ints IntKind.u8 (textW b_2)))).length), V.int IntKind.i64 (IntKind.i64.wrap ((↑i.val : Int) + 1))],
 [KO.cells [V.int IntKind.i64 k, V.dat (D.sl 1 (ints IntKind.i64 n)), V.dat (D.sl 1 (ints IntKind.u8 b)), V.dat (D.sl 1 (List.map bsl l))], KO.row 5 1 (List.take (pu2 k n b l i.val).length (ints IntKind.u8 (pu2 k n b l i.val)) ++ List.drop 0 (List.take (textW b_2).length (ints IntKind.u8 (textW b_2))))])) ∧
 (decide ((↑i.val : Int) < (↑(List.map bsl l).length : Int)) = false →
 ((pu2 k n b l i.val).length ≤ (ints IntKind.u8 (pu2 k n b l i.val)).length ∧ True) ∧
 ∃ (l_1 : List Int), List.drop 0 (List.take (pu2 k n b l i.val).length (ints IntKind.u8 (pu2 k n b l i.val))) = ints IntKind.u8 l_1 ∧ (∀ (c : Int), List.Mem c l_1 → 0 ≤ c ∧ c < 256) ∧ l_1.length ≤ 900000 ∧ PlainS (ints IntKind.u8 (sealI l_1)).flatten ∧ K (V.sl 0 0 (l_1.length + 4)) [KO.row 5 1 (ints IntKind.u8 (sealI l_1))]))
 ) : runSpec Try.prog XFp (fmT k n b l 15) 15 [.agg (msgC k n b l)] [] (tidyRes 0 K) := Eq.mp (by kernel_rfl) hvc_
theorem smS_ok : AllOk Try.prog smS := fun f k h => by
  unfold smS at h
  split at h <;> first | (cases h; first | exact okEqualL | exact okEqualIL | exact okSameL | exact okSameIntsL) | cases h
theorem XSm_ok : CallOk Try.prog XSm := callS_ok mixed smS_ok noT 10
theorem tk_step {l l' : List (List Int)} {i : Nat} (h : l.take i = l'.take i) (hi : i < l.length) (hi' : i < l'.length) (e : gT l i = gT l' i) : l.take (i + 1) = l'.take (i + 1) := by
  rw [gT_take hi, gT_take hi', h, e]
theorem okEqF : SpecOk Try.prog 43 SeqF := specOk_of' XSm_ok mixed (fun args kb K h => by
  unfold SeqF at h; split at h <;> try exact h.elim
  obtain ⟨l, l', rfl, rfl, hl, ht, h⟩ := h
  have hl0 := hl
  simp only [maxLen] at hl0
  refine ⟨smT 0 [] [] l 0 [] [] l' 43, vcEqF l l' K ?_⟩
  simp only [lnM, bne_iff_ne, ne_eq, bne_eq_false_iff_eq]
  refine ⟨fun h1 => ?_, fun h1 => ⟨At.mk' ⟨0, Nat.zero_le _, by omega, rfl⟩ rfl, ?_⟩⟩
  · rwa [decide_eq_false (fun e => h1 (by rw [e]))] at h
  rintro ⟨i, hi, he, htk⟩
  dsimp only
  simp only [decide_eq_true_eq, decide_eq_false_iff_not]
  refine ⟨fun hc => elT (by omega) (elT (by omega) ⟨_, _, rfl, rfl, ht _ (gT_mem (by omega)), fun h2 => ?_, fun h2 => ?_⟩), fun hc => ?_⟩
  · simp only [Bool.not_eq_true', decide_eq_false_iff_not] at h2
    rwa [decide_eq_false (fun e => h2 (by rw [e]))] at h
  · simp only [Bool.not_eq_false', decide_eq_true_eq] at h2
    rw [w64 (by omega) (by omega)]
    exact Nx.mk' (⟨i + 1, by omega, he, tk_step htk (by omega) (by omega) h2⟩ : {i : Nat // i ≤ l.length ∧ l.length = l'.length ∧ l.take i = l'.take i}) rfl (by show l.length - (i + 1) < l.length - i; omega)
  · have : i = l.length := by omega
    subst this
    rw [List.take_length, he, List.take_length] at htk
    rwa [decide_eq_true htk] at h)
theorem sm2_ok : AllOk Try.prog sm2 := fun f k h => by
  unfold sm2 at h
  split at h
  · cases h; exact okEqF
  · exact smS_ok _ _ h
theorem XS2_ok : CallOk Try.prog XS2 := callS_ok mixed sm2_ok noT 10
theorem okSameF : SpecOk Try.prog 19 SsameM := specOk_of' XS2_ok mixed (fun args kb K h => by
  unfold SsameM at h; split at h <;> try exact h.elim
  rename_i k _ _ _ k' _ _ _
  obtain ⟨n, b, l, n', b', l', rfl, rfl, rfl, rfl, rfl, rfl, ⟨n1, b1, l1, t1⟩, h⟩ := h
  refine ⟨noT 19, vcSameF k n b l k' n' b' l' K ?_⟩
  simp only [beq_iff_eq, beq_eq_false_iff_ne, decide_eq_true_eq, decide_eq_false_iff_not]
  refine ⟨fun h1 => ⟨n, n', rfl, rfl, n1, fun h2 => ⟨b, b', rfl, rfl, b1, fun h3 => ⟨l, l', rfl, rfl, l1, t1, ?_⟩, fun h3 => ?_⟩, fun h2 => ?_⟩, fun h1 => ?_⟩
  · have e : decide (l = l') = decide (k = k' ∧ n = n' ∧ b = b' ∧ l = l') := by simp [h1, h2, h3]
    rwa [e]
  · rwa [decide_eq_false (fun w => h3 w.2.2.1)] at h
  · rwa [decide_eq_false (fun w => h2 w.2.1)] at h
  · rwa [decide_eq_false (fun w => h1 w.1)] at h)
theorem okSameR : SpecOk Try.prog 16 SsameM := specOk_of' XSm_ok mixed (fun args kb K h => by
  unfold SsameM at h; split at h <;> try exact h.elim
  rename_i k _ _ _ k' _ _ _
  obtain ⟨n, b, l, n', b', l', rfl, rfl, rfl, rfl, rfl, rfl, ⟨n1, b1, l1, t1⟩, h⟩ := h
  have l2 := l1
  simp only [maxLen] at l2
  have no : ¬ (k = k' ∧ n = n' ∧ b = b' ∧ l = l') → K (.sb false) [] := fun f => by rwa [decide_eq_false f] at h
  refine ⟨smT k n b l k' n' b' l' 16, vcSameR k n b l k' n' b' l' K ?_⟩
  simp only [lnM, bne_iff_ne, ne_eq, bne_eq_false_iff_eq, Bool.not_eq_true', Bool.not_eq_false', decide_eq_true_eq, decide_eq_false_iff_not]
  refine ⟨fun h1 => no fun w => h1 w.1, fun h1 => ⟨n, n', rfl, rfl, n1, fun h2 => no fun w => h2 w.2.1, fun h2 => ⟨b, b', rfl, rfl, b1, fun h3 => no fun w => h3 w.2.2.1, fun h3 => ⟨fun h4 => no fun w => h4 (by rw [w.2.2.2]), fun h4 => ⟨At.mk' ⟨0, Nat.zero_le _, by omega, ⟨h1, h2, h3⟩, rfl⟩ rfl, ?_⟩⟩⟩⟩⟩
  rintro ⟨i, hi, he, hp, htk⟩
  dsimp only
  refine ⟨fun hc => elT (by omega) (elT (by omega) ⟨_, _, rfl, rfl, t1 _ (gT_mem (by omega)), fun h5 => no fun w => h5 (by rw [w.2.2.2]), fun h5 => ?_⟩), fun hc => ?_⟩
  · rw [w64 (by omega) (by omega)]
    exact Nx.mk' (⟨i + 1, by omega, he, hp, tk_step htk (by omega) (by omega) h5⟩ : {i : Nat // i ≤ l.length ∧ l.length = l'.length ∧ (k = k' ∧ n = n' ∧ b = b') ∧ l.take i = l'.take i}) rfl (by show l.length - (i + 1) < l.length - i; omega)
  · have : i = l.length := by omega
    subst this
    rw [List.take_length, he, List.take_length] at htk
    rwa [decide_eq_true (show k = k' ∧ n = n' ∧ b = b' ∧ l = l' from ⟨hp.1, hp.2.1, hp.2.2, htk⟩)] at h)
/-! Put. -/
theorem catN_app {a b : List Int} : catN (a ++ b) = catN a ++ catN b := by unfold catN; rw [List.map_append, List.flatten_append]
theorem catT_app {a b : List (List Int)} : catT (a ++ b) = catT a ++ catT b := by unfold catT; rw [List.map_append, List.flatten_append]
theorem catN_take {l : List Int} {i : Nat} (h : i < l.length) : catN (l.take (i + 1)) = catN (l.take i) ++ numW (gI l i) := by
  rw [gI_take h, catN_app]; simp [catN]
theorem catT_take {l : List (List Int)} {i : Nat} (h : i < l.length) : catT (l.take (i + 1)) = catT (l.take i) ++ textW (gT l i) := by
  rw [gT_take h, catT_app]; simp [catT]
theorem catN_len : ∀ (l : List Int), (catN l).length ≤ 9 * l.length
  | [] => by simp [catN]
  | a :: l => by
    have := catN_len l
    have h1 := numW_len a
    have e : catN (a :: l) = numW a ++ catN l := by simp [catN]
    rw [e, List.length_append, List.length_cons]; omega
theorem catT_len : ∀ (l : List (List Int)), (catT l).length ≤ tot l + 9 * l.length
  | [] => by simp [catT, tot]
  | a :: l => by
    have := catT_len l
    have h1 := textW_len a
    have e : catT (a :: l) = textW a ++ catT l := by simp [catT]
    rw [e, List.length_append, List.length_cons]
    simp only [tot]; omega
theorem pu1_0 {k : Int} {n : List Int} : pu1 k n 0 = numW k ++ numW (n.length : Int) := by simp [pu1, catN]
theorem pu1_s {k : Int} {n : List Int} {i : Nat} (h : i < n.length) : pu1 k n (i + 1) = pu1 k n i ++ numW (gI n i) := by
  unfold pu1; rw [catN_take h, List.append_assoc (_ ++ _)]
theorem pu2_0 {k : Int} {n b : List Int} {l : List (List Int)} : pu2 k n b l 0 = pu1 k n n.length ++ textW b ++ numW (l.length : Int) := by simp [pu2, catT]
theorem pu2_s {k : Int} {n b : List Int} {l : List (List Int)} {i : Nat} (h : i < l.length) : pu2 k n b l (i + 1) = pu2 k n b l i ++ textW (gT l i) := by
  unfold pu2; rw [catT_take h]; simp only [List.append_assoc]
theorem pu1_len {k : Int} {n b : List Int} {l : List (List Int)} (h : RightM k n b l) (i : Nat) : (pu1 k n i).length ≤ 162 := by
  have h1 := numW_len k
  have h2 := numW_len (n.length : Int)
  have h3 := catN_len (n.take i)
  have := h.nl
  rw [List.length_take] at h3
  unfold pu1; simp only [List.length_append]; omega
theorem pu2_len {k : Int} {n b : List Int} {l : List (List Int)} (h : RightM k n b l) (i : Nat) : (pu2 k n b l i).length ≤ 100000 := by
  have h1 := pu1_len h n.length
  have h2 := numW_len (l.length : Int)
  have h3 := catT_len (l.take i)
  have h4 := textW_len b
  have h5 := h.bl
  have h6 := h.ll
  have h7 := h.al
  have h8 := tot_le (l := l) i
  rw [List.length_take] at h3
  unfold pu2; simp only [List.length_append]; omega
theorem byt_app {a b : List Int} (ha : Byt a) (hb : Byt b) : Byt (a ++ b) := fun c hc => by
  rcases List.mem_append.1 hc with h | h
  · exact ha c h
  · exact hb c h
theorem putW_byt {k : Int} {n b : List Int} {l : List (List Int)} (h : RightM k n b l) (hb : BytM b l) : Byt (putW k n b l) := by
  unfold putW pu2 pu1
  refine byt_app (byt_app (byt_app (byt_app (byt_app (numW_byt ?_) (numW_byt ?_)) ?_) (textW_byt hb.b ?_)) (numW_byt ?_)) ?_
  · have := h.k2; omega
  · have := h.nl; omega
  · intro c hc
    unfold catN at hc
    obtain ⟨x, hx, hc⟩ := List.mem_flatten.1 hc
    obtain ⟨m, hm, rfl⟩ := List.mem_map.1 hx
    exact numW_byt (by have := h.ns m (List.mem_of_mem_take hm); omega) c hc
  · have := h.bl; omega
  · have := h.ll; omega
  · intro c hc
    unfold catT at hc
    obtain ⟨x, hx, hc⟩ := List.mem_flatten.1 hc
    obtain ⟨m, hm, rfl⟩ := List.mem_map.1 hx
    exact textW_byt (hb.l m (List.mem_of_mem_take hm)) (by have := h.ts m (List.mem_of_mem_take hm); omega) c hc
theorem fpS_ok : AllOk Try.prog fpS := fun f k h => by
  unfold fpS at h
  split at h
  · cases h; exact okCheck
  · cases h; exact okSeal
  · cases h; exact okRSeal
  · exact pxS_ok _ _ h
theorem XFp_ok : CallOk Try.prog XFp := callS_ok mixed fpS_ok noT 10
theorem okPutF : SpecOk Try.prog 10 SputF := specOk_nt XFp_ok mixed [.slot 0 5 1] (fun args kb K h => by
  unfold SputF at h; split at h <;> try exact h.elim
  rename_i k _ _ _
  obtain ⟨n, b, l, rfl, rfl, rfl, hln, hb, hy, hn⟩ := h
  refine ⟨fmT k n b l 10, vcPutF k n b l K ⟨n, b, l, rfl, rfl, rfl, hln, fun hr => ⟨fun f => (by cases f), fun _ => ?_⟩, fun hr => ⟨fun _ => hn hr, fun f => (by cases f)⟩⟩⟩
  replace hy := hy hr
  have k1 := numW_len k
  have hk2 := hr.k2
  have hnl := hr.nl
  have hll := hr.ll
  have hbl := hr.bl
  refine ⟨[], rfl, rfl, by simp, ⟨by omega⟩, _, rfl, rfl, by simp only [List.length_append, List.length_nil]; omega, ⟨by rw [ints_len]; omega⟩, ?_, ?_⟩
  · rw [List.nil_append, ints_len, ← pu1_0]
    exact At.mk' ⟨0, Nat.zero_le _⟩ rfl
  rintro ⟨i, hi⟩
  dsimp only
  simp only [decide_eq_true_eq, decide_eq_false_iff_not]
  have p1 := pu1_len hr i
  refine ⟨fun hc => el (by omega) ⟨_, rfl, rfl, by omega, ⟨by have := hr.ns _ (gI_mem (show i < n.length by omega)); omega⟩, ?_⟩, fun hc => ?_⟩
  · have e1 : IntKind.i64.wrap ((i : Int) + 1) = ((i + 1 : Nat) : Int) := by rw [w64 (by omega) (by omega)]; rfl
    rw [e1, ← pu1_s (by omega)]
    exact Nx.mk' (⟨i + 1, by omega⟩ : {i : Nat // i ≤ n.length}) rfl (by show n.length - (i + 1) < n.length - i; omega)
  have : i = n.length := by omega
  subst this
  have t1 := textW_len b
  refine ⟨_, b, rfl, rfl, rfl, by omega, by omega, _, rfl, rfl, by rw [List.length_append]; omega, ⟨by rw [lnM]; omega⟩, ?_, ?_⟩
  · rw [lnM, ← pu2_0]
    exact At.mk' ⟨0, Nat.zero_le _⟩ rfl
  rintro ⟨j, hj⟩
  dsimp only
  try simp only [decide_eq_true_eq, decide_eq_false_iff_not]
  have p2 := pu2_len hr j
  refine ⟨fun hc => elT (by omega) ⟨_, _, rfl, rfl, rfl, by omega, by have := hr.ts _ (gT_mem (show j < l.length by omega)); omega, ?_⟩, fun hc => ?_⟩
  · have e1 : IntKind.i64.wrap ((j : Int) + 1) = ((j + 1 : Nat) : Int) := by rw [w64 (by omega) (by omega)]; rfl
    rw [e1, ← pu2_s (by omega)]
    exact Nx.mk' (⟨j + 1, by omega⟩ : {i : Nat // i ≤ l.length}) rfl (by show l.length - (j + 1) < l.length - j; omega)
  have : j = l.length := by omega
  subst this
  refine ⟨_, rfl, rfl, by omega, ⟨by rw [ints_len]; exact Nat.le_refl _, trivial⟩, putW k n b l, by rw [List.drop_zero, ints_take]; unfold putW; rw [List.take_length], putW_byt hr hb, by unfold putW; omega, ⟨plain_ints⟩, hy⟩)
theorem okPutR : SpecOk Try.prog 15 SputR := specOk_tidy XFp_ok mixed (fun args kb K h => by
  unfold SputR at h; split at h <;> try exact h.elim
  rename_i k _ _ _
  obtain ⟨n, b, l, rfl, rfl, rfl, hr, hb, hy⟩ := h
  refine ⟨fmT k n b l 15, vcPutR k n b l K ?_⟩
  simp only [ints_len, lnM, List.drop_zero, ints_take, List.take_length, ← ints_app, ← List.length_append, Nat.mul_one]
  refine (fun h => And.intro h h) ?_
  have k1 := numW_len k
  have k2 := numW_len (n.length : Int)
  have k3 := numW_len (l.length : Int)
  have hk2 := hr.k2
  have hnl := hr.nl
  have hll := hr.ll
  have hbl := hr.bl
  refine ⟨⟨by omega⟩, ⟨by omega⟩, Nat.le_refl _, Nat.le_refl _, by rw [List.length_append]; omega, ?_, ?_⟩
  · rw [← pu1_0]
    exact At.mk' ⟨0, Nat.zero_le _⟩ rfl
  rintro ⟨i, hi⟩
  dsimp only
  simp only [decide_eq_true_eq, decide_eq_false_iff_not]
  have p1 := pu1_len hr i
  refine ⟨fun hc => el (by omega) ?_, fun hc => ?_⟩
  · have e1 : IntKind.i64.wrap ((i : Int) + 1) = ((i + 1 : Nat) : Int) := by rw [w64 (by omega) (by omega)]; rfl
    have k4 := numW_len (gI n i)
    refine ⟨⟨by have := hr.ns _ (gI_mem (show i < n.length by omega)); omega⟩, Nat.le_refl _, Nat.le_refl _, by rw [List.length_append]; omega, ?_⟩
    rw [e1, ← pu1_s (by omega)]
    exact Nx.mk' (⟨i + 1, by omega⟩ : {i : Nat // i ≤ n.length}) rfl (by show n.length - (i + 1) < n.length - i; omega)
  have : i = n.length := by omega
  subst this
  have t1 := textW_len b
  refine ⟨b, rfl, by omega, ?_⟩
  try simp only [ints_len, lnM, List.drop_zero, ints_take, List.take_length, ← ints_app, ← List.length_append, Nat.mul_one]
  refine ⟨Nat.le_refl _, Nat.le_refl _, by rw [List.length_append]; omega, ⟨by omega⟩, Nat.le_refl _, Nat.le_refl _, by simp only [List.length_append]; omega, ?_, ?_⟩
  · rw [← pu2_0]
    exact At.mk' ⟨0, Nat.zero_le _⟩ rfl
  rintro ⟨j, hj⟩
  dsimp only
  have p2 := pu2_len hr j
  refine ⟨fun hc => elT (by omega) ⟨_, rfl, by have := hr.ts _ (gT_mem (show j < l.length by omega)); omega, ?_⟩, fun hc => ?_⟩
  · have e1 : IntKind.i64.wrap ((j : Int) + 1) = ((j + 1 : Nat) : Int) := by rw [w64 (by omega) (by omega)]; rfl
    have k4 := textW_len (gT l j)
    have k5 := hr.ts _ (gT_mem (show j < l.length by omega))
    try simp only [ints_len, lnM, List.drop_zero, ints_take, List.take_length, ← ints_app, ← List.length_append, Nat.mul_one]
    refine ⟨Nat.le_refl _, Nat.le_refl _, by rw [List.length_append]; omega, ?_⟩
    rw [e1, ← pu2_s (by omega)]
    exact Nx.mk' (⟨j + 1, by omega⟩ : {i : Nat // i ≤ l.length}) rfl (by show l.length - (j + 1) < l.length - j; omega)
  have : j = l.length := by omega
  subst this
  exact ⟨⟨Nat.le_refl _, trivial⟩, putW k n b l, rfl, putW_byt hr hb, by unfold putW; omega, ⟨plain_ints⟩, hy⟩)
end Go.Proofs.Ytmemkblmocgnlaa
