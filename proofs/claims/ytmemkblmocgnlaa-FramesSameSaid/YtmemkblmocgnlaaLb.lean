import Derived.Test.YtmemkblmocgnlaaLa
import Derived.KernelRfl
namespace Go.Proofs.Ytmemkblmocgnlaa
open Vc Go
set_option linter.unusedVariables false
set_option linter.unusedSimpArgs false
set_option maxRecDepth 100000
def msgD (k : Int) (n b : List Int) (l : List (List Int)) : List D := [.val (.int .i64 k), .sl 1 (ints .i64 n), .sl 1 (ints .u8 b), .sl 1 (l.map bsl)]
abbrev sbC1 (k : Int) (n b : List Int) (l : List (List Int)) (k' : Int) (n' b' : List Int) (l' : List (List Int)) : LI where
  α := {x : Nat // x = 0}
  live := [2, 3]
  nils := [.ice 0, .ice 1]
  st x := ([.ipe [.val (.int .i64 k), .sl 1 (ints .i64 n), .sl 1 (ints .u8 b), .sl 1 (l.map bsl)] 0, .ipe [.val (.int .i64 k'), .sl 1 (ints .i64 n'), .sl 1 (ints .u8 b'), .sl 1 (l'.map bsl)] 0], [])
  μ x := 0
abbrev sbC2 (k : Int) (n b : List Int) (l : List (List Int)) (k' : Int) (n' b' : List Int) (l' : List (List Int)) : LI where
  α := {x : Int × List Int // PutP k n b l x}
  live := [2, 3, 5, 6]
  st x := ([.ipe [.val (.int .i64 k), .sl 1 (ints .i64 n), .sl 1 (ints .u8 b), .sl 1 (l.map bsl)] 0, .ipe [.val (.int .i64 k'), .sl 1 (ints .i64 n'), .sl 1 (ints .u8 b'), .sl 1 (l'.map bsl)] 0, .dat (.sl 1 (ints .u8 x.1.2)), .int .i64 x.1.1], [])
  μ x := 0
abbrev sbC3 (k : Int) (n b : List Int) (l : List (List Int)) (k' : Int) (n' b' : List Int) (l' : List (List Int)) : LI where
  α := {x : (Int × List Int) × (Int × List Int) // PutP k n b l x.1 ∧ PutP k' n' b' l' x.2}
  live := [2, 3, 5, 6, 7, 8]
  st x := ([.ipe [.val (.int .i64 k), .sl 1 (ints .i64 n), .sl 1 (ints .u8 b), .sl 1 (l.map bsl)] 0, .ipe [.val (.int .i64 k'), .sl 1 (ints .i64 n'), .sl 1 (ints .u8 b'), .sl 1 (l'.map bsl)] 0, .dat (.sl 1 (ints .u8 x.1.1.2)), .int .i64 x.1.1.1, .dat (.sl 1 (ints .u8 x.1.2.2)), .int .i64 x.1.2.1], [])
  μ x := 0
def lbT (k : Int) (n b : List Int) (l : List (List Int)) (k' : Int) (n' b' : List Int) (l' : List (List Int)) : FuncId → Nat → Option LI
  | 7, 1003 => some (sbC1 k n b l k' n' b' l')
  | 7, 1004 => some (sbC2 k n b l k' n' b' l')
  | 7, 1005 => some (sbC3 k n b l k' n' b' l')
  | _, _ => none
noncomputable def XLb (k : Int) (n b : List Int) (l : List (List Int)) (k' : Int) (n' b' : List Int) (l' : List (List Int)) : CallT := callS Try.prog lawS (lbT k n b l k' n' b' l') 10
theorem vcSameL (mk : Int) (mn mb : List Int) (ml : List (List Int)) (mk' : Int) (mn' mb' : List Int) (ml' : List (List Int))  (hvc_ :
 (∃ (n : List Int),
 ∃ (b : List Int),
 ∃ (l : List (List Int)),
 ints IntKind.i64 mn = ints IntKind.i64 n ∧
 ints IntKind.u8 mb = ints IntKind.u8 b ∧
 List.map bsl ml = List.map bsl l ∧
 LenI n b l ∧
 ∀ (g : Int),
 (decide (g > 0) = true → true = true) ∧
 (decide (g > 0) = false →
 ∃ (n : List Int),
 ∃ (b : List Int),
 ∃ (l : List (List Int)),
 ints IntKind.i64 mn' = ints IntKind.i64 n ∧
 ints IntKind.u8 mb' = ints IntKind.u8 b ∧
 List.map bsl ml' = List.map bsl l ∧
 LenI n b l ∧
 ∀ (g : Int),
 (decide (g > 0) = true → true = true) ∧
 (decide (g > 0) = false → At (sbC1 mk mn mb ml mk' mn' mb' ml') ([V.ipe [D.val (Value.int IntKind.i64 mk), D.sl 1 (ints IntKind.i64 mn), D.sl 1 (ints IntKind.u8 mb), D.sl 1 (List.map bsl ml)] 0, V.ipe [D.val (Value.int IntKind.i64 mk'), D.sl 1 (ints IntKind.i64 mn'), D.sl 1 (ints IntKind.u8 mb'), D.sl 1 (List.map bsl ml')] 0], [])))) ∧
 ∀ (i : { x : Nat // x = 0 }),
 (∃ (n : Int),
 [D.val (Value.int IntKind.i64 mk), D.sl 1 (ints IntKind.i64 mn), D.sl 1 (ints IntKind.u8 mb), D.sl 1 (List.map bsl ml)][0]? = some (D.val (Value.int IntKind.i64 n)) ∧
 ∃ (l : List (List D)),
 [D.val (Value.int IntKind.i64 mk), D.sl 1 (ints IntKind.i64 mn), D.sl 1 (ints IntKind.u8 mb), D.sl 1 (List.map bsl ml)][1]? = some (D.sl 1 l) ∧
 ∃ (l_1 : List (List D)),
 [D.val (Value.int IntKind.i64 mk), D.sl 1 (ints IntKind.i64 mn), D.sl 1 (ints IntKind.u8 mb), D.sl 1 (List.map bsl ml)][2]? = some (D.sl 1 l_1) ∧
 ∃ (l_2 : List (List D)),
 [D.val (Value.int IntKind.i64 mk), D.sl 1 (ints IntKind.i64 mn), D.sl 1 (ints IntKind.u8 mb), D.sl 1 (List.map bsl ml)][3]? = some (D.sl 1 l_2) ∧
 ∃ (n_1 : List Int),
 ∃ (b : List Int),
 ∃ (l_3 : List (List Int)),
 l = ints IntKind.i64 n_1 ∧
 l_1 = ints IntKind.u8 b ∧
 l_2 = List.map bsl l_3 ∧
 LenI n_1 b l_3 ∧
 BytM b l_3 ∧
 (RightM n n_1 b l_3 →
 At (sbC2 mk mn mb ml mk' mn' mb' ml')
 ([V.ipe [D.val (Value.int IntKind.i64 mk), D.sl 1 (ints IntKind.i64 mn), D.sl 1 (ints IntKind.u8 mb), D.sl 1 (List.map bsl ml)] 0, V.ipe [D.val (Value.int IntKind.i64 mk'), D.sl 1 (ints IntKind.i64 mn'), D.sl 1 (ints IntKind.u8 mb'), D.sl 1 (List.map bsl ml')] 0, V.dat (D.sl 1 (ints IntKind.u8 (sealI (putW n n_1 b l_3)))), V.int IntKind.i64 0], [])) ∧
 ((RightM n n_1 b l_3 → False) →
 At (sbC2 mk mn mb ml mk' mn' mb' ml') ([V.ipe [D.val (Value.int IntKind.i64 mk), D.sl 1 (ints IntKind.i64 mn), D.sl 1 (ints IntKind.u8 mb), D.sl 1 (List.map bsl ml)] 0, V.ipe [D.val (Value.int IntKind.i64 mk'), D.sl 1 (ints IntKind.i64 mn'), D.sl 1 (ints IntKind.u8 mb'), D.sl 1 (List.map bsl ml')] 0, V.dat (D.sl 1 []), V.int IntKind.i64 3], []))) ∧
 ∀ (i : { x : Int × List Int // PutP mk mn mb ml x }),
 (∃ (n : Int),
 [D.val (Value.int IntKind.i64 mk'), D.sl 1 (ints IntKind.i64 mn'), D.sl 1 (ints IntKind.u8 mb'), D.sl 1 (List.map bsl ml')][0]? = some (D.val (Value.int IntKind.i64 n)) ∧
 ∃ (l : List (List D)),
 [D.val (Value.int IntKind.i64 mk'), D.sl 1 (ints IntKind.i64 mn'), D.sl 1 (ints IntKind.u8 mb'), D.sl 1 (List.map bsl ml')][1]? = some (D.sl 1 l) ∧
 ∃ (l_1 : List (List D)),
 [D.val (Value.int IntKind.i64 mk'), D.sl 1 (ints IntKind.i64 mn'), D.sl 1 (ints IntKind.u8 mb'), D.sl 1 (List.map bsl ml')][2]? = some (D.sl 1 l_1) ∧
 ∃ (l_2 : List (List D)),
 [D.val (Value.int IntKind.i64 mk'), D.sl 1 (ints IntKind.i64 mn'), D.sl 1 (ints IntKind.u8 mb'), D.sl 1 (List.map bsl ml')][3]? = some (D.sl 1 l_2) ∧
 ∃ (n_1 : List Int),
 ∃ (b : List Int),
 ∃ (l_3 : List (List Int)),
 l = ints IntKind.i64 n_1 ∧
 l_1 = ints IntKind.u8 b ∧
 l_2 = List.map bsl l_3 ∧
 LenI n_1 b l_3 ∧
 BytM b l_3 ∧
 (RightM n n_1 b l_3 →
 At (sbC3 mk mn mb ml mk' mn' mb' ml')
 ([V.ipe [D.val (Value.int IntKind.i64 mk), D.sl 1 (ints IntKind.i64 mn), D.sl 1 (ints IntKind.u8 mb), D.sl 1 (List.map bsl ml)] 0, V.ipe [D.val (Value.int IntKind.i64 mk'), D.sl 1 (ints IntKind.i64 mn'), D.sl 1 (ints IntKind.u8 mb'), D.sl 1 (List.map bsl ml')] 0, V.dat (D.sl 1 (ints IntKind.u8 i.val.snd)), V.int IntKind.i64 i.val.fst,
 V.dat (D.sl 1 (ints IntKind.u8 (sealI (putW n n_1 b l_3)))), V.int IntKind.i64 0],
 [])) ∧
 ((RightM n n_1 b l_3 → False) →
 At (sbC3 mk mn mb ml mk' mn' mb' ml')
 ([V.ipe [D.val (Value.int IntKind.i64 mk), D.sl 1 (ints IntKind.i64 mn), D.sl 1 (ints IntKind.u8 mb), D.sl 1 (List.map bsl ml)] 0, V.ipe [D.val (Value.int IntKind.i64 mk'), D.sl 1 (ints IntKind.i64 mn'), D.sl 1 (ints IntKind.u8 mb'), D.sl 1 (List.map bsl ml')] 0, V.dat (D.sl 1 (ints IntKind.u8 i.val.snd)), V.int IntKind.i64 i.val.fst,
 V.dat (D.sl 1 []), V.int IntKind.i64 3],
 []))) ∧
 ∀ (i : { x : (Int × List Int) × Int × List Int // PutP mk mn mb ml x.fst ∧ PutP mk' mn' mb' ml' x.snd }),
 ∃ (n : Int),
 [D.val (Value.int IntKind.i64 mk), D.sl 1 (ints IntKind.i64 mn), D.sl 1 (ints IntKind.u8 mb), D.sl 1 (List.map bsl ml)][0]? = some (D.val (Value.int IntKind.i64 n)) ∧
 ∃ (l : List (List D)),
 [D.val (Value.int IntKind.i64 mk), D.sl 1 (ints IntKind.i64 mn), D.sl 1 (ints IntKind.u8 mb), D.sl 1 (List.map bsl ml)][1]? = some (D.sl 1 l) ∧
 ∃ (l_1 : List (List D)),
 [D.val (Value.int IntKind.i64 mk), D.sl 1 (ints IntKind.i64 mn), D.sl 1 (ints IntKind.u8 mb), D.sl 1 (List.map bsl ml)][2]? = some (D.sl 1 l_1) ∧
 ∃ (l_2 : List (List D)),
 [D.val (Value.int IntKind.i64 mk), D.sl 1 (ints IntKind.i64 mn), D.sl 1 (ints IntKind.u8 mb), D.sl 1 (List.map bsl ml)][3]? = some (D.sl 1 l_2) ∧
 ∃ (n_1 : Int),
 [D.val (Value.int IntKind.i64 mk'), D.sl 1 (ints IntKind.i64 mn'), D.sl 1 (ints IntKind.u8 mb'), D.sl 1 (List.map bsl ml')][0]? = some (D.val (Value.int IntKind.i64 n_1)) ∧
 ∃ (l_3 : List (List D)),
 [D.val (Value.int IntKind.i64 mk'), D.sl 1 (ints IntKind.i64 mn'), D.sl 1 (ints IntKind.u8 mb'), D.sl 1 (List.map bsl ml')][1]? = some (D.sl 1 l_3) ∧
 ∃ (l_4 : List (List D)),
 [D.val (Value.int IntKind.i64 mk'), D.sl 1 (ints IntKind.i64 mn'), D.sl 1 (ints IntKind.u8 mb'), D.sl 1 (List.map bsl ml')][2]? = some (D.sl 1 l_4) ∧
 ∃ (l_5 : List (List D)),
 [D.val (Value.int IntKind.i64 mk'), D.sl 1 (ints IntKind.i64 mn'), D.sl 1 (ints IntKind.u8 mb'), D.sl 1 (List.map bsl ml')][3]? = some (D.sl 1 l_5) ∧
 ∃ (n_2 : Int),
 [D.val (Value.int IntKind.i64 mk), D.sl 1 (ints IntKind.i64 mn), D.sl 1 (ints IntKind.u8 mb), D.sl 1 (List.map bsl ml)][0]? = some (D.val (Value.int IntKind.i64 n_2)) ∧
 ∃ (l_6 : List (List D)),
 [D.val (Value.int IntKind.i64 mk), D.sl 1 (ints IntKind.i64 mn), D.sl 1 (ints IntKind.u8 mb), D.sl 1 (List.map bsl ml)][1]? = some (D.sl 1 l_6) ∧
 ∃ (l_7 : List (List D)),
 [D.val (Value.int IntKind.i64 mk), D.sl 1 (ints IntKind.i64 mn), D.sl 1 (ints IntKind.u8 mb), D.sl 1 (List.map bsl ml)][2]? = some (D.sl 1 l_7) ∧
 ∃ (l_8 : List (List D)),
 [D.val (Value.int IntKind.i64 mk), D.sl 1 (ints IntKind.i64 mn), D.sl 1 (ints IntKind.u8 mb), D.sl 1 (List.map bsl ml)][3]? = some (D.sl 1 l_8) ∧
 ∃ (n_3 : Int),
 [D.val (Value.int IntKind.i64 mk'), D.sl 1 (ints IntKind.i64 mn'), D.sl 1 (ints IntKind.u8 mb'), D.sl 1 (List.map bsl ml')][0]? = some (D.val (Value.int IntKind.i64 n_3)) ∧
 ∃ (l_9 : List (List D)),
 [D.val (Value.int IntKind.i64 mk'), D.sl 1 (ints IntKind.i64 mn'), D.sl 1 (ints IntKind.u8 mb'), D.sl 1 (List.map bsl ml')][1]? = some (D.sl 1 l_9) ∧
 ∃ (l_10 : List (List D)),
 [D.val (Value.int IntKind.i64 mk'), D.sl 1 (ints IntKind.i64 mn'), D.sl 1 (ints IntKind.u8 mb'), D.sl 1 (List.map bsl ml')][2]? = some (D.sl 1 l_10) ∧
 ∃ (l_11 : List (List D)),
 [D.val (Value.int IntKind.i64 mk'), D.sl 1 (ints IntKind.i64 mn'), D.sl 1 (ints IntKind.u8 mb'), D.sl 1 (List.map bsl ml')][3]? = some (D.sl 1 l_11) ∧
 ∃ (n_4 : List Int),
 ∃ (b : List Int),
 ∃ (l_12 : List (List Int)),
 ∃ (n' : List Int),
 ∃ (b' : List Int),
 ∃ (l' : List (List Int)),
 l = ints IntKind.i64 n_4 ∧
 l_1 = ints IntKind.u8 b ∧
 l_2 = List.map bsl l_12 ∧
 l_3 = ints IntKind.i64 n' ∧
 l_4 = ints IntKind.u8 b' ∧
 l_5 = List.map bsl l' ∧
 LenI n_4 b l_12 ∧
 (∃ (n : Int),
 [D.val (Value.int IntKind.i64 mk'), D.sl 1 (ints IntKind.i64 mn'), D.sl 1 (ints IntKind.u8 mb'), D.sl 1 (List.map bsl ml')][0]? = some (D.val (Value.int IntKind.i64 n)) ∧
 ∃ (l : List (List D)),
 [D.val (Value.int IntKind.i64 mk'), D.sl 1 (ints IntKind.i64 mn'), D.sl 1 (ints IntKind.u8 mb'), D.sl 1 (List.map bsl ml')][1]? = some (D.sl 1 l) ∧
 ∃ (l : List (List D)),
 [D.val (Value.int IntKind.i64 mk'), D.sl 1 (ints IntKind.i64 mn'), D.sl 1 (ints IntKind.u8 mb'), D.sl 1 (List.map bsl ml')][2]? = some (D.sl 1 l) ∧
 ∃ (l : List (List D)), [D.val (Value.int IntKind.i64 mk'), D.sl 1 (ints IntKind.i64 mn'), D.sl 1 (ints IntKind.u8 mb'), D.sl 1 (List.map bsl ml')][3]? = some (D.sl 1 l) ∧ True) ∧
 (∃ (n : Int),
 [D.val (Value.int IntKind.i64 mk), D.sl 1 (ints IntKind.i64 mn), D.sl 1 (ints IntKind.u8 mb), D.sl 1 (List.map bsl ml)][0]? = some (D.val (Value.int IntKind.i64 n)) ∧
 ∃ (l : List (List D)),
 [D.val (Value.int IntKind.i64 mk), D.sl 1 (ints IntKind.i64 mn), D.sl 1 (ints IntKind.u8 mb), D.sl 1 (List.map bsl ml)][1]? = some (D.sl 1 l) ∧
 ∃ (l : List (List D)),
 [D.val (Value.int IntKind.i64 mk), D.sl 1 (ints IntKind.i64 mn), D.sl 1 (ints IntKind.u8 mb), D.sl 1 (List.map bsl ml)][2]? = some (D.sl 1 l) ∧
 ∃ (l : List (List D)), [D.val (Value.int IntKind.i64 mk), D.sl 1 (ints IntKind.i64 mn), D.sl 1 (ints IntKind.u8 mb), D.sl 1 (List.map bsl ml)][3]? = some (D.sl 1 l) ∧ True) ∧
 ∃ (n_5 : List Int),
 ∃ (b_1 : List Int),
 ∃ (l : List (List Int)),
 ∃ (n'_1 : List Int),
 ∃ (b'_1 : List Int),
 ∃ (l'_1 : List (List Int)),
 l_6 = ints IntKind.i64 n_5 ∧
 l_7 = ints IntKind.u8 b_1 ∧
 l_8 = List.map bsl l ∧
 l_9 = ints IntKind.i64 n'_1 ∧
 l_10 = ints IntKind.u8 b'_1 ∧
 l_11 = List.map bsl l'_1 ∧
 LenI n_5 b_1 l ∧
 ((decide (n = n_1 ∧ n_4 = n' ∧ b = b' ∧ l_12 = l') == decide (n_2 = n_3 ∧ n_5 = n'_1 ∧ b_1 = b'_1 ∧ l = l'_1)) = true →
 ∃ (n : Int),
 [D.val (Value.int IntKind.i64 mk), D.sl 1 (ints IntKind.i64 mn), D.sl 1 (ints IntKind.u8 mb), D.sl 1 (List.map bsl ml)][0]? = some (D.val (Value.int IntKind.i64 n)) ∧
 ∃ (l : List (List D)),
 [D.val (Value.int IntKind.i64 mk), D.sl 1 (ints IntKind.i64 mn), D.sl 1 (ints IntKind.u8 mb), D.sl 1 (List.map bsl ml)][1]? = some (D.sl 1 l) ∧
 ∃ (l_13 : List (List D)),
 [D.val (Value.int IntKind.i64 mk), D.sl 1 (ints IntKind.i64 mn), D.sl 1 (ints IntKind.u8 mb), D.sl 1 (List.map bsl ml)][2]? = some (D.sl 1 l_13) ∧
 ∃ (l_14 : List (List D)),
 [D.val (Value.int IntKind.i64 mk), D.sl 1 (ints IntKind.i64 mn), D.sl 1 (ints IntKind.u8 mb), D.sl 1 (List.map bsl ml)][3]? = some (D.sl 1 l_14) ∧
 ∃ (n_6 : Int),
 [D.val (Value.int IntKind.i64 mk), D.sl 1 (ints IntKind.i64 mn), D.sl 1 (ints IntKind.u8 mb), D.sl 1 (List.map bsl ml)][0]? = some (D.val (Value.int IntKind.i64 n_6)) ∧
 ∃ (l_15 : List (List D)),
 [D.val (Value.int IntKind.i64 mk), D.sl 1 (ints IntKind.i64 mn), D.sl 1 (ints IntKind.u8 mb), D.sl 1 (List.map bsl ml)][1]? = some (D.sl 1 l_15) ∧
 ∃ (l_16 : List (List D)),
 [D.val (Value.int IntKind.i64 mk), D.sl 1 (ints IntKind.i64 mn), D.sl 1 (ints IntKind.u8 mb), D.sl 1 (List.map bsl ml)][2]? = some (D.sl 1 l_16) ∧
 ∃ (l_17 : List (List D)),
 [D.val (Value.int IntKind.i64 mk), D.sl 1 (ints IntKind.i64 mn), D.sl 1 (ints IntKind.u8 mb), D.sl 1 (List.map bsl ml)][3]? = some (D.sl 1 l_17) ∧
 ∃ (n_7 : List Int),
 ∃ (b : List Int),
 ∃ (l_18 : List (List Int)),
 ∃ (n' : List Int),
 ∃ (b' : List Int),
 ∃ (l' : List (List Int)),
 l = ints IntKind.i64 n_7 ∧
 l_13 = ints IntKind.u8 b ∧
 l_14 = List.map bsl l_18 ∧
 l_15 = ints IntKind.i64 n' ∧
 l_16 = ints IntKind.u8 b' ∧
 l_17 = List.map bsl l' ∧
 LenI n_7 b l_18 ∧
 (decide (n = n_6 ∧ n_7 = n' ∧ b = b' ∧ l_18 = l') = true →
 ((i.val.fst.fst != 0) = true → true = true) ∧
 ((i.val.fst.fst != 0) = false →
 ((i.val.snd.fst != 0) = true → true = true) ∧
 ((i.val.snd.fst != 0) = false →
 ∃ (n : Int),
 [D.val (Value.int IntKind.i64 mk), D.sl 1 (ints IntKind.i64 mn), D.sl 1 (ints IntKind.u8 mb), D.sl 1 (List.map bsl ml)][0]? = some (D.val (Value.int IntKind.i64 n)) ∧
 ∃ (l : List (List D)),
 [D.val (Value.int IntKind.i64 mk), D.sl 1 (ints IntKind.i64 mn), D.sl 1 (ints IntKind.u8 mb), D.sl 1 (List.map bsl ml)][1]? = some (D.sl 1 l) ∧
 ∃ (l_19 : List (List D)),
 [D.val (Value.int IntKind.i64 mk), D.sl 1 (ints IntKind.i64 mn), D.sl 1 (ints IntKind.u8 mb), D.sl 1 (List.map bsl ml)][2]? = some (D.sl 1 l_19) ∧
 ∃ (l_20 : List (List D)),
 [D.val (Value.int IntKind.i64 mk), D.sl 1 (ints IntKind.i64 mn), D.sl 1 (ints IntKind.u8 mb), D.sl 1 (List.map bsl ml)][3]? = some (D.sl 1 l_20) ∧
 ∃ (n_8 : Int),
 [D.val (Value.int IntKind.i64 mk'), D.sl 1 (ints IntKind.i64 mn'), D.sl 1 (ints IntKind.u8 mb'), D.sl 1 (List.map bsl ml')][0]? = some (D.val (Value.int IntKind.i64 n_8)) ∧
 ∃ (l_21 : List (List D)),
 [D.val (Value.int IntKind.i64 mk'), D.sl 1 (ints IntKind.i64 mn'), D.sl 1 (ints IntKind.u8 mb'), D.sl 1 (List.map bsl ml')][1]? = some (D.sl 1 l_21) ∧
 ∃ (l_22 : List (List D)),
 [D.val (Value.int IntKind.i64 mk'), D.sl 1 (ints IntKind.i64 mn'), D.sl 1 (ints IntKind.u8 mb'), D.sl 1 (List.map bsl ml')][2]? = some (D.sl 1 l_22) ∧
 ∃ (l_23 : List (List D)),
 [D.val (Value.int IntKind.i64 mk'), D.sl 1 (ints IntKind.i64 mn'), D.sl 1 (ints IntKind.u8 mb'), D.sl 1 (List.map bsl ml')][3]? = some (D.sl 1 l_23) ∧
 ∃ (a : List Int),
 ∃ (b : List Int),
 ints IntKind.u8 i.val.fst.snd = ints IntKind.u8 a ∧
 ints IntKind.u8 i.val.snd.snd = ints IntKind.u8 b ∧
 a.length ≤ maxLen ∧
 (∃ (n : Int),
 [D.val (Value.int IntKind.i64 mk'), D.sl 1 (ints IntKind.i64 mn'), D.sl 1 (ints IntKind.u8 mb'), D.sl 1 (List.map bsl ml')][0]? =
 some (D.val (Value.int IntKind.i64 n)) ∧
 ∃ (l : List (List D)),
 [D.val (Value.int IntKind.i64 mk'), D.sl 1 (ints IntKind.i64 mn'), D.sl 1 (ints IntKind.u8 mb'), D.sl 1 (List.map bsl ml')][1]? =
 some (D.sl 1 l) ∧
 ∃ (l : List (List D)),
 [D.val (Value.int IntKind.i64 mk'), D.sl 1 (ints IntKind.i64 mn'), D.sl 1 (ints IntKind.u8 mb'), D.sl 1 (List.map bsl ml')][2]? =
 some (D.sl 1 l) ∧
 ∃ (l : List (List D)),
 [D.val (Value.int IntKind.i64 mk'), D.sl 1 (ints IntKind.i64 mn'), D.sl 1 (ints IntKind.u8 mb'), D.sl 1 (List.map bsl ml')][3]? =
 some (D.sl 1 l) ∧
 True) ∧
 (∃ (n : Int),
 [D.val (Value.int IntKind.i64 mk), D.sl 1 (ints IntKind.i64 mn), D.sl 1 (ints IntKind.u8 mb), D.sl 1 (List.map bsl ml)][0]? =
 some (D.val (Value.int IntKind.i64 n)) ∧
 ∃ (l : List (List D)),
 [D.val (Value.int IntKind.i64 mk), D.sl 1 (ints IntKind.i64 mn), D.sl 1 (ints IntKind.u8 mb), D.sl 1 (List.map bsl ml)][1]? =
 some (D.sl 1 l) ∧
 ∃ (l : List (List D)),
 [D.val (Value.int IntKind.i64 mk), D.sl 1 (ints IntKind.i64 mn), D.sl 1 (ints IntKind.u8 mb), D.sl 1 (List.map bsl ml)][2]? =
 some (D.sl 1 l) ∧
 ∃ (l : List (List D)),
 [D.val (Value.int IntKind.i64 mk), D.sl 1 (ints IntKind.i64 mn), D.sl 1 (ints IntKind.u8 mb), D.sl 1 (List.map bsl ml)][3]? =
 some (D.sl 1 l) ∧
 True) ∧
 ∃ (n_9 : List Int),
 ∃ (b_2 : List Int),
 ∃ (l_24 : List (List Int)),
 ∃ (n' : List Int),
 ∃ (b' : List Int),
 ∃ (l' : List (List Int)),
 l = ints IntKind.i64 n_9 ∧
 l_19 = ints IntKind.u8 b_2 ∧
 l_20 = List.map bsl l_24 ∧
 l_21 = ints IntKind.i64 n' ∧
 l_22 = ints IntKind.u8 b' ∧
 l_23 = List.map bsl l' ∧
 LenI n_9 b_2 l_24 ∧
 ((decide (a = b) == decide (n = n_8 ∧ n_9 = n' ∧ b_2 = b' ∧ l_24 = l')) = true → true = true) ∧
 ((decide (a = b) == decide (n = n_8 ∧ n_9 = n' ∧ b_2 = b' ∧ l_24 = l')) = false → False)))) ∧
 (decide (n = n_6 ∧ n_7 = n' ∧ b = b' ∧ l_18 = l') = false → False)) ∧
 ((decide (n = n_1 ∧ n_4 = n' ∧ b = b' ∧ l_12 = l') == decide (n_2 = n_3 ∧ n_5 = n'_1 ∧ b_1 = b'_1 ∧ l = l'_1)) = false → False)
 ) : XLb mk mn mb ml mk' mn' mb' ml' 7 [.agg (msgC mk mn mb ml), .agg (msgC mk' mn' mb' ml')] [] KT := Eq.mp (by kernel_rfl) hvc_
theorem ints_iff {k : IntKind} {a b : List Int} : ints k a = ints k b ↔ a = b := ⟨ints_inj, fun e => by rw [e]⟩
theorem bsl_iff {a b : List (List Int)} : a.map bsl = b.map bsl ↔ a = b := ⟨bsl_inj, fun e => by rw [e]⟩
theorem XLb_ok (k : Int) (n b : List Int) (l : List (List Int)) (k' : Int) (n' b' : List Int) (l' : List (List Int)) : CallOk Try.prog (XLb k n b l k' n' b' l') := callS_ok mixed lawS_ok _ 10
theorem putP_of {k : Int} {n b : List Int} {l : List (List Int)} {x : Int × List Int} (h : PutP k n b l x) (h0 : x.1 = 0) : RightM k n b l ∧ x.2 = sealI (putW k n b l) := by
  by_cases hr : RightM k n b l
  · exact ⟨hr, (h.t hr).2⟩
  · have := (h.f hr).1; omega
theorem put_iff {k : Int} {n b : List Int} {l : List (List Int)} {k' : Int} {n' b' : List Int} {l' : List (List Int)} {x y : Int × List Int} (h : PutP k n b l x) (h' : PutP k' n' b' l' y) (h0 : x.1 = 0) (h1 : y.1 = 0) :
    x.2 = y.2 ↔ (k = k' ∧ n = n' ∧ b = b' ∧ l = l') := by
  obtain ⟨r1, e1⟩ := putP_of h h0
  obtain ⟨r2, e2⟩ := putP_of h' h1
  rw [e1, e2]
  constructor
  · intro e
    have h3 := rd_put r1
    have h4 := rd_put r2
    rw [e, h4] at h3
    simp only [RdM.mk.injEq] at h3
    exact ⟨h3.2.1.symm, h3.2.2.1.symm, h3.2.2.2.1.symm, h3.2.2.2.2.symm⟩
  · rintro ⟨rfl, rfl, rfl, rfl⟩; rfl
theorem putP_len {k : Int} {n b : List Int} {l : List (List Int)} {x : Int × List Int} (h : PutP k n b l x) : x.2.length ≤ maxLen := by
  simp only [maxLen]
  by_cases hr : RightM k n b l
  · have := rightM_len hr
    rw [(h.t hr).2, sealI_len]; omega
  · rw [(h.f hr).2]; simp
set_option maxHeartbeats 4000000 in
theorem lawSame (k : Int) (n b : List Int) (l : List (List Int)) (k' : Int) (n' b' : List Int) (l' : List (List Int)) (hln : LenI n b l) (hb : BytM b l) (hln' : LenI n' b' l') (hb' : BytM b' l') : XLb k n b l k' n' b' l' 7 [.agg (msgC k n b l), .agg (msgC k' n' b' l')] [] KT := by
  refine vcSameL k n b l k' n' b' l' ⟨⟨n, b, l, rfl, rfl, rfl, hln, fun g => ⟨fun _ => rfl, fun _ => ⟨n', b', l', rfl, rfl, rfl, hln', fun g' => ⟨fun _ => rfl, fun _ => At.mk' ⟨0, rfl⟩ rfl⟩⟩⟩⟩, ?_⟩
  rintro ⟨_, _⟩
  refine ⟨⟨_, rfl, _, rfl, _, rfl, _, rfl, n, b, l, rfl, rfl, rfl, hln, hb, fun hr => At.mk' ⟨(0, sealI (putW k n b l)), fun _ => ⟨rfl, rfl⟩, fun f => absurd hr f⟩ rfl, fun hr => At.mk' ⟨(3, []), fun f => absurd f hr, fun _ => ⟨rfl, rfl⟩⟩ rfl⟩, ?_⟩
  rintro ⟨x, hx⟩
  refine ⟨⟨_, rfl, _, rfl, _, rfl, _, rfl, n', b', l', rfl, rfl, rfl, hln', hb', fun hr => At.mk' ⟨(x, (0, sealI (putW k' n' b' l'))), hx, fun _ => ⟨rfl, rfl⟩, fun f => absurd hr f⟩ rfl, fun hr => At.mk' ⟨(x, (3, [])), hx, fun f => absurd f hr, fun _ => ⟨rfl, rfl⟩⟩ rfl⟩, ?_⟩
  rintro ⟨⟨x, y⟩, hx, hy⟩
  dsimp only at hx hy ⊢
  have hi := put_iff hx hy
  have hx1 := putP_len hx
  have hy1 := putP_len hy
  obtain ⟨e, w⟩ := x
  obtain ⟨e', w'⟩ := y
  dsimp only at hi hx1 hy1 ⊢
  by_cases he : e = 0 <;> by_cases he' : e' = 0 <;> by_cases hm : (k = k' ∧ n = n' ∧ b = b' ∧ l = l') <;>
    simp only [he, he', true_implies, forall_const, hm] at hi <;>
    simp [ints_iff, bsl_iff, hln, hln', hx1, hy1, he, he', hm, hi] <;> (intro h1 h2 h3 h4; exact hm ⟨h1, h2, h3, h4⟩)
end Go.Proofs.Ytmemkblmocgnlaa
