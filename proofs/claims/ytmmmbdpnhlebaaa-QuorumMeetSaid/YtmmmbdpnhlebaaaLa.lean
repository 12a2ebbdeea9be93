import Derived.Test.YtmmmbdpnhlebaaaQv
import Derived.KernelRfl
namespace Go.Proofs.Ytmmmbdpnhlebaaa
open Vc Go
set_option linter.unusedVariables false
set_option linter.unusedSimpArgs false
set_option maxRecDepth 100000
def Sawake : FSpec := fun args kb K => match args, kb with | [], [] => K (.sb true) [] | _, _ => False
def awS : FuncId → Option Known
  | 8 => some ⟨[.lend 1, .asis], SIndex⟩
  | 9 => some ⟨[], SMaj⟩
  | 14 => some ⟨[.lend 1], Sright⟩
  | 10 => some ⟨[.lend 1], Sright⟩
  | 11 => some ⟨[.lend 1], SrIndex⟩
  | 15 => some ⟨[.lend 1, .lend 1], SWon⟩
  | 16 => some ⟨[.lend 1, .lend 1], SWon⟩
  | 12 => some ⟨[.lend 1, .asis, .asis], sbIn SChange⟩
  | 13 => some ⟨[.lend 1, .asis, .asis], sbIn SChange⟩
  | 21 => some ⟨[.lend 1], SqBytes⟩
  | 19 => some ⟨[.lend 1], SqRead⟩
  | 18 => some ⟨[.lend 1, .lend 1, .lend 1], SMeet⟩
  | 17 => some ⟨[.lend 1, .lend 1], SsameK .i64⟩
  | 20 => some ⟨[.lend 1, .lend 1], SsameK .u8⟩
  | _ => none
noncomputable def XAw : CallT := callS Try.prog awS noT 10
def lawS : FuncId → Option Known
  | 7 => some ⟨[], Sawake⟩
  | f => awS f
/-- What each has: of the first i members. -/
def hv (have' : List Int) (i : Nat) : Int := have'.getD i 0
def allM (l h : List Int) : Nat → ML
  | 0 => []
  | i + 1 => if i < h.length then mset (allM l h i) [gI l i] [dn .i64 (gI h i)] else allM l h i
abbrev teLI (l y h : List Int) (add : Bool) (id : Int) : LI where
  α := {i : Nat // i ≤ l.length}
  live := [0, 1, 2, 3, 4, 11, 12, 13]
  nils := [.slot 6 3 1]
  st i := ([.dat (.sl 1 (ints .i64 l)), .dat (.sl 1 (ints .i64 y)), .dat (.sl 1 (ints .i64 h)), .sb add, .int .i64 id, .mp 0, .sl 1 0 i.1, .int .i64 (i.1 : Int)],
    [.mp [.i64] false false 1 (allM l h i.1), .row 3 1 (ints .i64 ((List.range i.1).map (gI h)))])
  μ i := l.length - i.1
def upM (h : List Int) : Nat → ML
  | 0 => []
  | i + 1 => mset (upM h i) [(i : Int)] [dn .i64 (gI h i)]
def leastI (h : List Int) : Nat → Int
  | 0 => 1048576
  | i + 1 => if gI h i < leastI h i then gI h i else leastI h i
abbrev riseLI (n : Int) (h : List Int) (who more : Int) (k : Nat) : LI where
  α := {i : Nat // i ≤ k}
  live := [1, 2, 3, 9, 10, 11, 12, 13]
  nils := [.slot 4 3 1]
  st i := ([.dat (.sl 1 (ints .u16 h)), .int .u8 who, .int .u8 more, .int .i64 (k : Int), .sl 0 0 i.1, .mp 1, .int .i64 (leastI h i.1), .int .i64 (i.1 : Int)],
    [.row 3 1 (ints .i64 ((List.range i.1).map (fun (j : Nat) => (j : Int)))), .mp [.i64] false false 1 (upM h i.1)])
  μ i := k - i.1
abbrev teCut (l y h : List Int) (add : Bool) (id : Int) : LI where
  α := {w : Int // (RightL l → MajV ((List.range l.length).map (gI h)) w) ∧ (¬ RightL l → w = 0)}
  live := [0, 1, 3, 4, 11, 15]
  st w := ([.dat (.sl 1 (ints .i64 l)), .dat (.sl 1 (ints .i64 y)), .sb add, .int .i64 id, .mp 0, .int .i64 w.1], [.mp [.i64] false false 1 (allM l h l.length)])
  μ w := 0
def WonP (l y : List Int) : Prop := RightL l ∧ l.length < 2 * cnt l y
def MeetP (l a b : List Int) : Prop := ∃ x ∈ l, x ∈ a ∧ x ∈ b
structure LmInv (l a b : List Int) (add : Bool) (id : Int) (p : List Int × List Int × Int) : Prop where
  w : WonP l a
  m : WonP l b → MeetP l a b
  c : ChP l add id p.1 p.2.2
  l1 : l.length ≤ 20
  l2 : a.length ≤ 20
  l3 : b.length ≤ 20
abbrev lmCut (l a b : List Int) (add : Bool) (id : Int) : LI where
  α := {p : List Int × List Int × Int // LmInv l a b add id p}
  live := [0, 1, 2, 11, 12]
  st p := ([.dat (.sl 1 (ints .i64 l)), .dat (.sl 1 (ints .i64 a)), .dat (.sl 1 (ints .i64 b)), .sl 0 0 p.1.1.length, .int .i64 p.1.2.2], [.row 3 1 (ints .i64 (p.1.1 ++ p.1.2.1))])
  μ p := 0
abbrev lbCut (l : List Int) (id : Int) (n : Nat) : LI where
  α := {q : Nat // q = 0 ∧ l.length ≤ 20 ∧ (n = 1 → RightL l)}
  live := [0, 2]
  st q := ([.dat (.sl 1 (ints .i64 l)), .int .i64 id], [])
  μ q := 0
def laT (l y h : List Int) (add : Bool) (id n who more : Int) (k : Nat) : FuncId → Nat → Option LI
  | 4, 6 => some (teLI l y h add id)
  | 4, 1016 => some (teCut l y h add id)
  | 5, 1006 => some (lmCut l y h add id)
  | 6, 1006 => some (lbCut l id 0)
  | 6, 1011 => some (lbCut l id 1)
  | 3, 8 => some (riseLI n h who more k)
  | _, _ => none
noncomputable def XL (l y h : List Int) (add : Bool) (id n who more : Int) (k : Nat) : CallT := callS Try.prog lawS (laT l y h add id n who more k) 10
theorem vcAwake  (K : V → KB → Prop) (hvc_ :
 (3 ≤ 3 ∧ True) ∧
 ∃ (l : List Int),
 [[D.val (Value.int IntKind.i64 0)], [D.val (Value.int IntKind.i64 1)], [D.val (Value.int IntKind.i64 2)]] = ints IntKind.i64 l ∧
 Sm1 l ∧
 OkM (mset (mset (mset [] [0] [D.val (Value.int IntKind.i64 5)]) [1] [D.val (Value.int IntKind.i64 3)]) [2] [D.val (Value.int IntKind.i64 4)]) ∧
 ∀ (v : Int),
 IdxP l (mset (mset (mset [] [0] [D.val (Value.int IntKind.i64 5)]) [1] [D.val (Value.int IntKind.i64 3)]) [2] [D.val (Value.int IntKind.i64 4)]) v →
 PlainS [D.val (Value.int IntKind.i64 5), D.val (Value.int IntKind.i64 3), D.val (Value.int IntKind.i64 4)] ∧
 ((v == 4) = true → I64 3 ∧ (true = true → (1 ≤ 1 ∧ True) ∧ ∃ (o : List Int), [[D.val (Value.int IntKind.i64 0)]] = ints IntKind.i64 o ∧ Sm1 o ∧ ∀ (b : Bool), (b = true ↔ RightL o) → True ∧ K (V.sb b) []) ∧ (true = false → K (V.sb false) [])) ∧ ((v == 4) = false → K (V.sb false) [])
 ) : runSpec Try.prog XAw (noT 7) 7 [] [] K := Eq.mp (by kernel_rfl) hvc_
theorem vcTells (l y h : List Int) (add : Bool) (id : Int)  (hvc_ :
 (decide ((↑(ints IntKind.i64 l).length : Int) > 20) = true → true = true) ∧
 (decide ((↑(ints IntKind.i64 l).length : Int) > 20) = false →
 (decide ((↑(ints IntKind.i64 y).length : Int) > 20) = true → true = true) ∧
 (decide ((↑(ints IntKind.i64 y).length : Int) > 20) = false →
 (decide ((↑(ints IntKind.i64 h).length : Int) > 20) = true → true = true) ∧
 (decide ((↑(ints IntKind.i64 h).length : Int) > 20) = false →
 At (teLI l y h add id) ([V.dat (D.sl 1 (ints IntKind.i64 l)), V.dat (D.sl 1 (ints IntKind.i64 y)), V.dat (D.sl 1 (ints IntKind.i64 h)), V.sb add, V.int IntKind.i64 id, V.mp 0, V.sl 1 0 0, V.int IntKind.i64 0], [KO.mp [IntKind.i64] false false 1 [], KO.row 3 1 []]) ∧
 ∀ (i : { i : Nat // i ≤ l.length }),
 (decide ((↑i.val : Int) < (↑(ints IntKind.i64 l).length : Int)) = true →
 (decide ((↑i.val : Int) < (↑(ints IntKind.i64 h).length : Int)) = true →
 NonN (↑i.val : Int) ∧
 ∃ (e : List D),
 (ints IntKind.i64 h)[(↑i.val : Int).toNat]? = some e ∧
 ∃ (n : Int),
 e[0]? = some (D.val (Value.int IntKind.i64 n)) ∧
 NonN (↑i.val : Int) ∧
 ∃ (e : List D),
 (ints IntKind.i64 l)[(↑i.val : Int).toNat]? = some e ∧
 ∃ (n_1 : Int),
 e[0]? = some (D.val (Value.int IntKind.i64 n_1)) ∧
 1 ≤ 1 ∧
 i.val ≤ (ints IntKind.i64 (List.map (gI h) (List.range i.val))).length ∧
 (i.val + 1) * 8 ≤ 140737488355328 ∧
 Nx (teLI l y h add id) i
 ([V.dat (D.sl 1 (ints IntKind.i64 l)), V.dat (D.sl 1 (ints IntKind.i64 y)), V.dat (D.sl 1 (ints IntKind.i64 h)), V.sb add, V.int IntKind.i64 id, V.mp 0, V.sl 1 0 (i.val + 1), V.int IntKind.i64 (IntKind.i64.wrap ((↑i.val : Int) + 1))],
 [KO.mp [IntKind.i64] false false 1 (mset (allM l h i.val) [n_1] [D.val (Value.int IntKind.i64 n)]), KO.row 3 1 (List.take i.val (ints IntKind.i64 (List.map (gI h) (List.range i.val))) ++ [[D.val (Value.int IntKind.i64 n)]])])) ∧
 (decide ((↑i.val : Int) < (↑(ints IntKind.i64 h).length : Int)) = false →
 1 ≤ 1 ∧
 i.val ≤ (ints IntKind.i64 (List.map (gI h) (List.range i.val))).length ∧
 (i.val + 1) * 8 ≤ 140737488355328 ∧
 Nx (teLI l y h add id) i
 ([V.dat (D.sl 1 (ints IntKind.i64 l)), V.dat (D.sl 1 (ints IntKind.i64 y)), V.dat (D.sl 1 (ints IntKind.i64 h)), V.sb add, V.int IntKind.i64 id, V.mp 0, V.sl 1 0 (i.val + 1), V.int IntKind.i64 (IntKind.i64.wrap ((↑i.val : Int) + 1))],
 [KO.mp [IntKind.i64] false false 1 (allM l h i.val), KO.row 3 1 (List.take i.val (ints IntKind.i64 (List.map (gI h) (List.range i.val))) ++ [[D.val (Value.int IntKind.i64 0)]])]))) ∧
 (decide ((↑i.val : Int) < (↑(ints IntKind.i64 l).length : Int)) = false →
 (∃ (o : List Int),
 ints IntKind.i64 l = ints IntKind.i64 o ∧
 Sm1 o ∧
 ∀ (b : Bool),
 (b = true ↔ RightL o) →
 (b = true →
 (i.val ≤ (ints IntKind.i64 (List.map (gI h) (List.range i.val))).length ∧ True) ∧
 ∃ (a : List Int),
 List.drop 0 (List.take i.val (ints IntKind.i64 (List.map (gI h) (List.range i.val)))) = ints IntKind.i64 a ∧
 Sm1 a ∧ ∀ (v : Int), (a ≠ [] → MajV a v) → True ∧ At (teCut l y h add id) ([V.dat (D.sl 1 (ints IntKind.i64 l)), V.dat (D.sl 1 (ints IntKind.i64 y)), V.sb add, V.int IntKind.i64 id, V.mp 0, V.int IntKind.i64 v], [KO.mp [IntKind.i64] false false 1 (allM l h i.val)])) ∧
 (b = false → At (teCut l y h add id) ([V.dat (D.sl 1 (ints IntKind.i64 l)), V.dat (D.sl 1 (ints IntKind.i64 y)), V.sb add, V.int IntKind.i64 id, V.mp 0, V.int IntKind.i64 0], [KO.mp [IntKind.i64] false false 1 (allM l h i.val)]))) ∧
 ∀ (i : { w : Int // (RightL l → MajV (List.map (gI h) (List.range l.length)) w) ∧ (¬RightL l → w = 0) }),
 ∃ (l_1 : List Int),
 ints IntKind.i64 l = ints IntKind.i64 l_1 ∧
 Sm1 l_1 ∧
 ∀ (r t : List Int) (e : Int),
 ChP l_1 add id r e →
 ∃ (l_2 : List Int),
 ints IntKind.i64 l = ints IntKind.i64 l_2 ∧
 Sm1 l_2 ∧
 ∀ (r_1 t_1 : List Int) (e_1 : Int),
 ChP l_2 add id r_1 e_1 →
 ∃ (o : List Int),
 ints IntKind.i64 l = ints IntKind.i64 o ∧
 Sm1 o ∧
 ∀ (b : Bool),
 (b = true ↔ RightL o) →
 ∃ (o : List Int),
 ints IntKind.i64 l = ints IntKind.i64 o ∧
 Sm1 o ∧
 ∀ (b_1 : Bool),
 (b_1 = true ↔ RightL o) →
 ((b == b_1) = true →
 ∃ (l_3 : List Int),
 ∃ (y_1 : List Int),
 ints IntKind.i64 l = ints IntKind.i64 l_3 ∧
 ints IntKind.i64 y = ints IntKind.i64 y_1 ∧
 Sm1 l_3 ∧
 Sm1 y_1 ∧
 ∀ (b : Bool),
 (b = true ↔ RightL l_3 ∧ l_3.length < 2 * cnt l_3 y_1) →
 ∃ (l_4 : List Int),
 ∃ (y_2 : List Int),
 ints IntKind.i64 l = ints IntKind.i64 l_4 ∧
 ints IntKind.i64 y = ints IntKind.i64 y_2 ∧
 Sm1 l_4 ∧
 Sm1 y_2 ∧
 ∀ (b_2 : Bool),
 (b_2 = true ↔ RightL l_4 ∧ l_4.length < 2 * cnt l_4 y_2) →
 ((b == b_2) = true →
 ∃ (l_5 : List Int),
 ints IntKind.i64 l = ints IntKind.i64 l_5 ∧
 Sm1 l_5 ∧
 OkM (allM l h l.length) ∧
 ∀ (v : Int),
 IdxP l_5 (allM l h l.length) v →
 ((v == i.val) = true →
 ((e == e_1) = true →
 (r.length ≤ (ints IntKind.i64 (r ++ t)).length ∧ r_1.length ≤ (ints IntKind.i64 (r_1 ++ t_1)).length ∧ True) ∧
 ∃ (a : List Int),
 ∃ (b : List Int),
 List.drop 0 (List.take r.length (ints IntKind.i64 (r ++ t))) = ints IntKind.i64 a ∧
 List.drop 0 (List.take r_1.length (ints IntKind.i64 (r_1 ++ t_1))) = ints IntKind.i64 b ∧ a.length.le 1000000 ∧ True ∧ (decide (a = b) = true → true = true) ∧ (decide (a = b) = false → False)) ∧
 ((e == e_1) = false → False)) ∧
 ((v == i.val) = false → False)) ∧
 ((b == b_2) = false → False)) ∧
 ((b == b_1) = false → False)))))
 ) : XL l y h add id 0 0 0 0 4 [.dat (.sl 1 (ints .i64 l)), .dat (.sl 1 (ints .i64 y)), .dat (.sl 1 (ints .i64 h)), .sb add, .int .i64 id] [] KT := Eq.mp (by kernel_rfl) hvc_
theorem vcLMeet (l a b : List Int) (add : Bool) (id : Int)  (hvc_ :
 (decide ((↑(ints IntKind.i64 l).length : Int) > 20) = true → true = true) ∧
 (decide ((↑(ints IntKind.i64 l).length : Int) > 20) = false →
 (decide ((↑(ints IntKind.i64 a).length : Int) > 20) = true → true = true) ∧
 (decide ((↑(ints IntKind.i64 a).length : Int) > 20) = false →
 (decide ((↑(ints IntKind.i64 b).length : Int) > 20) = true → true = true) ∧
 (decide ((↑(ints IntKind.i64 b).length : Int) > 20) = false →
 ∃ (l_1 : List Int),
 ∃ (y : List Int),
 ints IntKind.i64 l = ints IntKind.i64 l_1 ∧
 ints IntKind.i64 a = ints IntKind.i64 y ∧
 Sm1 l_1 ∧
 Sm1 y ∧
 ∀ (b_1 : Bool),
 (b_1 = true ↔ RightL l_1 ∧ l_1.length < 2 * cnt l_1 y) →
 ((!b_1) = true → true = true) ∧
 ((!b_1) = false →
 ∃ (l_2 : List Int),
 ints IntKind.i64 l = ints IntKind.i64 l_2 ∧
 Sm1 l_2 ∧
 ∀ (r t : List Int) (e : Int),
 ChP l_2 add id r e →
 (∃ (l_3 : List Int),
 ∃ (y : List Int),
 ints IntKind.i64 l = ints IntKind.i64 l_3 ∧
 ints IntKind.i64 b = ints IntKind.i64 y ∧
 Sm1 l_3 ∧
 Sm1 y ∧
 ∀ (b_2 : Bool),
 (b_2 = true ↔ RightL l_3 ∧ l_3.length < 2 * cnt l_3 y) →
 (b_2 = true →
 ∃ (l_4 : List Int),
 ∃ (a_9 : List Int),
 ∃ (b_3 : List Int),
 ints IntKind.i64 l = ints IntKind.i64 l_4 ∧
 ints IntKind.i64 a = ints IntKind.i64 a_9 ∧
 ints IntKind.i64 b = ints IntKind.i64 b_3 ∧
 Sm1 l_4 ∧
 Sm1 a_9 ∧
 Sm1 b_3 ∧
 ∀ (q : Bool),
 (q = true ↔ ∃ (x : Int), x ∈ l_4 ∧ x ∈ a_9 ∧ x ∈ b_3) →
 ((!q) = true → False) ∧ ((!q) = false → At (lmCut l a b add id) ([V.dat (D.sl 1 (ints IntKind.i64 l)), V.dat (D.sl 1 (ints IntKind.i64 a)), V.dat (D.sl 1 (ints IntKind.i64 b)), V.sl 0 0 r.length, V.int IntKind.i64 e], [KO.row 3 1 (ints IntKind.i64 (r ++ t))]))) ∧
 (b_2 = false → At (lmCut l a b add id) ([V.dat (D.sl 1 (ints IntKind.i64 l)), V.dat (D.sl 1 (ints IntKind.i64 a)), V.dat (D.sl 1 (ints IntKind.i64 b)), V.sl 0 0 r.length, V.int IntKind.i64 e], [KO.row 3 1 (ints IntKind.i64 (r ++ t))]))) ∧
 ∀ (i : { p : List Int × List Int × Int // LmInv l a b add id p }),
 ((i.val.snd.snd != 0) = true → true = true) ∧
 ((i.val.snd.snd != 0) = false →
 (i.val.fst.length ≤ (ints IntKind.i64 (i.val.fst ++ i.val.snd.fst)).length ∧ True ∧ True) ∧
 ∃ (l_3 : List Int),
 ∃ (y : List Int),
 List.drop 0 (List.take i.val.fst.length (ints IntKind.i64 (i.val.fst ++ i.val.snd.fst))) = ints IntKind.i64 l_3 ∧
 ints IntKind.i64 b = ints IntKind.i64 y ∧
 Sm1 l_3 ∧
 Sm1 y ∧
 ∀ (b_2 : Bool),
 (b_2 = true ↔ RightL l_3 ∧ l_3.length < 2 * cnt l_3 y) →
 True ∧
 ((!b_2) = true → true = true) ∧
 ((!b_2) = false →
 ∃ (l_4 : List Int),
 ∃ (a_10 : List Int),
 ∃ (b_3 : List Int),
 ints IntKind.i64 l = ints IntKind.i64 l_4 ∧
 ints IntKind.i64 a = ints IntKind.i64 a_10 ∧
 ints IntKind.i64 b = ints IntKind.i64 b_3 ∧
 Sm1 l_4 ∧
 Sm1 a_10 ∧
 Sm1 b_3 ∧
 ∀ (q : Bool),
 (q = true ↔ ∃ (x : Int), x ∈ l_4 ∧ x ∈ a_10 ∧ x ∈ b_3) →
 (q = true →
 (i.val.fst.length ≤ (ints IntKind.i64 (i.val.fst ++ i.val.snd.fst)).length ∧ True ∧ True ∧ True) ∧
 ∃ (l_5 : List Int),
 ∃ (a_13 : List Int),
 ∃ (b_4 : List Int),
 List.drop 0 (List.take i.val.fst.length (ints IntKind.i64 (i.val.fst ++ i.val.snd.fst))) = ints IntKind.i64 l_5 ∧
 ints IntKind.i64 a = ints IntKind.i64 a_13 ∧ ints IntKind.i64 b = ints IntKind.i64 b_4 ∧ Sm1 l_5 ∧ Sm1 a_13 ∧ Sm1 b_4 ∧ ∀ (q : Bool), (q = true ↔ ∃ (x : Int), x ∈ l_5 ∧ x ∈ a_13 ∧ x ∈ b_4) → True ∧ (q = true → true = true) ∧ (q = false → False)) ∧
 (q = false → False)))))))
 ) : XL l a b add id 0 0 0 0 5 [.dat (.sl 1 (ints .i64 l)), .dat (.sl 1 (ints .i64 a)), .dat (.sl 1 (ints .i64 b)), .sb add, .int .i64 id] [] KT := Eq.mp (by kernel_rfl) hvc_
theorem vcLBytes (l b : List Int) (id : Int)  (hvc_ :
 (decide ((↑(ints IntKind.i64 l).length : Int) > 20) = true → true = true) ∧
 (decide ((↑(ints IntKind.i64 l).length : Int) > 20) = false →
 (decide ((↑(ints IntKind.u8 b).length : Int) > 20) = true → true = true) ∧
 (decide ((↑(ints IntKind.u8 b).length : Int) > 20) = false →
 ∃ (b_1 : List Int),
 ints IntKind.u8 b = ints IntKind.u8 b_1 ∧
 (∀ (c : Int), List.Mem c b_1 → 0 ≤ c ∧ c < 256) ∧
 b_1.length ≤ 1000 ∧
 ∀ (q : Bool) (o : List Int),
 RdP b_1 q o →
 (((!q == decide ((↑(o.length - 0) : Int) > 0)) = true → False) ∧
 ((!q == decide ((↑(o.length - 0) : Int) > 0)) = false →
 (q = true →
 (o.length ≤ (ints IntKind.i64 o).length ∧ True) ∧
 ∃ (o_1 : List Int),
 List.drop 0 (List.take o.length (ints IntKind.i64 o)) = ints IntKind.i64 o_1 ∧
 Sm1 o_1 ∧
 ∀ (b_2 : Bool),
 (b_2 = true ↔ RightL o_1) →
 True ∧
 ((!b_2) = true → False) ∧
 ((!b_2) = false →
 (o.length ≤ (ints IntKind.i64 o).length ∧ True) ∧
 ∃ (l_1 : List Int),
 List.drop 0 (List.take o.length (ints IntKind.i64 o)) = ints IntKind.i64 l_1 ∧
 l_1.length ≤ 100 ∧
 (∀ (x : Int), List.Mem x l_1 → x ≤ 9223372036854775807) ∧
 PlainS (ints IntKind.u8 (qW l_1)).flatten ∧
 ((qW l_1).length ≤ (ints IntKind.u8 (qW l_1)).length ∧ True ∧ True) ∧
 ∃ (a : List Int),
 ∃ (b_3 : List Int),
 List.drop 0 (List.take (qW l_1).length (ints IntKind.u8 (qW l_1))) = ints IntKind.u8 a ∧ ints IntKind.u8 b = ints IntKind.u8 b_3 ∧ a.length.le 1000000 ∧ True ∧ ((!decide (a = b_3)) = true → False) ∧ ((!decide (a = b_3)) = false → At (lbCut l id 0) ([V.dat (D.sl 1 (ints IntKind.i64 l)), V.int IntKind.i64 id], [])))) ∧
 (q = false → At (lbCut l id 0) ([V.dat (D.sl 1 (ints IntKind.i64 l)), V.int IntKind.i64 id], [])))) ∧
 ∀ (i : { q : Nat // q = 0 ∧ l.length ≤ 20 ∧ (0 = 1 → RightL l) }),
 ∃ (o : List Int),
 ints IntKind.i64 l = ints IntKind.i64 o ∧
 Sm1 o ∧
 ∀ (b : Bool),
 (b = true ↔ RightL o) →
 ((!b) = true → true = true) ∧
 ((!b) = false →
 ∃ (l_1 : List Int),
 ints IntKind.i64 l = ints IntKind.i64 l_1 ∧
 l_1.length ≤ 100 ∧
 (∀ (x : Int), List.Mem x l_1 → x ≤ 9223372036854775807) ∧
 ((qW l_1).length ≤ (ints IntKind.u8 (qW l_1)).length ∧ True) ∧
 ∃ (b : List Int),
 List.drop 0 (List.take (qW l_1).length (ints IntKind.u8 (qW l_1))) = ints IntKind.u8 b ∧
 (∀ (c : Int), List.Mem c b → 0 ≤ c ∧ c < 256) ∧
 b.length ≤ 1000 ∧
 ∀ (q : Bool) (o : List Int),
 RdP b q o →
 PlainS (ints IntKind.i64 o).flatten ∧
 (((!q) = true → False) ∧
 ((!q) = false →
 (o.length ≤ (ints IntKind.i64 o).length ∧ True ∧ True) ∧
 ∃ (a : List Int),
 ∃ (b : List Int), List.drop 0 (List.take o.length (ints IntKind.i64 o)) = ints IntKind.i64 a ∧ ints IntKind.i64 l = ints IntKind.i64 b ∧ a.length.le 1000000 ∧ True ∧ ((!decide (a = b)) = true → False) ∧ ((!decide (a = b)) = false → At (lbCut l id 1) ([V.dat (D.sl 1 (ints IntKind.i64 l)), V.int IntKind.i64 id], [])))) ∧
 ∀ (i : { q : Nat // q = 0 ∧ l.length ≤ 20 ∧ (1 = 1 → RightL l) }),
 ∃ (l_2 : List Int),
 ints IntKind.i64 l = ints IntKind.i64 l_2 ∧
 Sm1 l_2 ∧
 ∀ (r t : List Int) (e : Int),
 ChP l_2 true id r e →
 ((e != 0) = true → true = true) ∧
 ((e != 0) = false →
 (r.length ≤ (ints IntKind.i64 (r ++ t)).length ∧ True) ∧
 ∃ (l_3 : List Int),
 List.drop 0 (List.take r.length (ints IntKind.i64 (r ++ t))) = ints IntKind.i64 l_3 ∧
 Sm1 l_3 ∧
 ∀ (r t : List Int) (e : Int),
 ChP l_3 false id r e →
 PlainS (ints IntKind.i64 (r ++ t)).flatten ∧
 ((e == 0) = true →
 (r.length ≤ (ints IntKind.i64 (r ++ t)).length ∧ True ∧ True) ∧
 ∃ (a : List Int), ∃ (b : List Int), List.drop 0 (List.take r.length (ints IntKind.i64 (r ++ t))) = ints IntKind.i64 a ∧ ints IntKind.i64 l = ints IntKind.i64 b ∧ a.length.le 1000000 ∧ True ∧ (decide (a = b) = true → true = true) ∧ (decide (a = b) = false → False)) ∧
 ((e == 0) = false → False)))))
 ) : XL l [] [] true id 0 0 0 0 6 [.dat (.sl 1 (ints .i64 l)), .dat (.sl 1 (ints .u8 b)), .int .i64 id] [] KT := Eq.mp (by kernel_rfl) hvc_
theorem vcRises (n : Int) (h : List Int) (who more : Int) (k : Nat)  (hvc_ :
 (decide ((↑(ints IntKind.u16 h).length : Int) < IntKind.i64.wrap (1 + (IntKind.i64.wrap n).tmod 7)) = true → true = true) ∧
 (decide ((↑(ints IntKind.u16 h).length : Int) < IntKind.i64.wrap (1 + (IntKind.i64.wrap n).tmod 7)) = false →
 (decide ((↑(ints IntKind.u16 h).length : Int) > 20) = true → true = true) ∧
 (decide ((↑(ints IntKind.u16 h).length : Int) > 20) = false →
 At (riseLI n h who more k) ([V.dat (D.sl 1 (ints IntKind.u16 h)), V.int IntKind.u8 who, V.int IntKind.u8 more, V.int IntKind.i64 (IntKind.i64.wrap (1 + (IntKind.i64.wrap n).tmod 7)), V.sl 0 0 0, V.mp 1, V.int IntKind.i64 1048576, V.int IntKind.i64 0], [KO.row 3 1 [], KO.mp [IntKind.i64] false false 1 []]) ∧
 ∀ (i : { i : Nat // i ≤ k }),
 (decide ((↑i.val : Int) < (↑k : Int)) = true →
 1 ≤ 1 ∧
 i.val ≤ (ints IntKind.i64 (List.map (fun (j : Nat) => (↑j : Int)) (List.range i.val))).length ∧
 (i.val + 1) * 8 ≤ 140737488355328 ∧
 NonN (↑i.val : Int) ∧
 ∃ (e : List D),
 (ints IntKind.u16 h)[(↑i.val : Int).toNat]? = some e ∧
 ∃ (n_1 : Int),
 e[0]? = some (D.val (Value.int IntKind.u16 n_1)) ∧
 NonN (↑i.val : Int) ∧
 ∃ (e : List D),
 (ints IntKind.u16 h)[(↑i.val : Int).toNat]? = some e ∧
 ∃ (n_2 : Int),
 e[0]? = some (D.val (Value.int IntKind.u16 n_2)) ∧
 Nx (riseLI n h who more k) i
 ([V.dat (D.sl 1 (ints IntKind.u16 h)), V.int IntKind.u8 who, V.int IntKind.u8 more, V.int IntKind.i64 (↑k : Int), V.sl 0 0 (i.val + 1), V.mp 1, V.int IntKind.i64 (if IntKind.i64.wrap n_2 < leastI h i.val then IntKind.i64.wrap n_2 else leastI h i.val), V.int IntKind.i64 (IntKind.i64.wrap ((↑i.val : Int) + 1))],
 [KO.row 3 1 (List.take i.val (ints IntKind.i64 (List.map (fun (j : Nat) => (↑j : Int)) (List.range i.val))) ++ [[D.val (Value.int IntKind.i64 (↑i.val : Int))]]), KO.mp [IntKind.i64] false false 1 (mset (upM h i.val) [(↑i.val : Int)] [D.val (Value.int IntKind.i64 (IntKind.i64.wrap n_1))])])) ∧
 (decide ((↑i.val : Int) < (↑k : Int)) = false →
 (i.val ≤ (ints IntKind.i64 (List.map (fun (j : Nat) => (↑j : Int)) (List.range i.val))).length ∧ True) ∧
 ∃ (l : List Int),
 List.drop 0 (List.take i.val (ints IntKind.i64 (List.map (fun (j : Nat) => (↑j : Int)) (List.range i.val)))) = ints IntKind.i64 l ∧
 Sm1 l ∧
 OkM (upM h i.val) ∧
 ∀ (v : Int),
 IdxP l (upM h i.val) v →
 PlainS (List.map (fun (x : List Int × List D) => x.snd) (upM h i.val)).flatten ∧
 ((↑k : Int) = 0 → False) ∧
 (∀ (cs : List D), mget (upM h i.val) [(IntKind.i64.wrap who).tmod (↑k : Int)] = some cs → ConfK [CK.int IntKind.i64] cs) ∧
 (decide (v ≥ leastI h i.val) = true →
 (i.val ≤ (ints IntKind.i64 (List.map (fun (j : Nat) => (↑j : Int)) (List.range i.val))).length ∧ True) ∧
 ∃ (l : List Int),
 List.drop 0 (List.take i.val (ints IntKind.i64 (List.map (fun (j : Nat) => (↑j : Int)) (List.range i.val)))) = ints IntKind.i64 l ∧
 Sm1 l ∧
 OkM (mset (upM h i.val) [(IntKind.i64.wrap who).tmod (↑k : Int)] [D.val (Value.int IntKind.i64 (IntKind.i64.wrap (mgetI (upM h i.val) [(IntKind.i64.wrap who).tmod (↑k : Int)] 0 + IntKind.i64.wrap more)))]) ∧
 ∀ (v_1 : Int),
 IdxP l (mset (upM h i.val) [(IntKind.i64.wrap who).tmod (↑k : Int)] [D.val (Value.int IntKind.i64 (IntKind.i64.wrap (mgetI (upM h i.val) [(IntKind.i64.wrap who).tmod (↑k : Int)] 0 + IntKind.i64.wrap more)))]) v_1 →
 PlainS (List.map (fun (x : List Int × List D) => x.snd) (mset (upM h i.val) [(IntKind.i64.wrap who).tmod (↑k : Int)] [D.val (Value.int IntKind.i64 (IntKind.i64.wrap (mgetI (upM h i.val) [(IntKind.i64.wrap who).tmod (↑k : Int)] 0 + IntKind.i64.wrap more)))])).flatten ∧
 (decide (v_1 ≥ v) = true →
 I64 (↑k : Int) ∧
 (decide (IntKind.i64.wrap (2 * majI (↑k : Int)) > (↑k : Int)) = true → I64 (↑k : Int) ∧ (decide (IntKind.i64.wrap (2 * IntKind.i64.wrap (majI (↑k : Int) - 1)) ≤ (↑k : Int)) = true → true = true) ∧ (decide (IntKind.i64.wrap (2 * IntKind.i64.wrap (majI (↑k : Int) - 1)) ≤ (↑k : Int)) = false → False)) ∧
 (decide (IntKind.i64.wrap (2 * majI (↑k : Int)) > (↑k : Int)) = false → False)) ∧
 (decide (v_1 ≥ v) = false → False)) ∧
 (decide (v ≥ leastI h i.val) = false → False))))
 ) : XL [] [] h true 0 n who more k 3 [.int .u8 n, .dat (.sl 1 (ints .u16 h)), .int .u8 who, .int .u8 more] [] KT := Eq.mp (by kernel_rfl) hvc_
theorem awS_ok : AllOk Try.prog awS := fun f k h => by
  unfold awS at h
  split at h <;> first | (cases h; first | exact okIndex | exact okMaj | exact okRight | exact okRefRight | exact okRefIndex | exact okWon | exact okRefWon | exact sbIn_ok okChange | exact sbIn_ok okRefChange | exact okQBytes | exact okQRead | exact okMeet | exact okSameInts | exact okSame) | cases h
theorem XAw_ok : CallOk Try.prog XAw := callS_ok mixed awS_ok noT 10
theorem mget_mem : ∀ {M : ML} {k : List Int} {c : List D}, mget M k = some c → (k, c) ∈ M
  | [], k, c, h => by simp [mget] at h
  | (a, x) :: M, k, c, h => by
    simp only [mget] at h
    split at h
    · rename_i e; subst e; cases h; exact List.mem_cons_self
    · exact List.mem_cons_of_mem _ (mget_mem h)
theorem mset_mem : ∀ {M : ML} {k : List Int} {c : List D} {e : List Int × List D}, e ∈ mset M k c → e ∈ M ∨ e = (k, c)
  | [], k, c, e, h => by simp [mset] at h; exact .inr h
  | (a, x) :: M, k, c, e, h => by
    simp only [mset] at h
    split at h
    · rename_i q; subst q
      rcases List.mem_cons.1 h with h | h
      · exact .inr h
      · exact .inl (List.mem_cons_of_mem _ h)
    · rcases List.mem_cons.1 h with h | h
      · exact .inl (h ▸ List.mem_cons_self)
      · rcases mset_mem h with h | h
        · exact .inl (List.mem_cons_of_mem _ h)
        · exact .inr h
theorem mget_mset {M : ML} {k k' : List Int} {c : List D} : mget (mset M k c) k' = if k' = k then some c else mget M k' := by
  induction M with
  | nil => simp [mset, mget]
  | cons e M ih =>
    obtain ⟨a, x⟩ := e
    simp only [mset]
    by_cases h : k = a
    · subst h
      simp only [if_pos rfl, mget]
      by_cases h2 : k' = k
      · simp [h2, mget]
      · simp [h2, mget]
    · rw [if_neg h]
      simp only [mget]
      by_cases h2 : k' = a
      · subst h2
        rw [if_pos rfl, if_pos rfl, if_neg (Ne.symm h)]
      · rw [if_neg h2, if_neg h2, ih]
def EntI (M : ML) : Prop := ∀ e ∈ M, ∃ n, e.2 = [dn .i64 n]
theorem EntI.nil : EntI [] := fun e he => by cases he
theorem EntI.set {M : ML} (h : EntI M) (k : List Int) (n : Int) : EntI (mset M k [dn .i64 n]) := fun e he => by
  rcases mset_mem he with he | he
  · exact h e he
  · exact ⟨n, by rw [he]⟩
theorem EntI.okM {M : ML} (h : EntI M) : OkM M := ⟨fun x cs hc => by obtain ⟨n, hn⟩ := h _ (mget_mem hc); exact ⟨n, hn⟩⟩
theorem EntI.plain {M : ML} (h : EntI M) : PlainS (M.map (fun x => x.2)).flatten := ⟨fun d hd => by
  obtain ⟨l, hl, hd⟩ := List.mem_flatten.1 hd
  obtain ⟨e, he, rfl⟩ := List.mem_map.1 hl
  obtain ⟨n, hn⟩ := h e he
  rw [hn, List.mem_singleton] at hd
  subst hd; trivial⟩
theorem EntI.conf {M : ML} (h : EntI M) (k : List Int) : ∀ cs, mget M k = some cs → ConfK [CK.int .i64] cs := fun cs hc => by
  obtain ⟨n, hn⟩ := h _ (mget_mem hc)
  simp only at hn
  rw [hn]; exact ⟨n, [], rfl, rfl⟩
theorem mgetI_mset {M : ML} {k k' : List Int} {n : Int} : mgetI (mset M k [dn .i64 n]) k' 0 = if k' = k then n else mgetI M k' 0 := by
  unfold mgetI
  rw [mget_mset]
  by_cases h : k' = k
  · simp [h, iv]
  · simp [h]
theorem plainS_ints {k : IntKind} {l : List Int} : PlainS (ints k l).flatten := ⟨plain_ints⟩
theorem takeO {k : IntKind} {o t : List Int} : List.drop 0 (List.take o.length (ints k (o ++ t))) = ints k o := by
  rw [List.drop_zero, ints_take, List.take_left]
theorem takeA {k : IntKind} {o : List Int} {n : Nat} (h : n = o.length) : List.drop 0 (List.take n (ints k o)) = ints k o := by
  subst h
  rw [List.drop_zero, ints_take, List.take_length]
theorem leO {k : IntKind} {o t : List Int} : o.length ≤ (ints k (o ++ t)).length := by rw [ints_len, List.length_append]; omega
theorem nodup_len {l m : List Int} (h : l.Nodup) (hs : ∀ x ∈ l, x ∈ m) : l.length ≤ m.length := by
  induction l generalizing m with
  | nil => simp
  | cons a l ih =>
    obtain ⟨h1, h2⟩ := List.nodup_cons.1 h
    have ha := hs a List.mem_cons_self
    have := ih (m := m.erase a) h2 (fun x hx => by
      have hx2 := hs x (List.mem_cons_of_mem _ hx)
      have hne : x ≠ a := fun e => h1 (e ▸ hx)
      exact (List.mem_erase_of_ne hne).2 hx2)
    rw [List.length_erase_of_mem ha] at this
    have hpos : 0 < m.length := List.length_pos_of_mem ha
    rw [List.length_cons]; omega
theorem right_of {l : List Int} (h : l.Pairwise (fun x y => x < y)) (hb : ∀ x ∈ l, 0 ≤ x ∧ x ≤ 15) (h1 : 1 ≤ l.length) (h2 : l.length ≤ 7) : RightL l := by
  refine ⟨h1, h2, fun j hj => ?_⟩
  have := hb _ (gI_mem hj)
  refine ⟨this.1, this.2, fun h0 => ?_⟩
  have e1 := gI_get hj
  have e2 := gI_get (show j - 1 < l.length by omega)
  rw [List.getElem?_eq_getElem hj, Option.some.injEq] at e1
  rw [List.getElem?_eq_getElem (show j - 1 < l.length by omega), Option.some.injEq] at e2
  rw [← e1, ← e2]
  exact List.pairwise_iff_getElem.1 h _ _ _ _ (by omega)
theorem okAwake : SpecOk Try.prog 7 Sawake := specOk_of' XAw_ok mixed (fun args kb K h => by
  unfold Sawake at h; split at h <;> try exact h.elim
  have hE : EntI (mset (mset (mset [] [0] [dn .i64 5]) [1] [dn .i64 3]) [2] [dn .i64 4]) := ((EntI.nil.set _ _).set _ _).set _ _
  have hR : RightL [0, 1, 2] := right_of (by decide) (by decide) (by decide) (by decide)
  refine ⟨noT 7, vcAwake K ⟨⟨Nat.le_refl _, trivial⟩, [0, 1, 2], rfl, ⟨by decide⟩, hE.okM, fun v hv => ⟨⟨fun d hd => ?_⟩, fun _ => ⟨⟨by decide, by decide⟩, fun _ => ⟨⟨Nat.le_refl _, trivial⟩, [0], rfl, ⟨by decide⟩, fun b hb => ⟨trivial, ?_⟩⟩, ?_⟩, fun hne => ?_⟩⟩⟩
  · simp only [List.mem_cons, List.not_mem_nil, or_false] at hd
    rcases hd with rfl | rfl | rfl <;> trivial
  · rw [hb.2 (right_of (by decide) (by decide) (by decide) (by decide))]; exact h
  · intro f; exact absurd f (by decide)
  · have h4 : MajV [5, 3, 4] 4 := ⟨by decide, by decide, by decide⟩
    have hm : mapV (mset (mset (mset [] [0] [dn .i64 5]) [1] [dn .i64 3]) [2] [dn .i64 4]) [0, 1, 2] = [5, 3, 4] := by decide
    have := hv.yes hR
    rw [hm] at this
    rw [majV_uniq this h4] at hne
    exact absurd hne (by decide))
theorem lawS_ok : AllOk Try.prog lawS := fun f k h => by
  unfold lawS at h
  split at h
  · cases h; exact okAwake
  · exact awS_ok _ _ h
theorem XL_ok (l y h : List Int) (add : Bool) (id n who more : Int) (k : Nat) : CallOk Try.prog (XL l y h add id n who more k) := callS_ok mixed lawS_ok _ 10
theorem allM_ent (l h : List Int) : ∀ i, EntI (allM l h i)
  | 0 => EntI.nil
  | i + 1 => by
    simp only [allM]
    split
    · exact (allM_ent l h i).set _ _
    · exact allM_ent l h i
theorem allM_get {l h : List Int} (hinc : ∀ i j, i < j → j < l.length → gI l i < gI l j) : ∀ {i : Nat}, i ≤ l.length → (∀ j, j < i → mgetI (allM l h i) [gI l j] 0 = gI h j) ∧ (∀ j, i ≤ j → j < l.length → mget (allM l h i) [gI l j] = none)
  | 0, _ => ⟨fun j hj => absurd hj (Nat.not_lt_zero _), fun j _ _ => rfl⟩
  | i + 1, hi => by
    obtain ⟨h1, h2⟩ := allM_get hinc (i := i) (by omega)
    have hne : ∀ j, j < l.length → j ≠ i → ([gI l j] : List Int) ≠ [gI l i] := fun j hj hji e => by
      simp only [List.cons.injEq, and_true] at e
      rcases Nat.lt_or_gt_of_ne hji with h3 | h3
      · have := hinc j i h3 (by omega); omega
      · have := hinc i j h3 hj; omega
    simp only [allM]
    split
    · rename_i hih
      refine ⟨fun j hj => ?_, fun j hj hjl => ?_⟩
      · rw [mgetI_mset]
        by_cases hji : j = i
        · subst hji; rw [if_pos rfl]
        · rw [if_neg (hne j (by omega) hji)]; exact h1 j (by omega)
      · rw [mget_mset, if_neg (hne j hjl (by omega))]; exact h2 j (by omega) hjl
    · rename_i hih
      refine ⟨fun j hj => ?_, fun j hj hjl => h2 j (by omega) hjl⟩
      by_cases hji : j = i
      · subst hji
        unfold mgetI
        rw [h2 j (Nat.le_refl _) (by omega)]
        unfold gI
        rw [List.getD_eq_getElem?_getD, List.getElem?_eq_none (by omega)]; rfl
      · exact h1 j (by omega)
theorem right_lt {l : List Int} (h : RightL l) : ∀ i j, i < j → j < l.length → gI l i < gI l j := fun i j hij hj => by
  have := List.pairwise_iff_getElem.1 (right_inc h) i j (by omega) hj hij
  have e1 := gI_get (show i < l.length by omega)
  have e2 := gI_get hj
  rw [List.getElem?_eq_getElem (show i < l.length by omega), Option.some.injEq] at e1
  rw [List.getElem?_eq_getElem hj, Option.some.injEq] at e2
  rw [← e1, ← e2]; exact this
theorem range_gI (l : List Int) : (List.range l.length).map (gI l) = l := by
  apply List.ext_getElem?
  intro i
  rcases Nat.lt_or_ge i l.length with hi | hi
  · rw [List.getElem?_map, List.getElem?_range hi, gI_get hi]; rfl
  · rw [List.getElem?_eq_none (by simpa using hi), List.getElem?_eq_none hi]
theorem mapV_all {l h : List Int} (hr : RightL l) : mapV (allM l h l.length) l = (List.range l.length).map (gI h) := by
  have h1 := (allM_get (h := h) (right_lt hr) (Nat.le_refl l.length)).1
  unfold mapV
  conv => lhs; rw [← range_gI l]
  rw [List.map_map]
  apply List.map_congr_left
  intro j hj
  rw [range_gI]
  exact h1 j (by simpa using hj)
theorem lawTells (l y h : List Int) (add : Bool) (id : Int) : XL l y h add id 0 0 0 0 4 [.dat (.sl 1 (ints .i64 l)), .dat (.sl 1 (ints .i64 y)), .dat (.sl 1 (ints .i64 h)), .sb add, .int .i64 id] [] KT := by
  refine vcTells l y h add id ?_
  simp only [ints_len, decide_eq_true_eq, decide_eq_false_iff_not]
  refine ⟨fun _ => trivial, fun h1 => ⟨fun _ => trivial, fun h2 => ⟨fun _ => trivial, fun h3 => ⟨At.mk' ⟨0, Nat.zero_le _⟩ rfl, ?_⟩⟩⟩⟩
  rintro ⟨i, hi⟩
  dsimp only
  have hrl : ((List.range i).map (gI h)).length = i := by simp
  have snoc : ∀ z, z = gI h i → List.take i (ints .i64 ((List.range i).map (gI h))) ++ [[D.val (.int .i64 z)]] = ints .i64 ((List.range (i + 1)).map (gI h)) := fun z hz => by
    rw [List.take_of_length_le (by rw [ints_len, hrl]; exact Nat.le_refl _), List.range_succ, List.map_append, ints_app, hz]; rfl
  have e1 : i < l.length → IntKind.i64.wrap ((i : Int) + 1) = ((i + 1 : Nat) : Int) := fun hh => by rw [w64 (by omega) (by omega)]; rfl
  refine ⟨fun hc => ⟨fun hc2 => el (by omega) (el (by omega) ⟨Nat.le_refl _, by rw [hrl]; exact Nat.le_refl _, by omega, ?_⟩), fun hc2 => ⟨Nat.le_refl _, by rw [hrl]; exact Nat.le_refl _, by omega, ?_⟩⟩, fun hc => ⟨⟨l, rfl, ⟨by omega⟩, fun b hb => ⟨fun hbt => ⟨⟨by rw [hrl]; exact Nat.le_refl _, trivial⟩, (List.range i).map (gI h), takeA hrl.symm, ⟨by rw [hrl]; omega⟩, fun v hv => ⟨trivial, ?_⟩⟩, fun hbf => ?_⟩⟩, ?_⟩⟩
  · rw [snoc _ rfl, e1 (by omega)]
    refine Nx.mk' (⟨i + 1, by omega⟩ : {i : Nat // i ≤ l.length}) ?_ (by show l.length - (i + 1) < l.length - i; omega)
    show (_ : List V × KB) = _
    simp only [allM, if_pos (show i < h.length by omega)]
  · rw [snoc 0 (by unfold gI; rw [List.getD_eq_getElem?_getD, List.getElem?_eq_none (by omega)]; rfl), e1 (by omega)]
    refine Nx.mk' (⟨i + 1, by omega⟩ : {i : Nat // i ≤ l.length}) ?_ (by show l.length - (i + 1) < l.length - i; omega)
    show (_ : List V × KB) = _
    simp only [allM, if_neg (show ¬ i < h.length by omega)]
  · have : i = l.length := by omega
    subst this
    have hR := hb.1 hbt
    exact At.mk' ⟨v, fun _ => hv (fun e => by have := congrArg List.length e; rw [hrl, List.length_nil] at this; have := hR.lo; omega), fun f => absurd hR f⟩ rfl
  · have : i = l.length := by omega
    subst this
    exact At.mk' ⟨0, ⟨fun hR => (by rw [hb.2 hR] at hbf; cases hbf), fun _ => rfl⟩⟩ rfl
  rintro ⟨w, hw1, hw2⟩
  refine ⟨l, rfl, ⟨by omega⟩, fun r t e hch => ⟨l, rfl, ⟨by omega⟩, fun r' t' e' hch' => ⟨l, rfl, ⟨by omega⟩, fun b hb => ⟨l, rfl, ⟨by omega⟩, fun b' hb' => ⟨fun _ => ⟨l, y, rfl, rfl, ⟨by omega⟩, ⟨by omega⟩, fun c hc1 => ⟨l, y, rfl, rfl, ⟨by omega⟩, ⟨by omega⟩, fun c' hc2 => ⟨fun _ => ⟨l, rfl, ⟨by omega⟩, (allM_ent l h _).okM, fun v hv => ⟨fun _ => ⟨fun _ => ⟨⟨by first | exact leO | simp, by first | exact leO | simp, trivial⟩, r, r', takeO, takeO, ?_, trivial, fun _ => trivial, fun hne => ?_⟩, fun hne => ?_⟩, fun hne => ?_⟩⟩, fun hne => ?_⟩⟩⟩, fun hne => ?_⟩⟩⟩⟩⟩
  · show r.length ≤ 1000000
    by_cases h0 : e = 0
    · have hsub : ∀ x ∈ r, x ∈ id :: l := fun x hx => by
        rcases (hch.mem h0 x).1 hx with ⟨_, h4 | h4⟩ | ⟨_, h4, _⟩
        · exact List.mem_cons_of_mem _ h4
        · rw [h4]; exact List.mem_cons_self
        · exact List.mem_cons_of_mem _ h4
      have := nodup_len (inc_nodup hch.inc) hsub
      simp at this; omega
    · rw [hch.no h0]; simp
  · exact absurd (chP_uniq hch hch').1 (by simpa using hne)
  · exact absurd (chP_uniq hch hch').2 (by simpa using hne)
  · refine absurd ?_ (by simpa using hne)
    by_cases hR : RightL l
    · have := hv.yes hR
      rw [mapV_all hR] at this
      exact majV_uniq this (hw1 hR)
    · rw [hv.no hR, hw2 hR]
  · have : c = c' := Bool.eq_iff_iff.2 (hc1.trans hc2.symm)
    subst this; simp at hne
  · have : b = b' := Bool.eq_iff_iff.2 (hb.trans hb'.symm)
    subst this; simp at hne
theorem count_both (l : List Int) (p q : Int → Bool) : l.countP p + l.countP q ≤ l.length + l.countP (fun x => p x && q x) := by
  induction l with
  | nil => simp
  | cons a l ih =>
    simp only [List.countP_cons, List.length_cons]
    cases p a <;> cases q a <;> simp <;> omega
theorem meet_of {l a b : List Int} (h : l.length < cnt l a + cnt l b) : MeetP l a b := by
  unfold cnt at h
  have := count_both l (fun x => decide (x ∈ a)) (fun x => decide (x ∈ b))
  have h0 : 0 < l.countP (fun x => decide (x ∈ a) && decide (x ∈ b)) := by omega
  obtain ⟨x, hx, hp⟩ := List.countP_pos_iff.1 h0
  simp only [Bool.and_eq_true, decide_eq_true_eq] at hp
  exact ⟨x, hx, hp.1, hp.2⟩
theorem chP_perm {l : List Int} {add : Bool} {id : Int} {r : List Int} (hR : RightL l) (h : ChP l add id r 0) : (add = true ∧ r.Perm (id :: l)) ∨ (add = false ∧ l.Perm (id :: r)) := by
  have he := h.eq
  have hnl := inc_nodup (right_inc hR)
  have hnr := inc_nodup h.inc
  unfold chE at he
  split at he
  · cases he
  · split at he
    · cases he
    · rename_i h8
      split at he
      · cases he
      · rename_i h7
        cases add
        · refine .inr ⟨rfl, ?_⟩
          have hid : id ∈ l := Classical.not_not.1 fun f => h7 ⟨rfl, f⟩
          have hidr : id ∉ r := fun f => by
            rcases (h.mem rfl id).1 f with ⟨f, _⟩ | ⟨_, _, f⟩
            · cases f
            · exact f rfl
          refine (List.perm_ext_iff_of_nodup hnl (List.nodup_cons.2 ⟨hidr, hnr⟩)).2 fun x => ?_
          rw [List.mem_cons, h.mem rfl x]
          by_cases hx : x = id
          · subst hx; simp [hid]
          · simp [hx]
        · refine .inl ⟨rfl, ?_⟩
          have hid : id ∉ l := fun f => h8 ⟨rfl, f⟩
          refine (List.perm_ext_iff_of_nodup hnr (List.nodup_cons.2 ⟨hid, hnl⟩)).2 fun x => ?_
          rw [List.mem_cons, h.mem rfl x]
          simp [or_comm]
theorem cnt_cons {x : Int} {l a : List Int} : cnt (x :: l) a = cnt l a + if x ∈ a then 1 else 0 := by
  unfold cnt; simp [List.countP_cons]
theorem cnt_perm {l m a : List Int} (h : l.Perm m) : cnt l a = cnt m a := h.countP_eq _
theorem lawMeet (l a b : List Int) (add : Bool) (id : Int) : XL l a b add id 0 0 0 0 5 [.dat (.sl 1 (ints .i64 l)), .dat (.sl 1 (ints .i64 a)), .dat (.sl 1 (ints .i64 b)), .sb add, .int .i64 id] [] KT := by
  refine vcLMeet l a b add id ?_
  simp only [ints_len, decide_eq_true_eq, decide_eq_false_iff_not]
  refine ⟨fun _ => trivial, fun h1 => ⟨fun _ => trivial, fun h2 => ⟨fun _ => trivial, fun h3 => ⟨l, a, rfl, rfl, ⟨by omega⟩, ⟨by omega⟩, fun b1 hb1 => ⟨fun _ => trivial, fun hw => ⟨l, rfl, ⟨by omega⟩, fun r t e hch => ⟨⟨l, b, rfl, rfl, ⟨by omega⟩, ⟨by omega⟩, fun b2 hb2 => ⟨fun hw2 => ⟨l, a, b, rfl, rfl, rfl, ⟨by omega⟩, ⟨by omega⟩, ⟨by omega⟩, fun q hq => ⟨fun hqf => ?_, fun hqt => ?_⟩⟩, fun hw2 => ?_⟩⟩, ?_⟩⟩⟩⟩⟩⟩⟩
  · simp only [Bool.not_eq_false'] at hw
    obtain ⟨hR, hca⟩ := hb1.1 hw
    obtain ⟨_, hcb⟩ := hb2.1 hw2
    rw [hq.2 (meet_of (by omega))] at hqf; cases hqf
  · simp only [Bool.not_eq_false'] at hw hqt
    exact At.mk' ⟨(r, t, e), hb1.1 hw, fun _ => hq.1 hqt, hch, by omega, by omega, by omega⟩ rfl
  · simp only [Bool.not_eq_false'] at hw
    exact At.mk' ⟨(r, t, e), hb1.1 hw, fun hwb => (by rw [hb2.2 hwb] at hw2; cases hw2), hch, by omega, by omega, by omega⟩ rfl
  rintro ⟨⟨r, t, e⟩, hi⟩
  dsimp only
  refine ⟨fun _ => trivial, fun he => ⟨⟨by simp, trivial, trivial⟩, r, b, takeO, rfl, ?_, ⟨by omega⟩, fun b2 hb2 => ⟨trivial, fun _ => trivial, fun hw2 => ⟨l, a, b, rfl, rfl, rfl, ⟨by omega⟩, ⟨by omega⟩, ⟨by omega⟩, fun q hq => ?_⟩⟩⟩⟩
  · simp only [bne_eq_false_iff_eq] at he
    subst he
    have hsub : ∀ x ∈ r, x ∈ id :: l := fun x hx => by
      rcases (hi.c.mem rfl x).1 hx with ⟨_, h4 | h4⟩ | ⟨_, h4, _⟩
      · exact List.mem_cons_of_mem _ h4
      · rw [h4]; exact List.mem_cons_self
      · exact List.mem_cons_of_mem _ h4
    have := nodup_len (inc_nodup hi.c.inc) hsub
    simp at this
    exact ⟨by omega⟩
  · simp only [bne_eq_false_iff_eq] at he
    simp only [Bool.not_eq_false'] at hw2
    subst he
    obtain ⟨hR, hca⟩ := hi.w
    obtain ⟨hR2, hcb⟩ := hb2.1 hw2
    have hm : MeetP l a b ∧ MeetP r a b := by
      rcases chP_perm hR hi.c with ⟨_, hp⟩ | ⟨_, hp⟩
      · have h4 : cnt r b = cnt (id :: l) b := cnt_perm hp
        have h5 : r.length = (id :: l).length := hp.length_eq
        rw [cnt_cons] at h4
        rw [List.length_cons] at h5
        have hml : MeetP l a b := meet_of (by split at h4 <;> omega)
        obtain ⟨x, hx, hxa⟩ := hml
        exact ⟨⟨x, hx, hxa⟩, x, hp.mem_iff.2 (List.mem_cons_of_mem _ hx), hxa⟩
      · have h4 : cnt l a = cnt (id :: r) a := cnt_perm hp
        have h5 : l.length = (id :: r).length := hp.length_eq
        rw [cnt_cons] at h4
        rw [List.length_cons] at h5
        have hml : MeetP r a b := meet_of (by split at h4 <;> omega)
        obtain ⟨x, hx, hxa⟩ := hml
        exact ⟨⟨x, hp.mem_iff.2 (List.mem_cons_of_mem _ hx), hxa⟩, x, hx, hxa⟩
    refine ⟨fun _ => ⟨⟨by simp, trivial, trivial, trivial⟩, r, a, b, takeO, rfl, rfl, ⟨by have := hR2.hi; omega⟩, ⟨by omega⟩, ⟨by omega⟩, fun q2 hq2 => ⟨trivial, fun _ => trivial, fun hf => ?_⟩⟩, fun hf => ?_⟩
    · rw [hq2.2 hm.2] at hf; cases hf
    · rw [hq.2 hm.1] at hf; cases hf
theorem qW_byt {l : List Int} (h : RightL l) : Byt (qW l) := by
  intro c hc
  rcases List.mem_append.1 hc with hc | hc
  · exact numW_byt (by have := h.hi; omega) c hc
  · unfold catN at hc
    obtain ⟨x, hx, hc⟩ := List.mem_flatten.1 hc
    obtain ⟨n, hn, rfl⟩ := List.mem_map.1 hx
    exact numW_byt (by have := right_mem h hn; omega) c hc
theorem qW_len {l : List Int} (h : RightL l) : (qW l).length ≤ 100 := by
  have h1 := catN_len l
  have h2 := numW_len (l.length : Int)
  have h3 := h.hi
  unfold qW; rw [List.length_append]; omega
theorem lawBytes (l b : List Int) (id : Int) (hb : Byt b) : XL l [] [] true id 0 0 0 0 6 [.dat (.sl 1 (ints .i64 l)), .dat (.sl 1 (ints .u8 b)), .int .i64 id] [] KT := by
  refine vcLBytes l b id ?_
  simp only [ints_len, decide_eq_true_eq, decide_eq_false_iff_not]
  refine ⟨fun _ => trivial, fun h1 => ⟨fun _ => trivial, fun h2 => ⟨b, rfl, hb, by omega, fun q o hrd => ⟨⟨fun hx => ?_, fun hx => ⟨fun hq => ?_, fun hq => ?_⟩⟩, ?_⟩⟩⟩⟩
  · cases q
    · rw [(hrd.f rfl).1] at hx; simp at hx
    · have := (hrd.t rfl).1.lo
      rw [decide_eq_true (by omega)] at hx; simp at hx
  · obtain ⟨hR, hbq⟩ := hrd.t hq
    refine ⟨⟨Nat.le_refl _, trivial⟩, o, takeA rfl, ⟨by have := hR.hi; omega⟩, fun b2 hb2 => ⟨trivial, fun hf => ?_, fun _ => ⟨⟨Nat.le_refl _, trivial⟩, o, takeA rfl, by have := hR.hi; omega, fun x hx => by have := right_mem hR hx; omega, plainS_ints, ⟨Nat.le_refl _, trivial, trivial⟩, qW o, b, takeA rfl, rfl, by show (qW o).length ≤ 1000000; have := qW_len hR; omega, trivial, fun hf => ?_, fun _ => ?_⟩⟩⟩
    · rw [hb2.2 hR] at hf; cases hf
    · rw [← hbq] at hf; simp at hf
    · exact At.mk' ⟨0, rfl, by omega, fun f => by cases f⟩ rfl
  · exact At.mk' ⟨0, rfl, by omega, fun f => by cases f⟩ rfl
  rintro ⟨_, _, _, _⟩
  refine ⟨l, rfl, ⟨by omega⟩, fun b2 hb2 => ⟨fun _ => trivial, fun hR' => ?_⟩⟩
  have hR : RightL l := hb2.1 (by simpa using hR')
  refine ⟨l, rfl, by omega, fun x hx => by have := right_mem hR hx; omega, ⟨Nat.le_refl _, trivial⟩, qW l, takeA rfl, qW_byt hR, by have := qW_len hR; omega, fun q o hrd => ⟨plainS_ints, ⟨fun hf => ?_, fun ht => ⟨⟨Nat.le_refl _, trivial, trivial⟩, o, l, takeA rfl, rfl, ?_, trivial, fun hf => ?_, fun _ => ?_⟩⟩, ?_⟩⟩
  · simp only [Bool.not_eq_true'] at hf
    exact (hrd.f hf).2 ⟨l, hR, rfl⟩
  · have := (hrd.t (by simpa using ht)).1.hi
    show o.length ≤ 1000000; omega
  · obtain ⟨hRo, hq⟩ := hrd.t (by simpa using ht)
    have e1 := qd_of hRo o.length (Nat.le_refl _)
    have e2 := qd_of hR l.length (Nat.le_refl _)
    have hn : ∀ r, RightL r → rdN (qW r) = r.length := fun r hr => by
      unfold rdN qW
      rw [rNum_app (n := (r.length : Int)) (most := 7) (by omega) (by have := hr.hi; omega) (by have := hr.hi; omega) (catN r)]
      simp
    have hll : o.length = l.length := by rw [← hn o hRo, ← hn l hR, hq]
    rw [hll, ← hq, e2, List.take_length] at e1
    have : l = o := by
      have := congrArg (fun z => z.2.2) e1
      simp only at this
      rw [this, ← hll, List.take_length]
    subst this
    simp at hf
  · exact At.mk' ⟨0, rfl, by omega, fun _ => hR⟩ rfl
  rintro ⟨_, _, _, _⟩
  refine ⟨l, rfl, ⟨by omega⟩, fun r t e hch => ⟨fun _ => trivial, fun he => ?_⟩⟩
  simp only [bne_eq_false_iff_eq] at he
  subst he
  have hch0 := hch
  rcases chP_perm hR hch with ⟨_, hp⟩ | ⟨hf, _⟩
  · have hlen := hp.length_eq
    rw [List.length_cons] at hlen
    have hid : 0 ≤ id ∧ id ≤ 15 ∧ id ∉ l ∧ l.length ≠ 7 := by
      have he := hch.eq
      unfold chE at he
      split at he
      · cases he
      · rename_i h0
        split at he
        · cases he
        · rename_i h8
          split at he
          · cases he
          · split at he
            · cases he
            · rename_i h6
              refine ⟨by have : ¬ id < 0 := fun f => h0 (.inr (.inl f)); omega, by have : ¬ 15 < id := fun f => h0 (.inr (.inr f)); omega, fun f => h8 ⟨rfl, f⟩, fun f => h6 ⟨rfl, f⟩⟩
    have hRr : RightL r := right_of hch.inc (fun x hx => by
      rcases List.mem_cons.1 (hp.mem_iff.1 hx) with h4 | h4
      · omega
      · exact right_mem hR h4) (by omega) (by have := hR.hi; omega)
    refine ⟨⟨by first | exact leO | simp, trivial⟩, r, takeO, ⟨by have := hRr.hi; omega⟩, fun r2 t2 e2 hch2 => ⟨plainS_ints, fun h0 => ?_, fun hf => ?_⟩⟩
    · simp only [beq_iff_eq] at h0
      subst h0
      have e3 : r2 = l := inc_uniq hch2.inc (right_inc hR) fun x => by
        rw [hch2.mem rfl x, hp.mem_iff, List.mem_cons]
        constructor
        · rintro (⟨f, _⟩ | ⟨_, h4 | h4, h5⟩)
          · cases f
          · exact absurd h4 h5
          · exact h4
        · intro hx
          exact .inr ⟨rfl, .inr hx, fun e => hid.2.2.1 (e ▸ hx)⟩
      subst e3
      refine ⟨⟨by first | exact leO | simp, trivial, trivial⟩, r2, r2, takeO, rfl, by show r2.length ≤ 1000000; omega, trivial, fun _ => trivial, fun hf => by simp at hf⟩
    · refine absurd ?_ (show ¬ e2 = 0 by simpa using hf)
      rw [hch2.eq]
      have h1 := hR.lo
      exact chE_ok ⟨hRr, hid.1, hid.2.1, fun _ w => (by cases w.1), fun _ w => w.2 (hp.mem_iff.2 List.mem_cons_self), fun _ w => (by cases w.1), fun _ w => (by omega)⟩
  · cases hf
theorem exists_min {l : List Int} {p : Int → Prop} (h : ∃ x ∈ l, p x) : ∃ w ∈ l, p w ∧ ∀ x ∈ l, p x → w ≤ x := by
  induction l with
  | nil => obtain ⟨x, hx, _⟩ := h; cases hx
  | cons a l ih =>
    by_cases hl : ∃ x ∈ l, p x
    · obtain ⟨w, hw, hpw, hmin⟩ := ih hl
      by_cases ha : p a ∧ a < w
      · refine ⟨a, List.mem_cons_self, ha.1, fun x hx hpx => ?_⟩
        rcases List.mem_cons.1 hx with rfl | hx
        · exact Int.le_refl _
        · have := hmin x hx hpx; omega
      · refine ⟨w, List.mem_cons_of_mem _ hw, hpw, fun x hx hpx => ?_⟩
        rcases List.mem_cons.1 hx with rfl | hx
        · have : ¬ x < w := fun f => ha ⟨hpx, f⟩
          omega
        · exact hmin x hx hpx
    · obtain ⟨x, hx, hpx⟩ := h
      rcases List.mem_cons.1 hx with rfl | hx
      · refine ⟨x, List.mem_cons_self, hpx, fun y hy hpy => ?_⟩
        rcases List.mem_cons.1 hy with rfl | hy
        · exact Int.le_refl _
        · exact absurd ⟨y, hy, hpy⟩ hl
      · exact absurd ⟨x, hx, hpx⟩ hl
theorem majV_ge {a : List Int} {v w : Int} (h : MajV a w) (hv : a.length < 2 * a.countP (fun x => decide (v ≤ x))) : v ≤ w := by
  have h0 : 0 < a.countP (fun x => decide (v ≤ x)) := by omega
  obtain ⟨x, hx, hp⟩ := List.countP_pos_iff.1 h0
  obtain ⟨u, hu, hpu, hmin⟩ := exists_min (l := a) (p := fun x => v ≤ x) ⟨x, hx, by simpa using hp⟩
  have hle : a.countP (fun x => decide (v ≤ x)) ≤ a.countP (fun x => decide (u ≤ x)) := List.countP_mono_left (fun y hy h1 => by simp only [decide_eq_true_eq] at *; exact hmin y hy h1)
  have := h.top u hu (by omega)
  omega
theorem upM_ent (h : List Int) : ∀ i, EntI (upM h i)
  | 0 => EntI.nil
  | i + 1 => (upM_ent h i).set _ _
theorem upM_get {h : List Int} : ∀ {i j : Nat}, j < i → mgetI (upM h i) [(j : Int)] 0 = gI h j
  | 0, j, hj => absurd hj (Nat.not_lt_zero _)
  | i + 1, j, hj => by
    simp only [upM, mgetI_mset]
    by_cases hji : j = i
    · subst hji; rw [if_pos rfl]
    · rw [if_neg (by simp only [List.cons.injEq, and_true]; omega)]; exact upM_get (by omega)
theorem leastI_le {h : List Int} : ∀ {i j : Nat}, j < i → leastI h i ≤ gI h j
  | 0, j, hj => absurd hj (Nat.not_lt_zero _)
  | i + 1, j, hj => by
    simp only [leastI]
    by_cases hji : j = i
    · subst hji; split <;> omega
    · have := leastI_le (h := h) (i := i) (j := j) (by omega)
      split <;> omega
abbrev rz (k : Nat) : List Int := (List.range k).map (fun (j : Nat) => (j : Int))
theorem rz_right {k : Nat} (h1 : 1 ≤ k) (h2 : k ≤ 7) : RightL (rz k) := by
  refine right_of ?_ (fun x hx => ?_) (by simp; omega) (by simp; omega)
  · rw [List.pairwise_map]
    exact List.pairwise_lt_range.imp (fun h => by omega)
  · obtain ⟨j, hj, rfl⟩ := List.mem_map.1 hx
    have := List.mem_range.1 hj; omega
theorem lawRises (n : Int) (h : List Int) (who more : Int) (hn : 0 ≤ n ∧ n < 256) (hw : 0 ≤ who ∧ who < 256) (hm : 0 ≤ more ∧ more < 256) (hh : ∀ x ∈ h, 0 ≤ x ∧ x < 65536) : XL [] [] h true 0 n who more (1 + n % 7).toNat 3 [.int .u8 n, .dat (.sl 1 (ints .u16 h)), .int .u8 who, .int .u8 more] [] KT := by
  have hk0 : 1 ≤ (1 + n % 7).toNat ∧ (1 + n % 7).toNat ≤ 7 := by omega
  have ek : IntKind.i64.wrap (1 + (IntKind.i64.wrap n).tmod 7) = (((1 + n % 7).toNat : Nat) : Int) := by
    rw [w64 (n := n) (by omega) (by omega), Int.tmod_eq_emod_of_nonneg hn.1, w64 (by omega) (by omega)]; omega
  have em : IntKind.i64.wrap more = more := w64 (by omega) (by omega)
  generalize (1 + n % 7).toNat = k at hk0 ek ⊢
  refine vcRises n h who more k ?_
  have eat : (IntKind.i64.wrap who).tmod (k : Int) = (((who % k).toNat : Nat) : Int) ∧ (who % (k : Int)).toNat < k := by
    rw [w64 (n := who) (by omega) (by omega), Int.tmod_eq_emod_of_nonneg hw.1]
    have h1 := Int.emod_nonneg who (show (k : Int) ≠ 0 by omega)
    have h2 := Int.emod_lt_of_pos who (show (0 : Int) < k by omega)
    omega
  rw [ek, eat.1, em]
  obtain ⟨_, hatk⟩ := eat
  generalize (who % (k : Int)).toNat = at_ at hatk ⊢
  simp only [ints_len, decide_eq_true_eq, decide_eq_false_iff_not]
  refine ⟨fun _ => trivial, fun h1 => ⟨fun _ => trivial, fun h2 => ⟨At.mk' ⟨0, Nat.zero_le _⟩ rfl, ?_⟩⟩⟩
  rintro ⟨i, hi⟩
  dsimp only
  have hrl : (rz i).length = i := by simp
  have hg : ∀ j, j < k → 0 ≤ gI h j ∧ gI h j < 65536 := fun j hj => hh _ (gI_mem (by omega))
  refine ⟨fun hc => ⟨Nat.le_refl _, by rw [hrl]; exact Nat.le_refl _, by omega, el (by omega) (el (by omega) ?_)⟩, fun hc => ?_⟩
  · have hgi := hg i (by omega)
    have e1 : IntKind.i64.wrap ((i : Int) + 1) = ((i + 1 : Nat) : Int) := by rw [w64 (by omega) (by omega)]; rfl
    have e2 : List.take i (ints .i64 (rz i)) ++ [[D.val (.int .i64 (i : Int))]] = ints .i64 (rz (i + 1)) := by
      rw [List.take_of_length_le (by rw [ints_len, hrl]; exact Nat.le_refl _), rz, rz, List.range_succ, List.map_append, ints_app]; rfl
    rw [w64 (n := gI h i) (by omega) (by omega), e1, e2]
    exact Nx.mk' (⟨i + 1, by omega⟩ : {i : Nat // i ≤ k}) rfl (by show k - (i + 1) < k - i; omega)
  · have hik : i = k := by omega
    subst hik
    have hR := rz_right hk0.1 hk0.2
    have hE := upM_ent h i
    have hgat := hg at_ hatk
    have hmv : mapV (upM h i) (rz i) = (List.range i).map (gI h) := by
      unfold mapV rz
      rw [List.map_map]
      exact List.map_congr_left fun j hj => upM_get (by simpa using hj)
    have eu : mgetI (upM h i) [(at_ : Int)] 0 = gI h at_ := upM_get hatk
    have ew : IntKind.i64.wrap (mgetI (upM h i) [(at_ : Int)] 0 + more) = gI h at_ + more := by rw [eu, w64 (by omega) (by omega)]
    rw [ew]
    have hmv2 : mapV (mset (upM h i) [(at_ : Int)] [dn .i64 (gI h at_ + more)]) (rz i) = (List.range i).map (fun j => if j = at_ then gI h at_ + more else gI h j) := by
      unfold mapV rz
      rw [List.map_map]
      refine List.map_congr_left fun j hj => ?_
      have hj' : j < i := by simpa using hj
      show mgetI (mset (upM h i) [(at_ : Int)] [dn .i64 (gI h at_ + more)]) [(j : Int)] 0 = _
      rw [mgetI_mset]
      by_cases hja : j = at_
      · subst hja; rw [if_pos rfl, if_pos rfl]
      · rw [if_neg (by simp only [List.cons.injEq, and_true]; omega), if_neg hja]; exact upM_get hj'
    refine ⟨⟨by rw [hrl]; exact Nat.le_refl _, trivial⟩, rz i, takeA hrl.symm, ⟨by rw [hrl]; omega⟩, hE.okM, fun v hv => ⟨hE.plain, fun f => by omega, hE.conf _, fun _ => ⟨⟨by rw [hrl]; exact Nat.le_refl _, trivial⟩, rz i, takeA hrl.symm, ⟨by rw [hrl]; omega⟩, (hE.set _ _).okM, fun v2 hv2 => ⟨(hE.set _ _).plain, fun _ => ⟨⟨by omega, by omega⟩, fun _ => ⟨⟨by omega, by omega⟩, fun _ => trivial, fun hf => ?_⟩, fun hf => ?_⟩, fun hf => ?_⟩⟩, fun hf => ?_⟩⟩
    · rw [majI_1 (by omega), w64 (n := (i : Int) / 2 + 1 - 1) (by omega) (by omega), w64 (by omega) (by omega)] at hf
      omega
    · rw [majI_1 (by omega), w64 (by omega) (by omega)] at hf
      omega
    · have m1 := hv.yes hR
      have m2 := hv2.yes hR
      rw [hmv] at m1
      rw [hmv2] at m2
      refine hf (majV_ge m2 ?_)
      have h3 := m1.most
      rw [List.countP_map, List.length_map] at h3
      rw [List.countP_map, List.length_map]
      refine Nat.lt_of_lt_of_le h3 (Nat.mul_le_mul_left 2 (List.countP_mono_left fun j hj h4 => ?_))
      simp only [Function.comp, decide_eq_true_eq] at h4 ⊢
      split
      · rename_i hja; subst hja; omega
      · exact h4
    · have m1 := hv.yes hR
      rw [hmv] at m1
      obtain ⟨j, hj, rfl⟩ := List.mem_map.1 m1.mem
      exact hf (leastI_le (by simpa using hj))
theorem byt_wf {l : List Int} (h : ∀ n ∈ l, (Lit.int .u8 n).wf = true) : Byt l := fun c hc => by have := bounds_u8 (h c hc); omega
end Go.Proofs.Ytmmmbdpnhlebaaa
