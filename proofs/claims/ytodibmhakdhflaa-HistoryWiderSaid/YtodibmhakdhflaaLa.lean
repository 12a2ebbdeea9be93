import Derived.Test.YtodibmhakdhflaaIs
import Derived.KernelRfl
namespace Go.Proofs.Ytodibmhakdhflaa
open Vc Go
set_option linter.unusedVariables false
set_option linter.unusedSimpArgs false
set_option maxRecDepth 100000
def Sawake : FSpec := fun args kb K => match args, kb with | [], [] => K (.sb true) [] | _, _ => False
def awS : FuncId → Option Known
  | 9 => some ⟨[.lend 4], Swit⟩
  | 10 => some ⟨[.lend 4, .lend 1], Sany 100⟩
  | 11 => some ⟨[.lend 4, .lend 1], Sis⟩
  | 12 => some ⟨[.lend 4, .lend 1], Sis⟩
  | f => smS f
noncomputable def XAw : CallT := callS Try.prog awS noT 10
def lawS : FuncId → Option Known
  | 8 => some ⟨[], Sawake⟩
  | f => awS f
structure TrueC (i : Nat) (c : Call) : Prop where
  kind : 1 ≤ c.1 ∧ c.1 ≤ 3
  lo : 0 ≤ c.2.2.1
  at' : c.2.2.1 ≤ 10 * i + 5
  hi : c.2.2.2 = -1 ∧ c.1 ≠ 3 ∨ 10 * i + 5 ≤ c.2.2.2
def ChainV : Int → List Call → Int → Prop
  | v, [], w => v = w
  | v, c :: l, w => fitC c v ∧ ChainV (nxC c v) l w
structure TrInv (l : List Call) (v : Int) (n : Nat) : Prop where
  le : l.length ≤ n
  ok : ∀ i, i < l.length → TrueC i (atC l i)
  run : ChainV 0 l v
structure TrCut (l : List Call) (v : Int) (n : Nat) (q : Call × Int) : Prop where
  inv : TrInv l v n
  lt : l.length < n
  ok : TrueC l.length q.1
  fin : 10 * l.length + 5 ≤ q.1.2.2.2
  fit : fitC q.1 v
  nx : nxC q.1 v = q.2
abbrev trCut (a b c d : List Int) (l : List Call) (v : Int) : LI where
  α := {q : Call × Int // TrCut l v a.length q}
  live := [0, 1, 2, 3, 9, 10, 11, 12, 13]
  st q := ([.dat (.sl 1 (ints .u8 a)), .dat (.sl 1 (ints .u8 b)), .dat (.sl 1 (ints .u8 c)), .dat (.sl 1 (ints .u8 d)), .int .i64 (a.length : Int), .sl 0 0 l.length, .int .i64 q.1.2, .int .i64 (l.length : Int), .ptr 1 0],
    [.row 31 4 (l.map callR), .cells [.int .i64 q.1.1.1, .int .i64 q.1.1.2.1, .int .i64 q.1.1.2.2.1, .int .i64 q.1.1.2.2.2]])
  μ q := 0
abbrev trLI (a b c d : List Int) : LI where
  α := {p : List Call × Int // TrInv p.1 p.2 a.length}
  live := [0, 1, 2, 3, 9, 10, 11, 12]
  nils := [.slot 5 31 4]
  st p := ([.dat (.sl 1 (ints .u8 a)), .dat (.sl 1 (ints .u8 b)), .dat (.sl 1 (ints .u8 c)), .dat (.sl 1 (ints .u8 d)), .int .i64 (a.length : Int), .sl 0 0 p.1.1.length, .int .i64 p.1.2, .int .i64 (p.1.1.length : Int)], [.row 31 4 (p.1.1.map callR)])
  μ p := a.length - p.1.1.length
  sub p r := match r with
    | 1017 => some (trCut a b c d p.1.1 p.1.2)
    | _ => none
structure WidR (c m : Call) : Prop where
  k : m.1 = c.1
  v : m.2.1 = c.2.1
  b : m.2.2.1 ≤ c.2.2.1 ∧ 0 ≤ m.2.2.1
  e : c.2.2.2 < 0 ∧ m.2.2.2 = c.2.2.2 ∨ 0 ≤ c.2.2.2 ∧ c.2.2.2 ≤ m.2.2.2 ∨ 0 ≤ c.2.2.2 ∧ m.2.2.2 = -1 ∧ c.1 ≠ 3
structure WiInv (l m : List Call) : Prop where
  le : m.length ≤ l.length
  r : ∀ i, i < m.length → WidR (atC l i) (atC m i)
abbrev widLI (l : List Call) (b d : List Int) : LI where
  α := {m : List Call // WiInv l m}
  live := [0, 1, 2, 7, 8]
  nils := [.slot 3 31 4]
  st m := ([.dat (.sl 4 (l.map callR)), .dat (.sl 1 (ints .u8 b)), .dat (.sl 1 (ints .u8 d)), .sl 0 0 m.1.length, .int .i64 (m.1.length : Int)], [.row 31 4 (m.1.map callR)])
  μ m := l.length - m.1.length
def laT (l : List Call) (a b c d : List Int) : FuncId → Nat → Option LI
  | 4, 7 => some (trLI a b c d)
  | 6, 5 => some (widLI l b d)
  | _, _ => none
noncomputable def XL (l : List Call) (a b c d : List Int) : CallT := callS Try.prog lawS (laT l a b c d) 10
theorem vcAwake  (K : V → KB → Prop) (h :
 (2 ≤ 2 ∧ True) ∧
 ∃ (l : List Call),
 [[D.val (Value.int IntKind.i64 1), D.val (Value.int IntKind.i64 1), D.val (Value.int IntKind.i64 0), D.val (Value.int IntKind.i64 3)], [D.val (Value.int IntKind.i64 3), D.val (Value.int IntKind.i64 1), D.val (Value.int IntKind.i64 1), D.val (Value.int IntKind.i64 2)]] = List.map callR l ∧
 l.length ≤ 1000 ∧
 ∀ (b : Bool) (o t : List Int),
 WiPost l b o →
 PlainS (ints IntKind.i64 (o ++ t)).flatten ∧
 (1 ≤ 1 ∧ True) ∧
 ∃ (l : List Call),
 [[D.val (Value.int IntKind.i64 3), D.val (Value.int IntKind.i64 1), D.val (Value.int IntKind.i64 0), D.val (Value.int IntKind.i64 0)]] = List.map callR l ∧
 l.length ≤ 1000 ∧
 ∀ (b_1 : Bool) (o_1 t_1 : List Int),
 WiPost l b_1 o_1 →
 PlainS (ints IntKind.i64 (o_1 ++ t_1)).flatten ∧
 (b = true →
 (o.length ≤ (ints IntKind.i64 (o ++ t)).length ∧ 2 ≤ 2 ∧ True) ∧
 ∃ (a : List Int), ∃ (b : List Int), List.drop 0 (List.take o.length (ints IntKind.i64 (o ++ t))) = ints IntKind.i64 a ∧ [[D.val (Value.int IntKind.i64 0)], [D.val (Value.int IntKind.i64 1)]] = ints IntKind.i64 b ∧ a.length.le 1000000 ∧ True ∧ (decide (a = b) = true → K (V.sb !b_1) []) ∧ (decide (a = b) = false → K (V.sb false) [])) ∧
 (b = false → K (V.sb false) [])
 ) : runSpec Try.prog XAw (noT 8) 8 [] [] K := Eq.mp (by kernel_rfl) h
theorem vcFinds (l : List Call)  (h :
 (decide ((↑(List.map callR l).length : Int) > 5) = true → true = true) ∧
 (decide ((↑(List.map callR l).length : Int) > 5) = false →
 ∃ (l_1 : List Call),
 List.map callR l = List.map callR l_1 ∧
 l_1.length ≤ 1000 ∧
 ∀ (b : Bool) (o t : List Int),
 WiPost l_1 b o →
 ∃ (l_2 : List Call),
 ∃ (r : List Nat),
 List.map callR l = List.map callR l_2 ∧
 [] = ints IntKind.i64 (nz r) ∧
 AnPre l_2 r 100 ∧
 ∀ (b_1 : Bool),
 (b_1 = true ↔ ∃ (s : List Nat), Wit l_2 (r ++ s)) →
 ((b == b_1) = true →
 ((!b) = true → (b = true → true = true) ∧ (b = false → (((↑(o.length - 0) : Int) == 0) = true → true = true) ∧ (((↑(o.length - 0) : Int) == 0) = false → False))) ∧
 ((!b) = false →
 (True ∧ o.length ≤ (ints IntKind.i64 (o ++ t)).length ∧ True) ∧
 ∃ (l_3 : List Call),
 ∃ (o_1 : List Int),
 List.map callR l = List.map callR l_3 ∧
 List.drop 0 (List.take o.length (ints IntKind.i64 (o ++ t))) = ints IntKind.i64 o_1 ∧ IsPre l_3 o_1 ∧ ∀ (b_2 : Bool), (b_2 = true ↔ WitI l_3 o_1) → True ∧ (b_2 = true → (b = true → true = true) ∧ (b = false → (((↑(o.length - 0) : Int) == 0) = true → true = true) ∧ (((↑(o.length - 0) : Int) == 0) = false → False))) ∧ (b_2 = false → False))) ∧
 ((b == b_1) = false → False))
 ) : XL l [] [] [] [] 3 [.dat (.sl 4 (l.map callR))] [] KT := Eq.mp (by kernel_rfl) h
theorem vcLIs (l : List Call) (o : List Int)  (h :
 (decide ((↑(List.map callR l).length : Int) > 20) = true → true = true) ∧
 (decide ((↑(List.map callR l).length : Int) > 20) = false →
 (decide ((↑(ints IntKind.i64 o).length : Int) > 30) = true → true = true) ∧
 (decide ((↑(ints IntKind.i64 o).length : Int) > 30) = false →
 ∃ (l_1 : List Call),
 ∃ (o_1 : List Int),
 List.map callR l = List.map callR l_1 ∧
 ints IntKind.i64 o = ints IntKind.i64 o_1 ∧ IsPre l_1 o_1 ∧ ∀ (b : Bool), (b = true ↔ WitI l_1 o_1) → ∃ (l_2 : List Call), ∃ (o_2 : List Int), List.map callR l = List.map callR l_2 ∧ ints IntKind.i64 o = ints IntKind.i64 o_2 ∧ IsPre l_2 o_2 ∧ ∀ (b_1 : Bool), (b_1 = true ↔ WitI l_2 o_2) → ((b == b_1) = true → true = true) ∧ ((b == b_1) = false → False)))
 ) : XL l o [] [] [] 7 [.dat (.sl 4 (l.map callR)), .dat (.sl 1 (ints .i64 o))] [] KT := Eq.mp (by kernel_rfl) h
theorem vcStale (a b g : Int)  (h :
 ((a == b) = true → true = true) ∧
 ((a == b) = false →
 (3 ≤ 3 ∧ True) ∧
 ∃ (l : List Call),
 [[D.val (Value.int IntKind.i64 1), D.val (Value.int IntKind.i64 (IntKind.i64.wrap (1 + IntKind.i64.wrap a))), D.val (Value.int IntKind.i64 0), D.val (Value.int IntKind.i64 1)],
 [D.val (Value.int IntKind.i64 1), D.val (Value.int IntKind.i64 (IntKind.i64.wrap (1 + IntKind.i64.wrap b))), D.val (Value.int IntKind.i64 2), D.val (Value.int IntKind.i64 (IntKind.i64.wrap (10 + IntKind.i64.wrap g)))],
 [D.val (Value.int IntKind.i64 3), D.val (Value.int IntKind.i64 (IntKind.i64.wrap (1 + IntKind.i64.wrap a))), D.val (Value.int IntKind.i64 (IntKind.i64.wrap (IntKind.i64.wrap (10 + IntKind.i64.wrap g) + 1))), D.val (Value.int IntKind.i64 (IntKind.i64.wrap (IntKind.i64.wrap (10 + IntKind.i64.wrap g) + 2)))]] =
 List.map callR l ∧
 l.length ≤ 1000 ∧
 ∀ (b_1 : Bool) (o t : List Int),
 WiPost l b_1 o →
 PlainS (ints IntKind.i64 (o ++ t)).flatten ∧
 InB 2 3 ∧
 ∃ (e : List D),
 [[D.val (Value.int IntKind.i64 1), D.val (Value.int IntKind.i64 (IntKind.i64.wrap (1 + IntKind.i64.wrap a))), D.val (Value.int IntKind.i64 0), D.val (Value.int IntKind.i64 1)],
 [D.val (Value.int IntKind.i64 1), D.val (Value.int IntKind.i64 (IntKind.i64.wrap (1 + IntKind.i64.wrap b))), D.val (Value.int IntKind.i64 2), D.val (Value.int IntKind.i64 (IntKind.i64.wrap (10 + IntKind.i64.wrap g)))],
 [D.val (Value.int IntKind.i64 3), D.val (Value.int IntKind.i64 (IntKind.i64.wrap (1 + IntKind.i64.wrap a))), D.val (Value.int IntKind.i64 (IntKind.i64.wrap (IntKind.i64.wrap (10 + IntKind.i64.wrap g) + 1))), D.val (Value.int IntKind.i64 (IntKind.i64.wrap (IntKind.i64.wrap (10 + IntKind.i64.wrap g) + 2)))]][2]? =
 some e ∧
 3 ≤ 4 ∧
 (3 ≤ 3 ∧ True) ∧
 ∃ (l : List Call),
 [[D.val (Value.int IntKind.i64 1), D.val (Value.int IntKind.i64 (IntKind.i64.wrap (1 + IntKind.i64.wrap a))), D.val (Value.int IntKind.i64 0), D.val (Value.int IntKind.i64 1)],
 [D.val (Value.int IntKind.i64 1), D.val (Value.int IntKind.i64 (IntKind.i64.wrap (1 + IntKind.i64.wrap b))), D.val (Value.int IntKind.i64 2), D.val (Value.int IntKind.i64 (IntKind.i64.wrap (10 + IntKind.i64.wrap g)))], splice e 2 [D.val (Value.int IntKind.i64 (IntKind.i64.wrap (10 + IntKind.i64.wrap g)))]] =
 List.map callR l ∧
 l.length ≤ 1000 ∧ ∀ (b : Bool) (o t : List Int), WiPost l b o → PlainS (ints IntKind.i64 (o ++ t)).flatten ∧ ((!b_1) = true → (b = true → true = true) ∧ (b = false → False)) ∧ ((!b_1) = false → False))
 ) : XL [] [] [] [] [] 5 [.int .u8 a, .int .u8 b, .int .u8 g] [] KT := Eq.mp (by kernel_rfl) h
theorem vcTrue (a b c d : List Int)  (h :
 (decide ((↑(ints IntKind.u8 a).length : Int) > 12) = true → true = true) ∧
 (decide ((↑(ints IntKind.u8 a).length : Int) > 12) = false →
 (decide ((↑(ints IntKind.u8 b).length : Int) < (↑(ints IntKind.u8 a).length : Int)) = true → true = true) ∧
 (decide ((↑(ints IntKind.u8 b).length : Int) < (↑(ints IntKind.u8 a).length : Int)) = false →
 (decide ((↑(ints IntKind.u8 c).length : Int) < (↑(ints IntKind.u8 a).length : Int)) = true → true = true) ∧
 (decide ((↑(ints IntKind.u8 c).length : Int) < (↑(ints IntKind.u8 a).length : Int)) = false →
 (decide ((↑(ints IntKind.u8 d).length : Int) < (↑(ints IntKind.u8 a).length : Int)) = true → true = true) ∧
 (decide ((↑(ints IntKind.u8 d).length : Int) < (↑(ints IntKind.u8 a).length : Int)) = false →
 (decide ((↑(ints IntKind.u8 b).length : Int) > 99) = true → true = true) ∧
 (decide ((↑(ints IntKind.u8 b).length : Int) > 99) = false →
 (decide ((↑(ints IntKind.u8 c).length : Int) > 99) = true → true = true) ∧
 (decide ((↑(ints IntKind.u8 c).length : Int) > 99) = false →
 (decide ((↑(ints IntKind.u8 d).length : Int) > 99) = true → true = true) ∧
 (decide ((↑(ints IntKind.u8 d).length : Int) > 99) = false →
 At (trLI a b c d) ([V.dat (D.sl 1 (ints IntKind.u8 a)), V.dat (D.sl 1 (ints IntKind.u8 b)), V.dat (D.sl 1 (ints IntKind.u8 c)), V.dat (D.sl 1 (ints IntKind.u8 d)), V.int IntKind.i64 (↑(ints IntKind.u8 a).length : Int), V.sl 0 0 0, V.int IntKind.i64 0, V.int IntKind.i64 0], [KO.row 31 4 []]) ∧
 ∀ (i : { p : List Call × Int // TrInv p.fst p.snd a.length }),
 (decide ((↑i.val.fst.length : Int) < (↑a.length : Int)) = true →
 NonN (↑i.val.fst.length : Int) ∧
 ∃ (e : List D),
 (ints IntKind.u8 a)[(↑i.val.fst.length : Int).toNat]? = some e ∧
 ∃ (n : Int),
 e[0]? = some (D.val (Value.int IntKind.u8 n)) ∧
 NonN (↑i.val.fst.length : Int) ∧
 ∃ (e_1 : List D),
 (ints IntKind.u8 b)[(↑i.val.fst.length : Int).toNat]? = some e_1 ∧
 ∃ (n_1 : Int),
 e_1[0]? = some (D.val (Value.int IntKind.u8 n_1)) ∧
 NonN (↑i.val.fst.length : Int) ∧
 ∃ (e_2 : List D),
 (ints IntKind.u8 c)[(↑i.val.fst.length : Int).toNat]? = some e_2 ∧
 ∃ (n_2 : Int),
 e_2[0]? = some (D.val (Value.int IntKind.u8 n_2)) ∧
 NonN (↑i.val.fst.length : Int) ∧
 ∃ (e_3 : List D),
 (ints IntKind.u8 d)[(↑i.val.fst.length : Int).toNat]? = some e_3 ∧
 ∃ (n_3 : Int),
 e_3[0]? = some (D.val (Value.int IntKind.u8 n_3)) ∧
 (∃ (n : Int), e_3[0]? = some (D.val (Value.int IntKind.u8 n)) ∧ EqI n n_3) ∧
 (∃ (n : Int), e_2[0]? = some (D.val (Value.int IntKind.u8 n)) ∧ EqI n n_2) ∧
 (∃ (n : Int), e_1[0]? = some (D.val (Value.int IntKind.u8 n)) ∧ EqI n n_1) ∧
 (∃ (n_4 : Int), e[0]? = some (D.val (Value.int IntKind.u8 n_4)) ∧ EqI n_4 n) ∧
 (((IntKind.i64.wrap (1 + (IntKind.i64.wrap n).tmod 3) == 1) = true →
 At (trCut a b c d i.val.fst i.val.snd)
 ([V.dat (D.sl 1 (ints IntKind.u8 a)), V.dat (D.sl 1 (ints IntKind.u8 b)), V.dat (D.sl 1 (ints IntKind.u8 c)), V.dat (D.sl 1 (ints IntKind.u8 d)), V.int IntKind.i64 (↑a.length : Int), V.sl 0 0 i.val.fst.length, V.int IntKind.i64 (IntKind.i64.wrap (1 + (IntKind.i64.wrap n_1).tmod 5)),
 V.int IntKind.i64 (↑i.val.fst.length : Int), V.ptr 1 0],
 [KO.row 31 4 (List.map callR i.val.fst),
 KO.cells
 [V.int IntKind.i64 (IntKind.i64.wrap (1 + (IntKind.i64.wrap n).tmod 3)), V.int IntKind.i64 (IntKind.i64.wrap (1 + (IntKind.i64.wrap n_1).tmod 5)),
 V.int IntKind.i64 (if IntKind.i64.wrap (IntKind.i64.wrap (IntKind.i64.wrap (10 * (↑i.val.fst.length : Int)) + 5) - (IntKind.i64.wrap n_2).tmod 30) > 0 then IntKind.i64.wrap (IntKind.i64.wrap (IntKind.i64.wrap (10 * (↑i.val.fst.length : Int)) + 5) - (IntKind.i64.wrap n_2).tmod 30) else 0),
 V.int IntKind.i64 (IntKind.i64.wrap (IntKind.i64.wrap (IntKind.i64.wrap (10 * (↑i.val.fst.length : Int)) + 5) + (IntKind.i64.wrap n_3).tmod 30))]])) ∧
 ((IntKind.i64.wrap (1 + (IntKind.i64.wrap n).tmod 3) == 1) = false →
 ((IntKind.i64.wrap (1 + (IntKind.i64.wrap n).tmod 3) == 2) = true →
 At (trCut a b c d i.val.fst i.val.snd)
 ([V.dat (D.sl 1 (ints IntKind.u8 a)), V.dat (D.sl 1 (ints IntKind.u8 b)), V.dat (D.sl 1 (ints IntKind.u8 c)), V.dat (D.sl 1 (ints IntKind.u8 d)), V.int IntKind.i64 (↑a.length : Int), V.sl 0 0 i.val.fst.length, V.int IntKind.i64 0, V.int IntKind.i64 (↑i.val.fst.length : Int), V.ptr 1 0],
 [KO.row 31 4 (List.map callR i.val.fst),
 KO.cells
 [V.int IntKind.i64 (IntKind.i64.wrap (1 + (IntKind.i64.wrap n).tmod 3)), V.int IntKind.i64 (IntKind.i64.wrap (1 + (IntKind.i64.wrap n_1).tmod 5)),
 V.int IntKind.i64 (if IntKind.i64.wrap (IntKind.i64.wrap (IntKind.i64.wrap (10 * (↑i.val.fst.length : Int)) + 5) - (IntKind.i64.wrap n_2).tmod 30) > 0 then IntKind.i64.wrap (IntKind.i64.wrap (IntKind.i64.wrap (10 * (↑i.val.fst.length : Int)) + 5) - (IntKind.i64.wrap n_2).tmod 30) else 0),
 V.int IntKind.i64 (IntKind.i64.wrap (IntKind.i64.wrap (IntKind.i64.wrap (10 * (↑i.val.fst.length : Int)) + 5) + (IntKind.i64.wrap n_3).tmod 30))]])) ∧
 ((IntKind.i64.wrap (1 + (IntKind.i64.wrap n).tmod 3) == 2) = false →
 ((IntKind.i64.wrap (1 + (IntKind.i64.wrap n).tmod 3) == 3) = true →
 At (trCut a b c d i.val.fst i.val.snd)
 ([V.dat (D.sl 1 (ints IntKind.u8 a)), V.dat (D.sl 1 (ints IntKind.u8 b)), V.dat (D.sl 1 (ints IntKind.u8 c)), V.dat (D.sl 1 (ints IntKind.u8 d)), V.int IntKind.i64 (↑a.length : Int), V.sl 0 0 i.val.fst.length, V.int IntKind.i64 i.val.snd, V.int IntKind.i64 (↑i.val.fst.length : Int), V.ptr 1 0],
 [KO.row 31 4 (List.map callR i.val.fst),
 KO.cells
 [V.int IntKind.i64 (IntKind.i64.wrap (1 + (IntKind.i64.wrap n).tmod 3)), V.int IntKind.i64 i.val.snd,
 V.int IntKind.i64 (if IntKind.i64.wrap (IntKind.i64.wrap (IntKind.i64.wrap (10 * (↑i.val.fst.length : Int)) + 5) - (IntKind.i64.wrap n_2).tmod 30) > 0 then IntKind.i64.wrap (IntKind.i64.wrap (IntKind.i64.wrap (10 * (↑i.val.fst.length : Int)) + 5) - (IntKind.i64.wrap n_2).tmod 30) else 0),
 V.int IntKind.i64 (IntKind.i64.wrap (IntKind.i64.wrap (IntKind.i64.wrap (10 * (↑i.val.fst.length : Int)) + 5) + (IntKind.i64.wrap n_3).tmod 30))]])) ∧
 ((IntKind.i64.wrap (1 + (IntKind.i64.wrap n).tmod 3) == 3) = false →
 At (trCut a b c d i.val.fst i.val.snd)
 ([V.dat (D.sl 1 (ints IntKind.u8 a)), V.dat (D.sl 1 (ints IntKind.u8 b)), V.dat (D.sl 1 (ints IntKind.u8 c)), V.dat (D.sl 1 (ints IntKind.u8 d)), V.int IntKind.i64 (↑a.length : Int), V.sl 0 0 i.val.fst.length, V.int IntKind.i64 i.val.snd, V.int IntKind.i64 (↑i.val.fst.length : Int), V.ptr 1 0],
 [KO.row 31 4 (List.map callR i.val.fst),
 KO.cells
 [V.int IntKind.i64 (IntKind.i64.wrap (1 + (IntKind.i64.wrap n).tmod 3)), V.int IntKind.i64 (IntKind.i64.wrap (1 + (IntKind.i64.wrap n_1).tmod 5)),
 V.int IntKind.i64 (if IntKind.i64.wrap (IntKind.i64.wrap (IntKind.i64.wrap (10 * (↑i.val.fst.length : Int)) + 5) - (IntKind.i64.wrap n_2).tmod 30) > 0 then IntKind.i64.wrap (IntKind.i64.wrap (IntKind.i64.wrap (10 * (↑i.val.fst.length : Int)) + 5) - (IntKind.i64.wrap n_2).tmod 30) else 0),
 V.int IntKind.i64 (IntKind.i64.wrap (IntKind.i64.wrap (IntKind.i64.wrap (10 * (↑i.val.fst.length : Int)) + 5) + (IntKind.i64.wrap n_3).tmod 30))]]))))) ∧
 ∀ (i_1 : { q : Call × Int // TrCut i.val.fst i.val.snd a.length q }),
 ((i_1.val.fst.fst != 3) = true →
 NonN (↑i.val.fst.length : Int) ∧
 ∃ (e : List D),
 (ints IntKind.u8 d)[(↑i.val.fst.length : Int).toNat]? = some e ∧
 ∃ (n : Int),
 e[0]? = some (D.val (Value.int IntKind.u8 n)) ∧
 (((IntKind.i64.wrap n).tmod 7 == 0) = true →
 1 ≤ 1 ∧
 i.val.fst.length ≤ (List.map callR i.val.fst).length ∧
 (i.val.fst.length + 1) * 32 ≤ 140737488355328 ∧
 Nx (trLI a b c d) i
 ([V.dat (D.sl 1 (ints IntKind.u8 a)), V.dat (D.sl 1 (ints IntKind.u8 b)), V.dat (D.sl 1 (ints IntKind.u8 c)), V.dat (D.sl 1 (ints IntKind.u8 d)), V.int IntKind.i64 (↑a.length : Int), V.sl 0 0 (i.val.fst.length + 1), V.int IntKind.i64 i_1.val.snd,
 V.int IntKind.i64 (IntKind.i64.wrap ((↑i.val.fst.length : Int) + 1))],
 [KO.row 31 4 (List.take i.val.fst.length (List.map callR i.val.fst) ++ [[D.val (Value.int IntKind.i64 i_1.val.fst.fst), D.val (Value.int IntKind.i64 i_1.val.fst.snd.fst), D.val (Value.int IntKind.i64 i_1.val.fst.snd.snd.fst), D.val (Value.int IntKind.i64 (-1))]])])) ∧
 (((IntKind.i64.wrap n).tmod 7 == 0) = false →
 1 ≤ 1 ∧
 i.val.fst.length ≤ (List.map callR i.val.fst).length ∧
 (i.val.fst.length + 1) * 32 ≤ 140737488355328 ∧
 Nx (trLI a b c d) i
 ([V.dat (D.sl 1 (ints IntKind.u8 a)), V.dat (D.sl 1 (ints IntKind.u8 b)), V.dat (D.sl 1 (ints IntKind.u8 c)), V.dat (D.sl 1 (ints IntKind.u8 d)), V.int IntKind.i64 (↑a.length : Int), V.sl 0 0 (i.val.fst.length + 1), V.int IntKind.i64 i_1.val.snd,
 V.int IntKind.i64 (IntKind.i64.wrap ((↑i.val.fst.length : Int) + 1))],
 [KO.row 31 4
 (List.take i.val.fst.length (List.map callR i.val.fst) ++ [[D.val (Value.int IntKind.i64 i_1.val.fst.fst), D.val (Value.int IntKind.i64 i_1.val.fst.snd.fst), D.val (Value.int IntKind.i64 i_1.val.fst.snd.snd.fst), D.val (Value.int IntKind.i64 i_1.val.fst.snd.snd.snd)]])]))) ∧
 ((i_1.val.fst.fst != 3) = false →
 1 ≤ 1 ∧
 i.val.fst.length ≤ (List.map callR i.val.fst).length ∧
 (i.val.fst.length + 1) * 32 ≤ 140737488355328 ∧
 Nx (trLI a b c d) i
 ([V.dat (D.sl 1 (ints IntKind.u8 a)), V.dat (D.sl 1 (ints IntKind.u8 b)), V.dat (D.sl 1 (ints IntKind.u8 c)), V.dat (D.sl 1 (ints IntKind.u8 d)), V.int IntKind.i64 (↑a.length : Int), V.sl 0 0 (i.val.fst.length + 1), V.int IntKind.i64 i_1.val.snd,
 V.int IntKind.i64 (IntKind.i64.wrap ((↑i.val.fst.length : Int) + 1))],
 [KO.row 31 4 (List.take i.val.fst.length (List.map callR i.val.fst) ++ [[D.val (Value.int IntKind.i64 i_1.val.fst.fst), D.val (Value.int IntKind.i64 i_1.val.fst.snd.fst), D.val (Value.int IntKind.i64 i_1.val.fst.snd.snd.fst), D.val (Value.int IntKind.i64 i_1.val.fst.snd.snd.snd)]])]))) ∧
 (decide ((↑i.val.fst.length : Int) < (↑a.length : Int)) = false →
 (i.val.fst.length ≤ (List.map callR i.val.fst).length ∧ True) ∧
 ∃ (l : List Call),
 List.drop 0 (List.take i.val.fst.length (List.map callR i.val.fst)) = List.map callR l ∧
 l.length ≤ 1000 ∧
 ∀ (b : Bool) (o t : List Int),
 WiPost l b o →
 PlainS (ints IntKind.i64 (o ++ t)).flatten ∧
 (b = true →
 (i.val.fst.length ≤ (List.map callR i.val.fst).length ∧ o.length ≤ (ints IntKind.i64 (o ++ t)).length ∧ True) ∧
 ∃ (l : List Call), ∃ (o_1 : List Int), List.drop 0 (List.take i.val.fst.length (List.map callR i.val.fst)) = List.map callR l ∧ List.drop 0 (List.take o.length (ints IntKind.i64 (o ++ t))) = ints IntKind.i64 o_1 ∧ IsPre l o_1 ∧ ∀ (b : Bool), (b = true ↔ WitI l o_1) → True ∧ (b = true → true = true) ∧ (b = false → False)) ∧
 (b = false → False)))))))))
 ) : XL [] a b c d 4 [.dat (.sl 1 (ints .u8 a)), .dat (.sl 1 (ints .u8 b)), .dat (.sl 1 (ints .u8 c)), .dat (.sl 1 (ints .u8 d))] [] KT := Eq.mp (by kernel_rfl) h
theorem vcWider (l : List Call) (b d : List Int)  (h :
 (decide ((↑(List.map callR l).length : Int) > 10) = true → true = true) ∧
 (decide ((↑(List.map callR l).length : Int) > 10) = false →
 (decide ((↑(ints IntKind.u8 b).length : Int) < (↑(List.map callR l).length : Int)) = true → true = true) ∧
 (decide ((↑(ints IntKind.u8 b).length : Int) < (↑(List.map callR l).length : Int)) = false →
 (decide ((↑(ints IntKind.u8 d).length : Int) < (↑(List.map callR l).length : Int)) = true → true = true) ∧
 (decide ((↑(ints IntKind.u8 d).length : Int) < (↑(List.map callR l).length : Int)) = false →
 (decide ((↑(ints IntKind.u8 b).length : Int) > 99) = true → true = true) ∧
 (decide ((↑(ints IntKind.u8 b).length : Int) > 99) = false →
 (decide ((↑(ints IntKind.u8 d).length : Int) > 99) = true → true = true) ∧
 (decide ((↑(ints IntKind.u8 d).length : Int) > 99) = false →
 At (widLI l b d) ([V.dat (D.sl 4 (List.map callR l)), V.dat (D.sl 1 (ints IntKind.u8 b)), V.dat (D.sl 1 (ints IntKind.u8 d)), V.sl 0 0 0, V.int IntKind.i64 0], [KO.row 31 4 []]) ∧
 ∀ (i : { m : List Call // WiInv l m }),
 (decide ((↑i.val.length : Int) < (↑(List.map callR l).length : Int)) = true →
 NonN (↑i.val.length : Int) ∧
 ∃ (e : List D),
 (List.map callR l)[(↑i.val.length : Int).toNat]? = some e ∧
 ∃ (n : Int),
 e[0]? = some (D.val (Value.int IntKind.i64 n)) ∧
 ∃ (n_1 : Int),
 e[1]? = some (D.val (Value.int IntKind.i64 n_1)) ∧
 ∃ (n_2 : Int),
 e[2]? = some (D.val (Value.int IntKind.i64 n_2)) ∧
 ∃ (n_3 : Int),
 e[3]? = some (D.val (Value.int IntKind.i64 n_3)) ∧
 (decide (n_2 < 0) = true → true = true) ∧
 (decide (n_2 < 0) = false →
 (decide (n_2 > 1099511627776) = true → true = true) ∧
 (decide (n_2 > 1099511627776) = false →
 (decide (n_3 > 1099511627776) = true → true = true) ∧
 (decide (n_3 > 1099511627776) = false →
 NonN (↑i.val.length : Int) ∧
 ∃ (e : List D),
 (ints IntKind.u8 b)[(↑i.val.length : Int).toNat]? = some e ∧
 ∃ (n_4 : Int),
 e[0]? = some (D.val (Value.int IntKind.u8 n_4)) ∧
 (decide (n_3 ≥ 0) = true →
 NonN (↑i.val.length : Int) ∧
 ∃ (e : List D),
 (ints IntKind.u8 d)[(↑i.val.length : Int).toNat]? = some e ∧
 ∃ (n_5 : Int),
 e[0]? = some (D.val (Value.int IntKind.u8 n_5)) ∧
 ((n != 3) = true →
 NonN (↑i.val.length : Int) ∧
 ∃ (e : List D),
 (ints IntKind.u8 d)[(↑i.val.length : Int).toNat]? = some e ∧
 ∃ (n_6 : Int),
 e[0]? = some (D.val (Value.int IntKind.u8 n_6)) ∧
 (decide (n_6 > 200) = true →
 1 ≤ 1 ∧
 i.val.length ≤ (List.map callR i.val).length ∧
 (i.val.length + 1) * 32 ≤ 140737488355328 ∧
 Nx (widLI l b d) i
 ([V.dat (D.sl 4 (List.map callR l)), V.dat (D.sl 1 (ints IntKind.u8 b)), V.dat (D.sl 1 (ints IntKind.u8 d)), V.sl 0 0 (i.val.length + 1), V.int IntKind.i64 (IntKind.i64.wrap ((↑i.val.length : Int) + 1))],
 [KO.row 31 4
 (List.take i.val.length (List.map callR i.val) ++
 [[D.val (Value.int IntKind.i64 n), D.val (Value.int IntKind.i64 n_1), D.val (Value.int IntKind.i64 (if IntKind.i64.wrap (n_2 - (IntKind.i64.wrap n_4).tmod 9) > 0 then IntKind.i64.wrap (n_2 - (IntKind.i64.wrap n_4).tmod 9) else 0)), D.val (Value.int IntKind.i64 (-1))]])])) ∧
 (decide (n_6 > 200) = false →
 1 ≤ 1 ∧
 i.val.length ≤ (List.map callR i.val).length ∧
 (i.val.length + 1) * 32 ≤ 140737488355328 ∧
 Nx (widLI l b d) i
 ([V.dat (D.sl 4 (List.map callR l)), V.dat (D.sl 1 (ints IntKind.u8 b)), V.dat (D.sl 1 (ints IntKind.u8 d)), V.sl 0 0 (i.val.length + 1), V.int IntKind.i64 (IntKind.i64.wrap ((↑i.val.length : Int) + 1))],
 [KO.row 31 4
 (List.take i.val.length (List.map callR i.val) ++
 [[D.val (Value.int IntKind.i64 n), D.val (Value.int IntKind.i64 n_1), D.val (Value.int IntKind.i64 (if IntKind.i64.wrap (n_2 - (IntKind.i64.wrap n_4).tmod 9) > 0 then IntKind.i64.wrap (n_2 - (IntKind.i64.wrap n_4).tmod 9) else 0)),
 D.val (Value.int IntKind.i64 (IntKind.i64.wrap (n_3 + (IntKind.i64.wrap n_5).tmod 9)))]])]))) ∧
 ((n != 3) = false →
 1 ≤ 1 ∧
 i.val.length ≤ (List.map callR i.val).length ∧
 (i.val.length + 1) * 32 ≤ 140737488355328 ∧
 Nx (widLI l b d) i
 ([V.dat (D.sl 4 (List.map callR l)), V.dat (D.sl 1 (ints IntKind.u8 b)), V.dat (D.sl 1 (ints IntKind.u8 d)), V.sl 0 0 (i.val.length + 1), V.int IntKind.i64 (IntKind.i64.wrap ((↑i.val.length : Int) + 1))],
 [KO.row 31 4
 (List.take i.val.length (List.map callR i.val) ++
 [[D.val (Value.int IntKind.i64 n), D.val (Value.int IntKind.i64 n_1), D.val (Value.int IntKind.i64 (if IntKind.i64.wrap (n_2 - (IntKind.i64.wrap n_4).tmod 9) > 0 then IntKind.i64.wrap (n_2 - (IntKind.i64.wrap n_4).tmod 9) else 0)),
 D.val (Value.int IntKind.i64 (IntKind.i64.wrap (n_3 + (IntKind.i64.wrap n_5).tmod 9)))]])]))) ∧
 (decide (n_3 ≥ 0) = false →
 1 ≤ 1 ∧
 i.val.length ≤ (List.map callR i.val).length ∧
 (i.val.length + 1) * 32 ≤ 140737488355328 ∧
 Nx (widLI l b d) i
 ([V.dat (D.sl 4 (List.map callR l)), V.dat (D.sl 1 (ints IntKind.u8 b)), V.dat (D.sl 1 (ints IntKind.u8 d)), V.sl 0 0 (i.val.length + 1), V.int IntKind.i64 (IntKind.i64.wrap ((↑i.val.length : Int) + 1))],
 [KO.row 31 4
 (List.take i.val.length (List.map callR i.val) ++
 [[D.val (Value.int IntKind.i64 n), D.val (Value.int IntKind.i64 n_1), D.val (Value.int IntKind.i64 (if IntKind.i64.wrap (n_2 - (IntKind.i64.wrap n_4).tmod 9) > 0 then IntKind.i64.wrap (n_2 - (IntKind.i64.wrap n_4).tmod 9) else 0)), D.val (Value.int IntKind.i64 n_3)]])])))))) ∧
 (decide ((↑i.val.length : Int) < (↑(List.map callR l).length : Int)) = false →
 ∃ (l_1 : List Call),
 List.map callR l = List.map callR l_1 ∧
 l_1.length ≤ 1000 ∧
 ∀ (b : Bool) (o t : List Int),
 WiPost l_1 b o →
 (i.val.length ≤ (List.map callR i.val).length ∧ True) ∧
 ∃ (l_2 : List Call), List.drop 0 (List.take i.val.length (List.map callR i.val)) = List.map callR l_2 ∧ l_2.length ≤ 1000 ∧ ∀ (b_1 : Bool) (o t : List Int), WiPost l_2 b_1 o → PlainS (ints IntKind.i64 (o ++ t)).flatten ∧ ((!b) = true → true = true) ∧ ((!b) = false → (b_1 = true → true = true) ∧ (b_1 = false → False))))))))
 ) : XL l [] b [] d 6 [.dat (.sl 4 (l.map callR)), .dat (.sl 1 (ints .u8 b)), .dat (.sl 1 (ints .u8 d))] [] KT := Eq.mp (by kernel_rfl) h
theorem plainS_ints {k : IntKind} {l : List Int} : PlainS (ints k l).flatten := ⟨plain_ints⟩
theorem takeO {k : IntKind} {o t : List Int} : List.drop 0 (List.take o.length (ints k (o ++ t))) = ints k o := by
  rw [List.drop_zero, ints_take, List.take_left]
theorem takeR {m : List Call} : List.drop 0 (List.take m.length (m.map callR)) = m.map callR := by
  rw [List.drop_zero]; exact List.take_of_length_le (by simp)
theorem leO {k : IntKind} {o t : List Int} : o.length ≤ (ints k (o ++ t)).length := by rw [ints_len, List.length_append]; omega
theorem wi_true {l : List Call} {b : Bool} {o : List Int} (h : WiPost l b o) (hl : l.length ≤ 14) (hw : ∃ r, Wit l r) : b = true := by
  cases b
  · rcases (h.f rfl).2 with h1 | h1
    · omega
    · exact absurd hw h1
  · rfl
theorem wi_false {l : List Call} {b : Bool} {o : List Int} (h : WiPost l b o) (hw : ¬ ∃ r, Wit l r) : b = false := by
  cases b
  · rfl
  · obtain ⟨r, _, hr⟩ := h.t rfl
    exact absurd ⟨r, hr⟩ hw
def ex1 : List Call := [(1, 1, 0, 3), (3, 1, 1, 2)]
def ex2 : List Call := [(3, 1, 0, 0)]
theorem ex1_wit : Wit ex1 [0, 1] := by
  refine ⟨⟨by decide, by simp, ?_, ?_, by simp, ⟨by decide, by decide, ?_, ?_, ?_, trivial⟩⟩, fun k hk => ?_⟩
  · show ¬ unC (1, 1, 0, 3); decide
  · show fitC (1, 1, 0, 3) 0; decide
  · show ¬ unC (3, 1, 1, 2); decide
  · show fitC (3, 1, 1, 2) 1; decide
  · intro j hj
    simp at hj; subst hj
    show ¬ ahC (3, 1, 1, 2) (1, 1, 0, 3); decide
  · have hk' : k < 2 := hk
    have : k = 0 ∨ k = 1 := by omega
    rcases this with rfl | rfl
    · exact ⟨(by decide : okC (1, 1, 0, 3)), fun _ => by simp⟩
    · exact ⟨(by decide : okC (3, 1, 1, 2)), fun _ => by simp⟩
theorem ex1_only {r : List Nat} (h : Wit ex1 r) : r = [0, 1] := by
  obtain ⟨h1, h2⟩ := h
  have m0 : 0 ∈ r := (h2 0 (by decide)).2 (by decide)
  have m1 : 1 ∈ r := (h2 1 (by decide)).2 (by decide)
  cases r with
  | nil => cases m0
  | cons k s =>
    obtain ⟨a, b, c, d, e, f⟩ := h1
    have hk : k < 2 := a
    have hk0 : k ≠ 1 := fun h => by
      subst h
      exact absurd d (by decide : ¬ fitC (3, 1, 1, 2) 0)
    have : k = 0 := by omega
    subst this
    have m1' : 1 ∈ s := by simpa using m1
    cases s with
    | nil => cases m1'
    | cons k' s' =>
      obtain ⟨a', b', c', d', e', f'⟩ := f
      have hk' : k' < 2 := a'
      have : k' ≠ 0 := fun h => b' (by simp [h])
      have : k' = 1 := by omega
      subst this
      cases s' with
      | nil => rfl
      | cons k2 s2 =>
        obtain ⟨a2, b2, _⟩ := f'
        have ha2 : k2 < 2 := a2
        exact absurd (show k2 ∈ [] ++ [0] ++ [1] by simp; omega) b2
theorem ex2_no : ¬ ∃ r, Wit ex2 r := by
  rintro ⟨r, h1, h2⟩
  have m0 : 0 ∈ r := (h2 0 (by decide)).2 (by decide)
  cases r with
  | nil => cases m0
  | cons k s =>
    obtain ⟨a, b, c, d, e, f⟩ := h1
    have hk : k < 1 := a
    have : k = 0 := by omega
    subst this
    exact absurd d (by decide : ¬ fitC (3, 1, 0, 0) 0)
theorem awS_ok : AllOk Try.prog awS := fun f k h => by
  unfold awS at h
  split at h
  · cases h; exact okWit
  · cases h; exact okAny _
  · cases h; exact okRefIs
  · cases h; exact okIs
  · exact smS_ok _ _ h
theorem XAw_ok : CallOk Try.prog XAw := callS_ok mixed awS_ok noT 10
theorem okAwake : SpecOk Try.prog 8 Sawake := specOk_of' XAw_ok mixed (fun args kb K h => by
  unfold Sawake at h; split at h <;> try exact h.elim
  refine ⟨noT 8, vcAwake K ⟨⟨Nat.le_refl _, trivial⟩, ex1, rfl, by decide, fun b o t hb => ⟨plainS_ints, ⟨Nat.le_refl _, trivial⟩, ex2, rfl, by decide, fun b1 o1 t1 hb1 => ⟨plainS_ints, fun h1 => ?_, fun h1 => ?_⟩⟩⟩⟩
  · obtain ⟨r, hr, hw⟩ := hb.t h1
    have := ex1_only hw
    subst this
    refine ⟨⟨leO, Nat.le_refl _, trivial⟩, o, [0, 1], takeO, rfl, by rw [hr]; exact (by decide : 2 ≤ 1000000), trivial, fun h2 => ?_, fun h2 => ?_⟩
    · rw [wi_false hb1 ex2_no]; exact h
    · rw [hr] at h2; exact absurd h2 (by decide)
  · rw [wi_true hb (by decide) ⟨_, ex1_wit⟩] at h1; cases h1)
theorem lawS_ok : AllOk Try.prog lawS := fun f k h => by
  unfold lawS at h
  split at h
  · cases h; exact okAwake
  · exact awS_ok _ _ h
theorem XL_ok (l : List Call) (a b c d : List Int) : CallOk Try.prog (XL l a b c d) := callS_ok mixed lawS_ok _ 10
theorem lawFinds (l : List Call) : XL l [] [] [] [] 3 [.dat (.sl 4 (l.map callR))] [] KT := by
  refine vcFinds l ⟨fun _ => rfl, fun h5 => ?_⟩
  simp only [List.length_map, decide_eq_false_iff_not] at h5
  refine ⟨l, rfl, by omega, fun b o t hb => ⟨l, [], rfl, rfl, ⟨by omega, List.nodup_nil, by simp, by simp; omega⟩, fun b1 hb1 => ?_⟩⟩
  simp only [List.nil_append] at hb1
  have hbb : b = b1 := by
    cases b
    · cases b1
      · rfl
      · rcases (hb.f rfl).2 with h1 | h1
        · omega
        · exact absurd (hb1.1 rfl) h1
    · obtain ⟨r, _, hr⟩ := hb.t rfl
      exact (hb1.2 ⟨r, hr⟩).symm
  subst hbb
  refine ⟨fun _ => ⟨fun hn => ⟨fun _ => rfl, fun hf => ⟨fun _ => rfl, fun h0 => ?_⟩⟩, fun hn => ⟨⟨trivial, leO, trivial⟩, l, o, rfl, takeO, ?_, fun b2 hb2 => ⟨trivial, fun _ => ⟨fun _ => rfl, fun hf => ?_⟩, fun h2 => ?_⟩⟩⟩, fun hne => by simp at hne⟩
  · rw [(hb.f hf).1] at h0; simp at h0
  · refine ⟨by omega, ?_⟩
    simp only [Bool.not_eq_false'] at hn
    obtain ⟨r, rfl, hr⟩ := hb.t hn
    have := nodup_le (n := l.length) (r := r) ?_ (run_lt hr.1)
    · simp only [List.length_map]; omega
    · exact run_nodup hr.1
  · simp only [Bool.not_eq_false'] at hn
    rw [hn] at hf; cases hf
  · simp only [Bool.not_eq_false'] at hn
    rw [hb2.2 (hb.t hn)] at h2; cases h2
theorem lawIs (l : List Call) (o : List Int) : XL l o [] [] [] 7 [.dat (.sl 4 (l.map callR)), .dat (.sl 1 (ints .i64 o))] [] KT := by
  refine vcLIs l o ⟨fun _ => rfl, fun h1 => ⟨fun _ => rfl, fun h2 => ?_⟩⟩
  simp only [List.length_map, ints_len, decide_eq_false_iff_not] at h1 h2
  refine ⟨l, o, rfl, rfl, ⟨by omega, by omega⟩, fun b hb => ⟨l, o, rfl, rfl, ⟨by omega, by omega⟩, fun b1 hb1 => ⟨fun _ => rfl, fun hne => ?_⟩⟩⟩
  have : b = b1 := Bool.eq_iff_iff.2 (hb.trans hb1.symm)
  subst this
  simp at hne
theorem lawStale (a b g : Int) (ha : 0 ≤ a ∧ a < 256) (hb : 0 ≤ b ∧ b < 256) (hg : 0 ≤ g ∧ g < 256) : XL [] [] [] [] [] 5 [.int .u8 a, .int .u8 b, .int .u8 g] [] KT := by
  refine vcStale a b g ⟨fun _ => rfl, fun hab => ?_⟩
  simp only [beq_eq_false_iff_ne, ne_eq] at hab
  rw [w64 (n := a) (by omega) (by omega), w64 (n := b) (by omega) (by omega), w64 (n := g) (by omega) (by omega), w64 (n := 1 + a) (by omega) (by omega), w64 (n := 1 + b) (by omega) (by omega), w64 (n := 10 + g) (by omega) (by omega), w64 (n := 10 + g + 1) (by omega) (by omega), w64 (n := 10 + g + 2) (by omega) (by omega)]
  refine ⟨⟨Nat.le_refl _, trivial⟩, [(1, 1 + a, 0, 1), (1, 1 + b, 2, 10 + g), (3, 1 + a, 10 + g + 1, 10 + g + 2)], rfl, by simp, fun b1 o t h1 => ⟨plainS_ints, by unfold InB; omega, _, rfl, by decide, ⟨Nat.le_refl _, trivial⟩, [(1, 1 + a, 0, 1), (1, 1 + b, 2, 10 + g), (3, 1 + a, 10 + g, 10 + g + 2)], rfl, by simp, fun b2 o2 t2 h2 => ⟨plainS_ints, fun _ => ⟨fun _ => rfl, fun hf => ?_⟩, fun hf => ?_⟩⟩⟩
  · refine absurd (wi_true h2 (by simp) ⟨[0, 2, 1], ⟨by simp, by simp, ?_, ?_, by simp, by simp, by simp, ?_, ?_, ?_, by simp, by simp, ?_, ?_, ?_, trivial⟩, fun k hk => ?_⟩) (by rw [hf]; simp)
    · show ¬ unC (1, 1 + a, 0, 1); unfold unC; simp
    · show fitC (1, 1 + a, 0, 1) 0; unfold fitC; simp
    · show ¬ unC (3, 1 + a, 10 + g, 10 + g + 2); unfold unC; simp; omega
    · show fitC (3, 1 + a, 10 + g, 10 + g + 2) (1 + a); unfold fitC; simp
    · intro j hj; simp at hj; subst hj
      show ¬ ahC (3, 1 + a, 10 + g, 10 + g + 2) (1, 1 + a, 0, 1); unfold ahC; simp; omega
    · show ¬ unC (1, 1 + b, 2, 10 + g); unfold unC; simp
    · show fitC (1, 1 + b, 2, 10 + g) _; unfold fitC; simp
    · intro j hj; simp at hj
      rcases hj with rfl | rfl
      · show ¬ ahC (1, 1 + b, 2, 10 + g) (1, 1 + a, 0, 1); unfold ahC; simp; omega
      · show ¬ ahC (1, 1 + b, 2, 10 + g) (3, 1 + a, 10 + g, 10 + g + 2); unfold ahC; simp
    · have hk' : k < 3 := hk
      have : k = 0 ∨ k = 1 ∨ k = 2 := by omega
      rcases this with rfl | rfl | rfl
      · exact ⟨show okC (1, 1 + a, 0, 1) by unfold okC; simp, fun _ => by simp⟩
      · exact ⟨show okC (1, 1 + b, 2, 10 + g) by unfold okC; simp; omega, fun _ => by simp⟩
      · exact ⟨show okC (3, 1 + a, 10 + g, 10 + g + 2) by unfold okC; simp; omega, fun _ => by simp⟩
  · simp only [Bool.not_eq_false'] at hf
    obtain ⟨r, _, hr, hc⟩ := h1.t hf
    have m0 : 0 ∈ r := (hc 0 (by simp)).2 (show (1 : Int) ≠ -1 by decide)
    have m1 : 1 ∈ r := (hc 1 (by simp)).2 (show 10 + g ≠ -1 by omega)
    have m2 : 2 ∈ r := (hc 2 (by simp)).2 (show 10 + g + 2 ≠ -1 by omega)
    have a01 : ahC (1, 1 + a, 0, 1) (1, 1 + b, 2, 10 + g) := by unfold ahC; simp
    have a02 : ahC (1, 1 + a, 0, 1) (3, 1 + a, 10 + g + 1, 10 + g + 2) := by unfold ahC; simp; omega
    have a12 : ahC (1, 1 + b, 2, 10 + g) (3, 1 + a, 10 + g + 1, 10 + g + 2) := by unfold ahC; simp; omega
    cases r with
    | nil => cases m0
    | cons k s =>
      obtain ⟨q1, q2, q3, q4, q5, q6⟩ := hr
      have hk : k < 3 := q1
      have hk0 : k = 0 := by
        have : k = 0 ∨ k = 1 ∨ k = 2 := by omega
        rcases this with rfl | rfl | rfl
        · rfl
        · exact absurd a01 (run_later q6 (show 0 ∈ s by simpa using m0) (show 1 ∈ [] ++ [1] by simp))
        · exact absurd a02 (run_later q6 (show 0 ∈ s by simpa using m0) (show 2 ∈ [] ++ [2] by simp))
      subst hk0
      have m1' : 1 ∈ s := by simpa using m1
      have m2' : 2 ∈ s := by simpa using m2
      cases s with
      | nil => cases m1'
      | cons k s =>
        obtain ⟨p1, p2, p3, p4, p5, p6⟩ := q6
        have hk : k < 3 := p1
        have hk0 : k = 1 := by
          have : k = 0 ∨ k = 1 ∨ k = 2 := by omega
          rcases this with rfl | rfl | rfl
          · exact absurd (show 0 ∈ [] ++ [0] by simp) p2
          · rfl
          · exact absurd a12 (run_later p6 (show 1 ∈ s by simpa using m1') (show 2 ∈ [] ++ [0] ++ [2] by simp))
        subst hk0
        have m2'' : 2 ∈ s := by simpa using m2'
        cases s with
        | nil => cases m2''
        | cons k s =>
          obtain ⟨t1, t2, t3, t4, t5, t6⟩ := p6
          have hk : k < 3 := t1
          have hk0 : k = 2 := by
            have : k = 0 ∨ k = 1 ∨ k = 2 := by omega
            rcases this with rfl | rfl | rfl
            · exact absurd (show 0 ∈ [] ++ [0] ++ [1] by simp) t2
            · exact absurd (show 1 ∈ [] ++ [0] ++ [1] by simp) t2
            · rfl
          subst hk0
          have h4 : fitC (3, 1 + a, 10 + g + 1, 10 + g + 2) (1 + b) := t4
          unfold fitC at h4
          simp at h4
          omega
theorem chain_snoc : ∀ {l : List Call} {v w : Int} {c : Call}, ChainV v l w → fitC c w → ChainV v (l ++ [c]) (nxC c w)
  | [], v, w, c, h, hf => by
    have : v = w := h
    subst this
    exact ⟨hf, rfl⟩
  | x :: l, v, w, c, h, hf => ⟨h.1, chain_snoc h.2 hf⟩
theorem atC_app {l : List Call} {c : Call} {i : Nat} : atC (l ++ [c]) i = if i < l.length then atC l i else if i = l.length then c else (0, 0, 0, 0) := by
  unfold atC
  simp only [List.getD_eq_getElem?_getD]
  split
  · rename_i h; rw [List.getElem?_append_left h]
  · rename_i h
    rw [List.getElem?_append_right (by omega)]
    split
    · rename_i h2; subst h2; simp
    · rename_i h2; rw [List.getElem?_eq_none (by simp; omega)]; rfl
theorem true_run {l : List Call} (ok : ∀ i, i < l.length → TrueC i (atC l i)) : ∀ (n i : Nat) (v w : Int), i + n = l.length → ChainV v (l.drop i) w → Run l (List.range i) v (List.range' i n)
  | 0, i, v, w, hn, h => trivial
  | n + 1, i, v, w, hn, h => by
    have hi : i < l.length := by omega
    have hc := ok i hi
    have e : l.drop i = atC l i :: l.drop (i + 1) := by
      rw [List.drop_eq_getElem_cons hi]
      congr 1
      have := atC_get hi
      rw [List.getElem?_eq_getElem hi, Option.some.injEq] at this
      exact this
    rw [e] at h
    rw [List.range'_succ]
    refine ⟨hi, by simp, fun hu => ?_, h.1, fun j hj ha => ?_, ?_⟩
    · rcases hc.hi with ⟨h1, h2⟩ | h1
      · exact h2 hu.1
      · have := hu.2; omega
    · have hj' : j < i := by simpa using hj
      have h2 := ok j (by omega)
      have h3 := h2.at'
      rcases hc.hi with ⟨h1, _⟩ | h1
      · exact ha.1 h1
      · have := ha.2; omega
    · rw [← List.range_succ]
      exact true_run ok n (i + 1) _ w (by omega) h.2
theorem true_wit {l : List Call} {v : Int} {n : Nat} (h : TrInv l v n) : ∃ r, Wit l r := by
  refine ⟨List.range' 0 l.length, ?_, fun k hk => ⟨?_, fun _ => ?_⟩⟩
  · have := true_run h.ok l.length 0 0 v (by omega) (by simpa using h.run)
    simpa using this
  · have := h.ok k hk
    have h1 := this.kind
    have h2 := this.lo
    have h3 := this.at'
    unfold okC
    rcases this.hi with ⟨h4, h5⟩ | h4
    · omega
    · omega
  · simp; omega
theorem tr_step {l : List Call} {v : Int} {n : Nat} {q : Call × Int} (hc : TrCut l v n q) {e : Int} (he : e = q.1.2.2.2 ∨ e = -1 ∧ q.1.1 ≠ 3) : TrInv (l ++ [(q.1.1, q.1.2.1, q.1.2.2.1, e)]) q.2 n := by
  refine ⟨by have := hc.lt; rw [List.length_append, List.length_singleton]; omega, fun i hi => ?_, ?_⟩
  · rw [atC_app]
    split
    · rename_i h; exact hc.inv.ok i h
    · rename_i h
      have : i = l.length := by rw [List.length_append, List.length_singleton] at hi; omega
      subst this
      rw [if_pos rfl]
      refine ⟨hc.ok.kind, hc.ok.lo, hc.ok.at', ?_⟩
      have := hc.fin
      rcases he with rfl | ⟨rfl, h3⟩
      · exact .inr this
      · exact .inl ⟨rfl, h3⟩
  · have h1 := chain_snoc (c := (q.1.1, q.1.2.1, q.1.2.2.1, e)) hc.inv.run (show fitC _ v from hc.fit)
    have h2 : nxC (q.1.1, q.1.2.1, q.1.2.2.1, e) v = q.2 := hc.nx
    rwa [h2] at h1
theorem snocR {m : List Call} {c : Call} : List.take m.length (m.map callR) ++ [[D.val (.int .i64 c.1), D.val (.int .i64 c.2.1), D.val (.int .i64 c.2.2.1), D.val (.int .i64 c.2.2.2)]] = (m ++ [c]).map callR := by
  rw [List.map_append, List.take_of_length_le (by simp)]; rfl
theorem u8_get {a : List Int} (ha : Byt a) {i : Nat} (h : i < a.length) : (ints .u8 a)[((i : Nat) : Int).toNat]? = some [D.val (.int .u8 a[i])] ∧ 0 ≤ a[i] ∧ a[i] < 256 := by
  refine ⟨by rw [Int.toNat_natCast, ints_get, List.getElem?_eq_getElem h]; rfl, ha _ (List.getElem_mem _)⟩
theorem lawTrue (a b c d : List Int) (ha : Byt a) (hb : Byt b) (hc : Byt c) (hd : Byt d) : XL [] a b c d 4 [.dat (.sl 1 (ints .u8 a)), .dat (.sl 1 (ints .u8 b)), .dat (.sl 1 (ints .u8 c)), .dat (.sl 1 (ints .u8 d))] [] KT := by
  refine vcTrue a b c d ?_
  simp only [ints_len, decide_eq_true_eq, decide_eq_false_iff_not]
  refine ⟨fun _ => trivial, fun h1 => ⟨fun _ => trivial, fun h2 => ⟨fun _ => trivial, fun h3 => ⟨fun _ => trivial, fun h4 => ⟨fun _ => trivial, fun h5 => ⟨fun _ => trivial, fun h6 => ⟨fun _ => trivial, fun h7 => ⟨?_, ?_⟩⟩⟩⟩⟩⟩⟩⟩
  · exact At.mk' ⟨([], 0), Nat.zero_le _, fun i hi => absurd hi (Nat.not_lt_zero _), rfl⟩ rfl
  rintro ⟨⟨l, v⟩, hp⟩
  have hle := hp.le
  simp only at hle
  refine ⟨fun hlt => ?_, fun hlt => ?_⟩
  · have hla : l.length < a.length := Int.ofNat_lt.1 hlt
    obtain ⟨ga, a0, a1⟩ := u8_get ha hla
    obtain ⟨gb, b0, b1⟩ := u8_get hb (show l.length < b.length by omega)
    obtain ⟨gc, c0, c1⟩ := u8_get hc (show l.length < c.length by omega)
    obtain ⟨gd, d0, d1⟩ := u8_get hd (show l.length < d.length by omega)
    generalize a[l.length] = x at ga a0 a1
    generalize b[l.length] = y at gb b0 b1
    generalize c[l.length] = z at gc c0 c1
    generalize hu : d[l.length] = u at gd d0 d1
    refine ⟨by unfold NonN; show (0 : Int) ≤ (l.length : Int); omega, _, ga, x, rfl, by unfold NonN; show (0 : Int) ≤ (l.length : Int); omega, _, gb, y, rfl, by unfold NonN; show (0 : Int) ≤ (l.length : Int); omega, _, gc, z, rfl, by unfold NonN; show (0 : Int) ≤ (l.length : Int); omega, _, gd, u, rfl, ⟨u, rfl, ⟨rfl⟩⟩, ⟨z, rfl, ⟨rfl⟩⟩, ⟨y, rfl, ⟨rfl⟩⟩, ⟨x, rfl, ⟨rfl⟩⟩, ?_⟩
    have w1 : IntKind.i64.wrap (1 + (IntKind.i64.wrap x).tmod 3) = 1 + x % 3 := by
      rw [w64 (n := x) (by omega) (by omega), Int.tmod_eq_emod_of_nonneg a0, w64 (by omega) (by omega)]
    have w2 : IntKind.i64.wrap (1 + (IntKind.i64.wrap y).tmod 5) = 1 + y % 5 := by
      rw [w64 (n := y) (by omega) (by omega), Int.tmod_eq_emod_of_nonneg b0, w64 (by omega) (by omega)]
    have w3 : IntKind.i64.wrap (IntKind.i64.wrap (IntKind.i64.wrap (10 * (l.length : Int)) + 5) - (IntKind.i64.wrap z).tmod 30) = 10 * (l.length : Int) + 5 - z % 30 := by
      rw [w64 (n := z) (by omega) (by omega), Int.tmod_eq_emod_of_nonneg c0, w64 (n := 10 * (l.length : Int)) (by omega) (by omega), w64 (n := 10 * (l.length : Int) + 5) (by omega) (by omega), w64 (by omega) (by omega)]
    have w4 : IntKind.i64.wrap (IntKind.i64.wrap (IntKind.i64.wrap (10 * (l.length : Int)) + 5) + (IntKind.i64.wrap u).tmod 30) = 10 * (l.length : Int) + 5 + u % 30 := by
      rw [w64 (n := u) (by omega) (by omega), Int.tmod_eq_emod_of_nonneg d0, w64 (n := 10 * (l.length : Int)) (by omega) (by omega), w64 (n := 10 * (l.length : Int) + 5) (by omega) (by omega), w64 (by omega) (by omega)]
    simp only [w1, w2, w3, w4]
    have hB : 0 ≤ (if 10 * (l.length : Int) + 5 - z % 30 > 0 then 10 * (l.length : Int) + 5 - z % 30 else 0) ∧ (if 10 * (l.length : Int) + 5 - z % 30 > 0 then 10 * (l.length : Int) + 5 - z % 30 else 0) ≤ 10 * (l.length : Int) + 5 := by split <;> omega
    generalize (if 10 * (l.length : Int) + 5 - z % 30 > 0 then 10 * (l.length : Int) + 5 - z % 30 else 0) = B at hB
    have cut : ∀ V w, fitC (1 + x % 3, V, B, 10 * (l.length : Int) + 5 + u % 30) v → nxC (1 + x % 3, V, B, 10 * (l.length : Int) + 5 + u % 30) v = w → TrCut l v a.length ((1 + x % 3, V, B, 10 * (l.length : Int) + 5 + u % 30), w) := fun V w h1 h2 =>
      ⟨hp, hla, ⟨by simp only; omega, hB.1, hB.2, .inr (by simp only; omega)⟩, by simp only; omega, h1, h2⟩
    refine ⟨⟨fun k1 => ?_, fun k1 => ⟨fun k2 => ?_, fun k2 => ⟨fun k3 => ?_, fun k3 => ?_⟩⟩⟩, ?_⟩
    · simp only [beq_iff_eq] at k1
      exact At.mk' ⟨_, cut (1 + y % 5) (1 + y % 5) (.inl k1) (by unfold nxC; rw [if_pos k1])⟩ rfl
    · simp only [beq_iff_eq, beq_eq_false_iff_ne, ne_eq] at k1 k2
      exact At.mk' ⟨_, cut (1 + y % 5) 0 (.inr (.inl k2)) (by unfold nxC; rw [if_neg k1, if_pos k2])⟩ rfl
    · simp only [beq_iff_eq, beq_eq_false_iff_ne, ne_eq] at k1 k2 k3
      exact At.mk' ⟨_, cut v v (.inr (.inr rfl)) (by unfold nxC; rw [if_neg k1, if_neg k2])⟩ rfl
    · simp only [beq_eq_false_iff_ne, ne_eq] at k1 k2 k3
      omega
    rintro ⟨q, hq⟩
    have nx : ∀ e, (e = q.1.2.2.2 ∨ e = -1 ∧ q.1.1 ≠ 3) → Nx (trLI a b c d) ⟨(l, v), hp⟩ ([V.dat (D.sl 1 (ints .u8 a)), V.dat (D.sl 1 (ints .u8 b)), V.dat (D.sl 1 (ints .u8 c)), V.dat (D.sl 1 (ints .u8 d)), V.int .i64 (a.length : Int), V.sl 0 0 (l.length + 1), V.int .i64 q.2, V.int .i64 (IntKind.i64.wrap ((l.length : Int) + 1))],
        [KO.row 31 4 (List.take l.length (l.map callR) ++ [[D.val (.int .i64 q.1.1), D.val (.int .i64 q.1.2.1), D.val (.int .i64 q.1.2.2.1), D.val (.int .i64 e)]])]) := fun e he => by
      have hlen : (l ++ [(q.1.1, q.1.2.1, q.1.2.2.1, e)]).length = l.length + 1 := by rw [List.length_append, List.length_singleton]
      refine Nx.mk' (⟨(l ++ [(q.1.1, q.1.2.1, q.1.2.2.1, e)], q.2), tr_step hq he⟩ : {p : List Call × Int // TrInv p.1 p.2 a.length}) ?_ (by show a.length - (l ++ [(q.1.1, q.1.2.1, q.1.2.2.1, e)]).length < a.length - l.length; omega)
      show (_ : List V × KB) = _
      have e1 : (l.length : Int) + 1 = (((l ++ [(q.1.1, q.1.2.1, q.1.2.2.1, e)]).length : Nat) : Int) := by rw [hlen]; rfl
      rw [w64 (n := (l.length : Int) + 1) (by omega) (by omega), snocR (c := (q.1.1, q.1.2.1, q.1.2.2.1, e)), e1, ← hlen]
    have hcap : 1 ≤ 1 ∧ l.length ≤ (l.map callR).length ∧ (l.length + 1) * 32 ≤ 140737488355328 := ⟨Nat.le_refl _, by simp, by omega⟩
    refine ⟨fun k3 => ⟨by unfold NonN; show (0 : Int) ≤ (l.length : Int); omega, _, gd, u, rfl, fun k7 => ?_, fun k7 => ?_⟩, fun k3 => ?_⟩
    · simp only [bne_iff_ne, ne_eq] at k3
      exact ⟨hcap.1, hcap.2.1, hcap.2.2, nx (-1) (.inr ⟨rfl, k3⟩)⟩
    · exact ⟨hcap.1, hcap.2.1, hcap.2.2, nx _ (.inl rfl)⟩
    · exact ⟨hcap.1, hcap.2.1, hcap.2.2, nx _ (.inl rfl)⟩
  · refine ⟨⟨by simp, trivial⟩, l, takeR, by omega, fun b o t hb => ⟨plainS_ints, fun k1 => ⟨⟨by simp, by first | exact leO | simp, trivial⟩, l, o, takeR, takeO, ⟨by omega, ?_⟩, fun b2 hb2 => ⟨trivial, fun _ => trivial, fun k2 => ?_⟩⟩, fun k1 => ?_⟩⟩
    · obtain ⟨r, rfl, hr⟩ := hb.t k1
      have := nodup_le (n := l.length) (run_nodup hr.1) (run_lt hr.1)
      simp only [List.length_map]; omega
    · rw [hb2.2 (hb.t k1)] at k2; cases k2
    · rw [wi_true hb (by omega) (true_wit hp)] at k1; cases k1
theorem wid_step {l m : List Call} (h : WiInv l m) (hlt : m.length < l.length) {c : Call} (hc : WidR (atC l m.length) c) : WiInv l (m ++ [c]) := by
  refine ⟨by rw [List.length_append, List.length_singleton]; omega, fun i hi => ?_⟩
  rw [atC_app]
  split
  · rename_i h1; exact h.r i h1
  · rename_i h1
    have : i = m.length := by rw [List.length_append, List.length_singleton] at hi; omega
    subst this
    rw [if_pos rfl]; exact hc
theorem wid_wit {l m : List Call} (h : WiInv l m) (hl : m.length = l.length) (hw : ∃ r, Wit l r) : ∃ r, Wit m r := by
  obtain ⟨r, hr⟩ := hw
  refine ⟨r, wit_wider hl (fun k hk hok => ?_) hr⟩
  have hr := h.r k (by omega)
  have h1 := hr.k
  have h2 := hr.v
  have h3 := hr.b
  have h4 := hr.e
  unfold okC at hok ⊢
  refine ⟨h1, h2, ?_, h3.1, ?_, ?_⟩ <;> omega
theorem lawWider (l : List Call) (b d : List Int) (hb : Byt b) (hd : Byt d) (hw : ∀ c ∈ l, inI c.2.2.2) : XL l [] b [] d 6 [.dat (.sl 4 (l.map callR)), .dat (.sl 1 (ints .u8 b)), .dat (.sl 1 (ints .u8 d))] [] KT := by
  refine vcWider l b d ?_
  simp only [ints_len, List.length_map, decide_eq_true_eq, decide_eq_false_iff_not]
  refine ⟨fun _ => trivial, fun h1 => ⟨fun _ => trivial, fun h2 => ⟨fun _ => trivial, fun h3 => ⟨fun _ => trivial, fun h4 => ⟨fun _ => trivial, fun h5 => ⟨?_, ?_⟩⟩⟩⟩⟩⟩
  · exact At.mk' ⟨[], Nat.zero_le _, fun i hi => absurd hi (Nat.not_lt_zero _)⟩ rfl
  rintro ⟨m, hm⟩
  have hml := hm.le
  refine ⟨fun hlt => ?_, fun hlt => ?_⟩
  · have hla : m.length < l.length := Int.ofNat_lt.1 hlt
    have nn : NonN (m.length : Int) := by unfold NonN; omega
    have nx : ∀ c : Call, WidR (atC l m.length) c → 1 ≤ 1 ∧ m.length ≤ m.length ∧ (m.length + 1) * 32 ≤ 140737488355328 ∧ Nx (widLI l b d) ⟨m, hm⟩ ([V.dat (D.sl 4 (l.map callR)), V.dat (D.sl 1 (ints .u8 b)), V.dat (D.sl 1 (ints .u8 d)), V.sl 0 0 (m.length + 1), V.int .i64 (IntKind.i64.wrap ((m.length : Int) + 1))],
        [KO.row 31 4 (List.take m.length (m.map callR) ++ [[D.val (.int .i64 c.1), D.val (.int .i64 c.2.1), D.val (.int .i64 c.2.2.1), D.val (.int .i64 c.2.2.2)]])]) := fun c hc => by
      have hlen : (m ++ [c]).length = m.length + 1 := by rw [List.length_append, List.length_singleton]
      refine ⟨Nat.le_refl _, Nat.le_refl _, by omega, Nx.mk' (⟨m ++ [c], wid_step hm hla hc⟩ : {m : List Call // WiInv l m}) ?_ (by show l.length - (m ++ [c]).length < l.length - m.length; omega)⟩
      show (_ : List V × KB) = _
      have e1 : (m.length : Int) + 1 = (((m ++ [c]).length : Nat) : Int) := by rw [hlen]; rfl
      rw [w64 (n := (m.length : Int) + 1) (by omega) (by omega), snocR, e1, ← hlen]
    have hwe : inI (atC l m.length).2.2.2 := hw _ (by have := atC_get hla; exact List.mem_of_getElem? this)
    refine ⟨nn, _, callR_get hla, (atC l m.length).1, rfl, (atC l m.length).2.1, rfl, (atC l m.length).2.2.1, rfl, (atC l m.length).2.2.2, rfl, fun _ => trivial, fun k1 => ⟨fun _ => trivial, fun k2 => ⟨fun _ => trivial, fun k3 => ?_⟩⟩⟩
    obtain ⟨gb, b0, b1⟩ := u8_get hb (show m.length < b.length by omega)
    obtain ⟨gd, d0, d1⟩ := u8_get hd (show m.length < d.length by omega)
    generalize b[m.length] = y at gb b0 b1
    generalize hu : d[m.length] = u at gd d0 d1
    refine ⟨nn, _, gb, y, rfl, ?_⟩
    unfold inI at hwe
    have w1 : IntKind.i64.wrap ((atC l m.length).2.2.1 - (IntKind.i64.wrap y).tmod 9) = (atC l m.length).2.2.1 - y % 9 := by
      rw [w64 (n := y) (by omega) (by omega), Int.tmod_eq_emod_of_nonneg b0, w64 (by omega) (by omega)]
    rw [w1]
    have hB : (if (atC l m.length).2.2.1 - y % 9 > 0 then (atC l m.length).2.2.1 - y % 9 else 0) ≤ (atC l m.length).2.2.1 ∧ 0 ≤ (if (atC l m.length).2.2.1 - y % 9 > 0 then (atC l m.length).2.2.1 - y % 9 else 0) := by split <;> omega
    generalize (if (atC l m.length).2.2.1 - y % 9 > 0 then (atC l m.length).2.2.1 - y % 9 else 0) = B at hB
    refine ⟨fun k4 => ⟨nn, _, gd, u, rfl, ?_⟩, fun k4 => ?_⟩
    · have w2 : IntKind.i64.wrap ((atC l m.length).2.2.2 + (IntKind.i64.wrap u).tmod 9) = (atC l m.length).2.2.2 + u % 9 := by
        rw [w64 (n := u) (by omega) (by omega), Int.tmod_eq_emod_of_nonneg d0, w64 (by omega) (by omega)]
      rw [w2]
      refine ⟨fun k5 => ⟨nn, _, gd, u, rfl, fun k6 => ?_, fun k6 => ?_⟩, fun k5 => ?_⟩
      · simp only [bne_iff_ne, ne_eq] at k5
        exact nx ((atC l m.length).1, (atC l m.length).2.1, B, -1) ⟨rfl, rfl, hB, .inr (.inr ⟨by omega, rfl, k5⟩)⟩
      · exact nx ((atC l m.length).1, (atC l m.length).2.1, B, (atC l m.length).2.2.2 + u % 9) ⟨rfl, rfl, hB, .inr (.inl ⟨by omega, by simp only; omega⟩)⟩
      · exact nx ((atC l m.length).1, (atC l m.length).2.1, B, (atC l m.length).2.2.2 + u % 9) ⟨rfl, rfl, hB, .inr (.inl ⟨by omega, by simp only; omega⟩)⟩
    · exact nx ((atC l m.length).1, (atC l m.length).2.1, B, (atC l m.length).2.2.2) ⟨rfl, rfl, hB, .inl ⟨by omega, rfl⟩⟩
  · have hll : m.length = l.length := by have : ¬ (m.length : Int) < l.length := hlt; omega
    refine ⟨l, rfl, by omega, fun b o t h6 => ⟨⟨Nat.le_refl _, trivial⟩, m, takeR, by omega, fun b1 o1 t1 h7 => ⟨plainS_ints, fun _ => trivial, fun k1 => ⟨fun _ => trivial, fun k2 => ?_⟩⟩⟩⟩
    simp only [Bool.not_eq_false'] at k1
    obtain ⟨r, _, hr⟩ := h6.t k1
    rw [wi_true h7 (by omega) (wid_wit hm hll ⟨r, hr⟩)] at k2; cases k2
theorem conf_call : ∀ x : List D, Conf [.int .i64, .int .i64, .int .i64, .int .i64] x → ∃ c : Call, x = callR c ∧ inI c.2.2.2 := by
  intro x h
  simp only [Conf, ConfD] at h
  obtain ⟨_, _, rfl, ⟨a, rfl, wa⟩, _, _, rfl, ⟨b, rfl, wb⟩, _, _, rfl, ⟨c, rfl, wc⟩, _, _, rfl, ⟨d, rfl, wd⟩, rfl⟩ := h
  exact ⟨(a, b, c, d), rfl, by have := bounds_i64 wd; unfold inI; simp only; omega⟩
theorem byt_wf {l : List Int} (h : ∀ n ∈ l, (Lit.int .u8 n).wf = true) : Byt l := fun c hc => by have := bounds_u8 (h c hc); omega
end Go.Proofs.Ytodibmhakdhflaa
