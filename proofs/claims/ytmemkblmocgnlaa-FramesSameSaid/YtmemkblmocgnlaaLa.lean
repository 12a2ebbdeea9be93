import Derived.Test.YtmemkblmocgnlaaFr
import Derived.Test.YtmemkblmocgnlaaVdU
import Derived.KernelRfl
namespace Go.Proofs.Ytmemkblmocgnlaa
open Vc Go
set_option linter.unusedVariables false
set_option linter.unusedSimpArgs false
set_option maxRecDepth 100000
/-- Put, its bytes immutable. -/
def SputD : FSpec := fun args kb K => match args, kb with
  | [.agg [.int .i64 k, .dat (.sl 1 N), .dat (.sl 1 B), .dat (.sl 1 L)]], [] => ∃ n b l, N = ints .i64 n ∧ B = ints .u8 b ∧ L = l.map bsl ∧ LenI n b l ∧ BytM b l ∧
    (RightM k n b l → K (.tup [.dat (.sl 1 (ints .u8 (sealI (putW k n b l)))), .int .i64 0]) []) ∧ (¬ RightM k n b l → K (.tup [.dat (.sl 1 []), .int .i64 3]) [])
  | _, _ => False
/-- Reading, the error alone. -/
def SreadE : FSpec := fun args kb K => match args, kb with
  | [.dat (.sl 1 B)], [] => ∃ b : List Int, B = ints .u8 b ∧ Byt b ∧ b.length ≤ 200000 ∧ ∀ v1 v2 v3 v4 : Value, K (.tup [.agg [.any v1, .any v2, .any v3, .any v4], .int .i64 (rdR b).e]) []
  | _, _ => False
def Sawake : FSpec := fun args kb K => match args, kb with | [], [] => K (.sb true) [] | _, _ => False
def awS : FuncId → Option Known
  | 10 => some ⟨[.lend 1], SputD⟩
  | 12 => some ⟨[.lend 1], Scheck⟩
  | 13 => some ⟨[.lend 1], SreadM⟩
  | 17 => some ⟨[.lend 1], SreadM⟩
  | 11 => some ⟨[.lend 1], SrightM⟩
  | 8 => some ⟨[.lend 1], Sgreat⟩
  | 15 => some ⟨[.lend 1], SputR⟩
  | 19 => some ⟨[.lend 1, .lend 1], SsameM⟩
  | 16 => some ⟨[.lend 1, .lend 1], SsameM⟩
  | 14 => some ⟨[.lend 1, .lend 1], SsameL .u8⟩
  | 18 => some ⟨[], Spick⟩
  | _ => none
noncomputable def XAw : CallT := callS Try.prog awS noT 10
def lawS : FuncId → Option Known
  | 9 => some ⟨[], Sawake⟩
  | f => awS f
def lawE : FuncId → Option Known
  | 10 => some ⟨[.lend 1], SputF⟩
  | 13 => some ⟨[.lend 1], SreadE⟩
  | 17 => some ⟨[.lend 1], SreadE⟩
  | f => lawS f
structure TuInv (w : List Int) (k : Int) (x : Nat × Int × List Int) : Prop where
  i4 : x.1 ≤ 4
  byt : Byt x.2.2
  near : Near k.toNat x.2.2 w
  t0 : 0 ≤ x.2.1
  tlt : x.2.1 < 256 ^ (4 - x.1)
  rest : ∀ j, x.1 ≤ j → x.2.2[k.toNat + j]? = w[k.toNat + j]?
  diff : x.2.2 ≠ w ∨ x.2.1 ≠ 0
abbrev tuLI (w : List Int) (k : Int) : LI where
  α := {x : Nat × Int × List Int // TuInv w k x}
  live := [2, 7, 9, 10]
  st x := ([.int .u32 x.1.2.1, .sl 0 0 w.length, .int .i64 k, .int .i64 (x.1.1 : Int)], [.row 5 1 (ints .u8 x.1.2.2)])
  μ x := 4 - x.1.1
structure PutP (k : Int) (n b : List Int) (l : List (List Int)) (x : Int × List Int) : Prop where
  t : RightM k n b l → x.1 = 0 ∧ x.2 = sealI (putW k n b l)
  f : ¬ RightM k n b l → x.1 = 3 ∧ x.2 = []
abbrev foC (k : Int) (n b : List Int) (l : List (List Int)) : LI where
  α := {x : Int × List Int // PutP k n b l x}
  live := [1, 3, 4]
  st x := ([.ptr 0 0, .dat (.sl 1 (ints .u8 x.1.2)), .int .i64 x.1.1], [.cells (msgC k n b l)])
  μ x := 0
abbrev saC1 (k : Int) (n b : List Int) (l : List (List Int)) (k' : Int) (n' b' : List Int) (l' : List (List Int)) : LI where
  α := {x : Int × List Int // PutP k n b l x}
  live := [2, 3, 5, 6]
  st x := ([.ptr 0 0, .ptr 1 0, .dat (.sl 1 (ints .u8 x.1.2)), .int .i64 x.1.1], [.cells (msgC k n b l), .cells (msgC k' n' b' l')])
  μ x := 0
abbrev saC2 (k : Int) (n b : List Int) (l : List (List Int)) (k' : Int) (n' b' : List Int) (l' : List (List Int)) : LI where
  α := {x : (Int × List Int) × (Int × List Int) // PutP k n b l x.1 ∧ PutP k' n' b' l' x.2}
  live := [2, 3, 5, 6, 7, 8]
  st x := ([.ptr 0 0, .ptr 1 0, .dat (.sl 1 (ints .u8 x.1.1.2)), .int .i64 x.1.1.1, .dat (.sl 1 (ints .u8 x.1.2.2)), .int .i64 x.1.2.1], [.cells (msgC k n b l), .cells (msgC k' n' b' l')])
  μ x := 0
abbrev tuC (k : Int) (n b : List Int) (l : List (List Int)) (at' t : Int) : LI where
  α := {x : Nat // RightM k n b l ∧ t ≠ 0}
  live := [1, 2, 7]
  st x := ([.int .i64 at', .int .u32 t, .sl 0 0 ((putW k n b l).length + 4)], [.row 5 1 (ints .u8 (sealI (putW k n b l)))])
  μ x := 0
abbrev shC (k : Int) (n b : List Int) (l : List (List Int)) (cut more : Int) : LI where
  α := {x : Nat // RightM k n b l}
  live := [1, 2, 7]
  st x := ([.int .i64 cut, .int .u8 more, .sl 0 0 ((putW k n b l).length + 4)], [.row 5 1 (ints .u8 (sealI (putW k n b l)))])
  μ x := 0
def laT (k : Int) (n b : List Int) (l : List (List Int)) (k' : Int) (n' b' : List Int) (l' : List (List Int)) : FuncId → Nat → Option LI
  | 3, 1004 => some (foC k n b l)
  | 7, 1004 => some (saC1 k n b l k' n' b' l')
  | 7, 1005 => some (saC2 k n b l k' n' b' l')
  | _, _ => none
def tuT (w : List Int) (p : Int) (k : Int) (n b : List Int) (l : List (List Int)) (a t : Int) : FuncId → Nat → Option LI
  | 5, 8 => some (tuLI w p)
  | 5, 1006 => some (tuC k n b l a t)
  | 6, 1006 => some (shC k n b l a t)
  | _, _ => none
noncomputable def XLa (k : Int) (n b : List Int) (l : List (List Int)) (k' : Int) (n' b' : List Int) (l' : List (List Int)) : CallT := callS Try.prog lawS (laT k n b l k' n' b' l') 10
noncomputable def XLe (w : List Int) (p : Int) (k : Int) (n b : List Int) (l : List (List Int)) (a t : Int) : CallT := callS Try.prog lawE (tuT w p k n b l a t) 10
theorem vcAwake  (K : V → KB → Prop) (hvc_ :
 ∃ (n : List Int),
 ∃ (b : List Int),
 ∃ (l : List (List Int)),
 [] = ints IntKind.i64 n ∧
 [] = ints IntKind.u8 b ∧
 [] = List.map bsl l ∧
 LenI n b l ∧
 BytM b l ∧
 (RightM 1 n b l →
 ∃ (b_1 : List Int),
 [] = ints IntKind.u8 b_1 ∧
 (∀ (c : Int), List.Mem c b_1 → 0 ≤ c ∧ c < 256) ∧
 b_1.length ≤ 200000 ∧
 (((↑(ints IntKind.u8 (sealI (putW 1 n b l))).length : Int) == 8) = true →
 NonN 0 ∧
 ∃ (e : List D),
 (ints IntKind.u8 (sealI (putW 1 n b l)))[0]? = some e ∧
 ∃ (n : Int),
 e[0]? = some (D.val (Value.int IntKind.u8 n)) ∧
 ((n == 1) = true →
 (true = true → (((rdR b_1).e == 4) = true → ∃ (n : List Int), ∃ (b : List Int), ∃ (l : List (List Int)), [] = ints IntKind.i64 n ∧ [] = ints IntKind.u8 b ∧ [] = List.map bsl l ∧ LenI n b l ∧ (RightM 0 n b l → K (V.sb false) []) ∧ ((RightM 0 n b l → False) → K (V.sb true) [])) ∧ (((rdR b_1).e == 4) = false → K (V.sb false) [])) ∧
 (true = false → K (V.sb false) [])) ∧
 ((n == 1) = false → K (V.sb false) [])) ∧
 (((↑(ints IntKind.u8 (sealI (putW 1 n b l))).length : Int) == 8) = false → K (V.sb false) [])) ∧
 ((RightM 1 n b l → False) →
 ∃ (b : List Int),
 [] = ints IntKind.u8 b ∧
 (∀ (c : Int), List.Mem c b → 0 ≤ c ∧ c < 256) ∧
 b.length ≤ 200000 ∧
 (false = true →
 NonN 0 ∧
 ∃ (e : List D),
 [][0]? = some e ∧
 ∃ (n : Int),
 e[0]? = some (D.val (Value.int IntKind.u8 n)) ∧
 ((n == 1) = true →
 (false = true → (((rdR b).e == 4) = true → ∃ (n : List Int), ∃ (b : List Int), ∃ (l : List (List Int)), [] = ints IntKind.i64 n ∧ [] = ints IntKind.u8 b ∧ [] = List.map bsl l ∧ LenI n b l ∧ (RightM 0 n b l → K (V.sb false) []) ∧ ((RightM 0 n b l → False) → K (V.sb true) [])) ∧ (((rdR b).e == 4) = false → K (V.sb false) [])) ∧
 (false = false → K (V.sb false) [])) ∧
 ((n == 1) = false → K (V.sb false) [])) ∧
 (false = false → K (V.sb false) []))
 ) : runSpec Try.prog XAw (noT 9) 9 [] [] K := Eq.mp (by kernel_rfl) hvc_
theorem vcForms (mk : Int) (mn mb : List Int) (ml : List (List Int))  (hvc_ :
 ∃ (n : List Int),
 ∃ (b : List Int),
 ∃ (l : List (List Int)),
 ints IntKind.i64 mn = ints IntKind.i64 n ∧
 ints IntKind.u8 mb = ints IntKind.u8 b ∧
 List.map bsl ml = List.map bsl l ∧
 LenI n b l ∧
 ∀ (g : Int),
 (decide (g > 0) = true → true = true) ∧
 (decide (g > 0) = false →
 (∃ (n : List Int),
 ∃ (b : List Int),
 ∃ (l : List (List Int)),
 ints IntKind.i64 mn = ints IntKind.i64 n ∧
 ints IntKind.u8 mb = ints IntKind.u8 b ∧
 List.map bsl ml = List.map bsl l ∧
 LenI n b l ∧
 BytM b l ∧
 (RightM mk n b l → At (foC mk mn mb ml) ([V.ptr 0 0, V.dat (D.sl 1 (ints IntKind.u8 (sealI (putW mk n b l)))), V.int IntKind.i64 0], [KO.cells [V.int IntKind.i64 mk, V.dat (D.sl 1 (ints IntKind.i64 mn)), V.dat (D.sl 1 (ints IntKind.u8 mb)), V.dat (D.sl 1 (List.map bsl ml))]])) ∧
 ((RightM mk n b l → False) → At (foC mk mn mb ml) ([V.ptr 0 0, V.dat (D.sl 1 []), V.int IntKind.i64 3], [KO.cells [V.int IntKind.i64 mk, V.dat (D.sl 1 (ints IntKind.i64 mn)), V.dat (D.sl 1 (ints IntKind.u8 mb)), V.dat (D.sl 1 (List.map bsl ml))]]))) ∧
 ∀ (i : { x : Int × List Int // PutP mk mn mb ml x }),
 ∃ (n : List Int),
 ∃ (b : List Int),
 ∃ (l : List (List Int)),
 ints IntKind.i64 mn = ints IntKind.i64 n ∧
 ints IntKind.u8 mb = ints IntKind.u8 b ∧
 List.map bsl ml = List.map bsl l ∧
 LenI n b l ∧
 ∀ (q : Bool),
 (q = true ↔ RightM mk n b l) →
 ((!q) = true →
 ((i.val.fst == 3) = true →
 (((↑(ints IntKind.u8 i.val.snd).length : Int) == 0) = true →
 ∃ (n : List Int),
 ∃ (b : List Int), ∃ (l : List (List Int)), ints IntKind.i64 mn = ints IntKind.i64 n ∧ ints IntKind.u8 mb = ints IntKind.u8 b ∧ List.map bsl ml = List.map bsl l ∧ LenI n b l ∧ (RightM mk n b l → (false = true → true = true) ∧ (false = false → False)) ∧ ((RightM mk n b l → False) → (true = true → true = true) ∧ (true = false → False))) ∧
 (((↑(ints IntKind.u8 i.val.snd).length : Int) == 0) = false → False)) ∧
 ((i.val.fst == 3) = false → False)) ∧
 ((!q) = false →
 ∃ (b : List Int),
 ints IntKind.u8 i.val.snd = ints IntKind.u8 b ∧
 (∀ (c : Int), List.Mem c b → 0 ≤ c ∧ c < 256) ∧
 b.length ≤ 200000 ∧
 ((i.val.fst == 0) = true →
 ∃ (n : List Int),
 ∃ (b_1 : List Int),
 ∃ (l : List (List Int)),
 ints IntKind.i64 mn = ints IntKind.i64 n ∧
 ints IntKind.u8 mb = ints IntKind.u8 b_1 ∧
 List.map bsl ml = List.map bsl l ∧
 LenI n b_1 l ∧
 (RightM mk n b_1 l →
 (true = true →
 ∃ (n : List Int),
 ∃ (b_2 : List Int),
 ∃ (l : List (List Int)),
 ints IntKind.i64 mn = ints IntKind.i64 n ∧
 ints IntKind.u8 mb = ints IntKind.u8 b_2 ∧
 List.map bsl ml = List.map bsl l ∧
 RightM mk n b_2 l ∧
 BytM b_2 l ∧
 (True ∧ (putW mk n b_2 l).length + 4 ≤ (ints IntKind.u8 (sealI (putW mk n b_2 l))).length ∧ True) ∧
 ∃ (a : List Int),
 ∃ (b_3 : List Int),
 ints IntKind.u8 i.val.snd = ints IntKind.u8 a ∧
 List.drop 0 (List.take ((putW mk n b_2 l).length + 4) (ints IntKind.u8 (sealI (putW mk n b_2 l)))) = ints IntKind.u8 b_3 ∧
 a.length ≤ maxLen ∧
 True ∧
 (decide (a = b_3) = true →
 (((rdR b).e == 0) = true →
 ∃ (n : List Int),
 ∃ (b_4 : List Int),
 ∃ (l : List (List Int)),
 ∃ (n' : List Int),
 ∃ (b' : List Int),
 ∃ (l' : List (List Int)),
 ints IntKind.i64 (rdR b).n = ints IntKind.i64 n ∧
 ints IntKind.u8 (rdR b).b = ints IntKind.u8 b_4 ∧
 List.map bsl (rdR b).l = List.map bsl l ∧
 ints IntKind.i64 mn = ints IntKind.i64 n' ∧
 ints IntKind.u8 mb = ints IntKind.u8 b' ∧ List.map bsl ml = List.map bsl l' ∧ LenI n b_4 l ∧ (decide ((rdR b).k = mk ∧ n = n' ∧ b_4 = b' ∧ l = l') = true → true = true) ∧ (decide ((rdR b).k = mk ∧ n = n' ∧ b_4 = b' ∧ l = l') = false → False)) ∧
 (((rdR b).e == 0) = false → False)) ∧
 (decide (a = b_3) = false → False)) ∧
 (true = false → False)) ∧
 ((RightM mk n b_1 l → False) →
 (false = true →
 ∃ (n : List Int),
 ∃ (b_2 : List Int),
 ∃ (l : List (List Int)),
 ints IntKind.i64 mn = ints IntKind.i64 n ∧
 ints IntKind.u8 mb = ints IntKind.u8 b_2 ∧
 List.map bsl ml = List.map bsl l ∧
 RightM mk n b_2 l ∧
 BytM b_2 l ∧
 (True ∧ (putW mk n b_2 l).length + 4 ≤ (ints IntKind.u8 (sealI (putW mk n b_2 l))).length ∧ True) ∧
 ∃ (a : List Int),
 ∃ (b_3 : List Int),
 ints IntKind.u8 i.val.snd = ints IntKind.u8 a ∧
 List.drop 0 (List.take ((putW mk n b_2 l).length + 4) (ints IntKind.u8 (sealI (putW mk n b_2 l)))) = ints IntKind.u8 b_3 ∧
 a.length ≤ maxLen ∧
 True ∧
 (decide (a = b_3) = true →
 (((rdR b).e == 0) = true →
 ∃ (n : List Int),
 ∃ (b_4 : List Int),
 ∃ (l : List (List Int)),
 ∃ (n' : List Int),
 ∃ (b' : List Int),
 ∃ (l' : List (List Int)),
 ints IntKind.i64 (rdR b).n = ints IntKind.i64 n ∧
 ints IntKind.u8 (rdR b).b = ints IntKind.u8 b_4 ∧
 List.map bsl (rdR b).l = List.map bsl l ∧
 ints IntKind.i64 mn = ints IntKind.i64 n' ∧
 ints IntKind.u8 mb = ints IntKind.u8 b' ∧ List.map bsl ml = List.map bsl l' ∧ LenI n b_4 l ∧ (decide ((rdR b).k = mk ∧ n = n' ∧ b_4 = b' ∧ l = l') = true → true = true) ∧ (decide ((rdR b).k = mk ∧ n = n' ∧ b_4 = b' ∧ l = l') = false → False)) ∧
 (((rdR b).e == 0) = false → False)) ∧
 (decide (a = b_3) = false → False)) ∧
 (false = false → False))) ∧
 ((i.val.fst == 0) = false → False)))
 ) : XLa mk mn mb ml 0 [] [] [] 3 [.agg (msgC mk mn mb ml)] [] KT := Eq.mp (by kernel_rfl) hvc_
theorem vcReads (rb rc : List Int)  (hvc_ :
 (decide ((↑(ints IntKind.u8 rb).length : Int) > 600) = true → true = true) ∧
 (decide ((↑(ints IntKind.u8 rb).length : Int) > 600) = false →
 (decide ((↑(ints IntKind.u8 rc).length : Int) > 600) = true → true = true) ∧
 (decide ((↑(ints IntKind.u8 rc).length : Int) > 600) = false →
 ∃ (b : List Int),
 ints IntKind.u8 rb = ints IntKind.u8 b ∧
 (∀ (c : Int), List.Mem c b → 0 ≤ c ∧ c < 256) ∧
 b.length ≤ 200000 ∧
 ∃ (b_1 : List Int),
 ints IntKind.u8 rb = ints IntKind.u8 b_1 ∧
 (∀ (c : Int), List.Mem c b_1 → 0 ≤ c ∧ c < 256) ∧
 b_1.length ≤ 200000 ∧
 ∃ (b_2 : List Int),
 ints IntKind.u8 rc = ints IntKind.u8 b_2 ∧
 (∀ (c : Int), List.Mem c b_2 → 0 ≤ c ∧ c < 256) ∧
 b_2.length ≤ 200000 ∧
 ∃ (b_3 : List Int),
 ints IntKind.u8 rc = ints IntKind.u8 b_3 ∧
 (∀ (c : Int), List.Mem c b_3 → 0 ≤ c ∧ c < 256) ∧
 b_3.length ≤ 200000 ∧
 (((rdR b).e == (rdR b_1).e) = true →
 ∃ (n : List Int),
 ∃ (b_4 : List Int),
 ∃ (l : List (List Int)),
 ∃ (n' : List Int),
 ∃ (b' : List Int),
 ∃ (l' : List (List Int)),
 ints IntKind.i64 (rdR b).n = ints IntKind.i64 n ∧
 ints IntKind.u8 (rdR b).b = ints IntKind.u8 b_4 ∧
 List.map bsl (rdR b).l = List.map bsl l ∧
 ints IntKind.i64 (rdR b_1).n = ints IntKind.i64 n' ∧
 ints IntKind.u8 (rdR b_1).b = ints IntKind.u8 b' ∧
 List.map bsl (rdR b_1).l = List.map bsl l' ∧
 LenI n b_4 l ∧
 (decide ((rdR b).k = (rdR b_1).k ∧ n = n' ∧ b_4 = b' ∧ l = l') = true →
 (((rdR b_2).e == (rdR b_3).e) = true →
 ∃ (n : List Int),
 ∃ (b : List Int),
 ∃ (l : List (List Int)),
 ∃ (n' : List Int),
 ∃ (b' : List Int),
 ∃ (l' : List (List Int)),
 ints IntKind.i64 (rdR b_2).n = ints IntKind.i64 n ∧
 ints IntKind.u8 (rdR b_2).b = ints IntKind.u8 b ∧
 List.map bsl (rdR b_2).l = List.map bsl l ∧
 ints IntKind.i64 (rdR b_3).n = ints IntKind.i64 n' ∧
 ints IntKind.u8 (rdR b_3).b = ints IntKind.u8 b' ∧ List.map bsl (rdR b_3).l = List.map bsl l' ∧ LenI n b l ∧ (decide ((rdR b_2).k = (rdR b_3).k ∧ n = n' ∧ b = b' ∧ l = l') = true → true = true) ∧ (decide ((rdR b_2).k = (rdR b_3).k ∧ n = n' ∧ b = b' ∧ l = l') = false → False)) ∧
 (((rdR b_2).e == (rdR b_3).e) = false → False)) ∧
 (decide ((rdR b).k = (rdR b_1).k ∧ n = n' ∧ b_4 = b' ∧ l = l') = false → False)) ∧
 (((rdR b).e == (rdR b_1).e) = false → False)))
 ) : XLa 0 [] [] [] 0 [] [] [] 4 [.dat (.sl 1 (ints .u8 rb)), .dat (.sl 1 (ints .u8 rc))] [] KT := Eq.mp (by kernel_rfl) hvc_
theorem vcTurned (w : List Int) (p : Int) (mk : Int) (mn mb : List Int) (ml : List (List Int)) (at' t : Int)  (hvc_ :
 ∃ (n : List Int),
 ∃ (b : List Int),
 ∃ (l : List (List Int)),
 ints IntKind.i64 mn = ints IntKind.i64 n ∧
 ints IntKind.u8 mb = ints IntKind.u8 b ∧
 List.map bsl ml = List.map bsl l ∧
 LenI n b l ∧
 ∀ (g : Int),
 (decide (g > 0) = true → true = true) ∧
 (decide (g > 0) = false →
 ∃ (n : List Int),
 ∃ (b : List Int),
 ∃ (l : List (List Int)),
 ints IntKind.i64 mn = ints IntKind.i64 n ∧
 ints IntKind.u8 mb = ints IntKind.u8 b ∧
 List.map bsl ml = List.map bsl l ∧
 LenI n b l ∧
 ∀ (q : Bool),
 (q = true ↔ RightM mk n b l) →
 ((!q) = true → true = true) ∧
 ((!q) = false →
 ((t == 0) = true → true = true) ∧
 ((t == 0) = false →
 ∃ (n : List Int),
 ∃ (b : List Int),
 ∃ (l : List (List Int)),
 ints IntKind.i64 mn = ints IntKind.i64 n ∧
 ints IntKind.u8 mb = ints IntKind.u8 b ∧
 List.map bsl ml = List.map bsl l ∧
 LenI n b l ∧
 BytM b l ∧
 (RightM mk n b l →
 ((decide ((↑((putW mk n b l).length + 4 - 0) : Int) < 8) = true → False) ∧ (decide ((↑((putW mk n b l).length + 4 - 0) : Int) < 8) = false → At (tuC mk mn mb ml at' t) ([V.int IntKind.i64 at', V.int IntKind.u32 t, V.sl 0 0 ((putW mk n b l).length + 4)], [KO.row 5 1 (ints IntKind.u8 (sealI (putW mk n b l)))]))) ∧
 ∀ (i : { x : Nat // RightM mk mn mb ml ∧ t ≠ 0 }),
 (-9223372036854775808 ≤ IntKind.i64.wrap ((↑((putW mk mn mb ml).length + 4 - 0) : Int) - 3) ∧ IntKind.i64.wrap ((↑((putW mk mn mb ml).length + 4 - 0) : Int) - 3) ≤ 9223372036854775807) ∧
 At (tuLI w p) ([V.int IntKind.u32 t, V.sl 0 0 ((putW mk mn mb ml).length + 4), V.int IntKind.i64 (pickI at' (IntKind.i64.wrap ((↑((putW mk mn mb ml).length + 4 - 0) : Int) - 3))), V.int IntKind.i64 0], [KO.row 5 1 (ints IntKind.u8 (sealI (putW mk mn mb ml)))]) ∧
 ∀ (i : { x : Nat × Int × List Int // TuInv w p x }),
 (decide ((↑i.val.fst : Int) < 4) = true →
 InB (IntKind.i64.wrap (p + (↑i.val.fst : Int))) (w.length - 0) ∧
 ∃ (e : List D),
 (ints IntKind.u8 i.val.snd.snd)[0 + (IntKind.i64.wrap (p + (↑i.val.fst : Int))).toNat]? = some e ∧
 ∃ (n : Int),
 e[0]? = some (D.val (Value.int IntKind.u8 n)) ∧
 InB (IntKind.i64.wrap (p + (↑i.val.fst : Int))) (w.length - 0) ∧
 0 + (IntKind.i64.wrap (p + (↑i.val.fst : Int))).toNat < (ints IntKind.u8 i.val.snd.snd).length ∧
 Nx (tuLI w p) i
 ([V.int IntKind.u32 (IntKind.u32.wrap (i.val.snd.fst.tdiv 256)), V.sl 0 0 w.length, V.int IntKind.i64 p, V.int IntKind.i64 (IntKind.i64.wrap ((↑i.val.fst : Int) + 1))],
 [KO.row 5 1 ((ints IntKind.u8 i.val.snd.snd).set (0 + (IntKind.i64.wrap (p + (↑i.val.fst : Int))).toNat) [D.val (Value.int IntKind.u8 (IntKind.u8.wrap (↑(BitVec.ofInt 8 n ^^^ BitVec.ofInt 8 (IntKind.u8.wrap i.val.snd.fst)).toNat : Int)))])])) ∧
 (decide ((↑i.val.fst : Int) < 4) = false →
 (w.length ≤ (ints IntKind.u8 i.val.snd.snd).length ∧ True) ∧
 ∃ (b : List Int), List.drop 0 (List.take w.length (ints IntKind.u8 i.val.snd.snd)) = ints IntKind.u8 b ∧ (∀ (c : Int), List.Mem c b → 0 ≤ c ∧ c < 256) ∧ b.length ≤ 200000 ∧ ∀ (v1 v2 v3 v4 : Value), True ∧ (((rdR b).e == 4) = true → true = true) ∧ (((rdR b).e == 4) = false → False))) ∧
 ((RightM mk n b l → False) →
 ((true = true → False) ∧ (true = false → At (tuC mk mn mb ml at' t) ([V.int IntKind.i64 at', V.int IntKind.u32 t, V.sl 0 0 0], [KO.row 5 1 []]))) ∧
 ∀ (i : { x : Nat // RightM mk mn mb ml ∧ t ≠ 0 }),
 (-9223372036854775808 ≤ IntKind.i64.wrap ((↑((putW mk mn mb ml).length + 4 - 0) : Int) - 3) ∧ IntKind.i64.wrap ((↑((putW mk mn mb ml).length + 4 - 0) : Int) - 3) ≤ 9223372036854775807) ∧
 At (tuLI w p) ([V.int IntKind.u32 t, V.sl 0 0 ((putW mk mn mb ml).length + 4), V.int IntKind.i64 (pickI at' (IntKind.i64.wrap ((↑((putW mk mn mb ml).length + 4 - 0) : Int) - 3))), V.int IntKind.i64 0], [KO.row 5 1 (ints IntKind.u8 (sealI (putW mk mn mb ml)))]) ∧
 ∀ (i : { x : Nat × Int × List Int // TuInv w p x }),
 (decide ((↑i.val.fst : Int) < 4) = true →
 InB (IntKind.i64.wrap (p + (↑i.val.fst : Int))) (w.length - 0) ∧
 ∃ (e : List D),
 (ints IntKind.u8 i.val.snd.snd)[0 + (IntKind.i64.wrap (p + (↑i.val.fst : Int))).toNat]? = some e ∧
 ∃ (n : Int),
 e[0]? = some (D.val (Value.int IntKind.u8 n)) ∧
 InB (IntKind.i64.wrap (p + (↑i.val.fst : Int))) (w.length - 0) ∧
 0 + (IntKind.i64.wrap (p + (↑i.val.fst : Int))).toNat < (ints IntKind.u8 i.val.snd.snd).length ∧
 Nx (tuLI w p) i
 ([V.int IntKind.u32 (IntKind.u32.wrap (i.val.snd.fst.tdiv 256)), V.sl 0 0 w.length, V.int IntKind.i64 p, V.int IntKind.i64 (IntKind.i64.wrap ((↑i.val.fst : Int) + 1))],
 [KO.row 5 1 ((ints IntKind.u8 i.val.snd.snd).set (0 + (IntKind.i64.wrap (p + (↑i.val.fst : Int))).toNat) [D.val (Value.int IntKind.u8 (IntKind.u8.wrap (↑(BitVec.ofInt 8 n ^^^ BitVec.ofInt 8 (IntKind.u8.wrap i.val.snd.fst)).toNat : Int)))])])) ∧
 (decide ((↑i.val.fst : Int) < 4) = false →
 (w.length ≤ (ints IntKind.u8 i.val.snd.snd).length ∧ True) ∧
 ∃ (b : List Int), List.drop 0 (List.take w.length (ints IntKind.u8 i.val.snd.snd)) = ints IntKind.u8 b ∧ (∀ (c : Int), List.Mem c b → 0 ≤ c ∧ c < 256) ∧ b.length ≤ 200000 ∧ ∀ (v1 v2 v3 v4 : Value), True ∧ (((rdR b).e == 4) = true → true = true) ∧ (((rdR b).e == 4) = false → False))))))
 ) : XLe w p mk mn mb ml at' t 5 [.agg (msgC mk mn mb ml), .int .i64 at', .int .u32 t] [] KT := Eq.mp (by kernel_rfl) hvc_
theorem vcShort (mk : Int) (mn mb : List Int) (ml : List (List Int)) (ct more : Int)  (hvc_ :
 ∃ (n : List Int),
 ∃ (b : List Int),
 ∃ (l : List (List Int)),
 ints IntKind.i64 mn = ints IntKind.i64 n ∧
 ints IntKind.u8 mb = ints IntKind.u8 b ∧
 List.map bsl ml = List.map bsl l ∧
 LenI n b l ∧
 ∀ (g : Int),
 (decide (g > 0) = true → true = true) ∧
 (decide (g > 0) = false →
 ∃ (n : List Int),
 ∃ (b : List Int),
 ∃ (l : List (List Int)),
 ints IntKind.i64 mn = ints IntKind.i64 n ∧
 ints IntKind.u8 mb = ints IntKind.u8 b ∧
 List.map bsl ml = List.map bsl l ∧
 LenI n b l ∧
 ∀ (q : Bool),
 (q = true ↔ RightM mk n b l) →
 ((!q) = true → true = true) ∧
 ((!q) = false →
 ∃ (n : List Int),
 ∃ (b : List Int),
 ∃ (l : List (List Int)),
 ints IntKind.i64 mn = ints IntKind.i64 n ∧
 ints IntKind.u8 mb = ints IntKind.u8 b ∧
 List.map bsl ml = List.map bsl l ∧
 LenI n b l ∧
 BytM b l ∧
 (RightM mk n b l →
 ((false = true → False) ∧
 (false = false → (decide ((↑((putW mk n b l).length + 4 - 0) : Int) < 8) = true → False) ∧ (decide ((↑((putW mk n b l).length + 4 - 0) : Int) < 8) = false → At (shC mk mn mb ml ct more) ([V.int IntKind.i64 ct, V.int IntKind.u8 more, V.sl 0 0 ((putW mk n b l).length + 4)], [KO.row 5 1 (ints IntKind.u8 (sealI (putW mk n b l)))])))) ∧
 ∀ (i : { x : Nat // RightM mk mn mb ml }),
 (-9223372036854775808 ≤ (↑((putW mk mn mb ml).length + 4 - 0) : Int) ∧ (↑((putW mk mn mb ml).length + 4 - 0) : Int) ≤ 9223372036854775807) ∧
 True ∧
 NonN (pickI ct (↑((putW mk mn mb ml).length + 4 - 0) : Int)) ∧
 0 ≤ (pickI ct (↑((putW mk mn mb ml).length + 4 - 0) : Int)).toNat ∧
 (pickI ct (↑((putW mk mn mb ml).length + 4 - 0) : Int)).toNat ≤ (putW mk mn mb ml).length + 4 - 0 ∧
 0 + (pickI ct (↑((putW mk mn mb ml).length + 4 - 0) : Int)).toNat ≤ (ints IntKind.u8 (sealI (putW mk mn mb ml))).length ∧
 0 ≤ 0 ∧
 (0 + (List.drop 0 (List.take (0 + (pickI ct (↑((putW mk mn mb ml).length + 4 - 0) : Int)).toNat) (ints IntKind.u8 (sealI (putW mk mn mb ml))))).length) * 1 ≤ 140737488355328 ∧
 (0 + (List.drop 0 (List.take (0 + (pickI ct (↑((putW mk mn mb ml).length + 4 - 0) : Int)).toNat) (ints IntKind.u8 (sealI (putW mk mn mb ml))))).length ≤ ([] ++ List.drop 0 (List.take (0 + (pickI ct (↑((putW mk mn mb ml).length + 4 - 0) : Int)).toNat) (ints IntKind.u8 (sealI (putW mk mn mb ml))))).length ∧ True) ∧
 ∃ (b : List Int),
 List.drop 0
 (List.take (0 + (List.drop 0 (List.take (0 + (pickI ct (↑((putW mk mn mb ml).length + 4 - 0) : Int)).toNat) (ints IntKind.u8 (sealI (putW mk mn mb ml))))).length)
 ([] ++ List.drop 0 (List.take (0 + (pickI ct (↑((putW mk mn mb ml).length + 4 - 0) : Int)).toNat) (ints IntKind.u8 (sealI (putW mk mn mb ml)))))) =
 ints IntKind.u8 b ∧
 (∀ (c : Int), List.Mem c b → 0 ≤ c ∧ c < 256) ∧
 b.length ≤ 200000 ∧
 ∀ (v1 v2 v3 v4 : Value),
 True ∧
 (0 + (List.drop 0 (List.take (0 + (pickI ct (↑((putW mk mn mb ml).length + 4 - 0) : Int)).toNat) (ints IntKind.u8 (sealI (putW mk mn mb ml))))).length ≤
 ([] ++ List.drop 0 (List.take (0 + (pickI ct (↑((putW mk mn mb ml).length + 4 - 0) : Int)).toNat) (ints IntKind.u8 (sealI (putW mk mn mb ml))))).length ∧
 True) ∧
 ∃ (b_1 : List Int),
 List.drop 0
 (List.take (0 + (List.drop 0 (List.take (0 + (pickI ct (↑((putW mk mn mb ml).length + 4 - 0) : Int)).toNat) (ints IntKind.u8 (sealI (putW mk mn mb ml))))).length)
 ([] ++ List.drop 0 (List.take (0 + (pickI ct (↑((putW mk mn mb ml).length + 4 - 0) : Int)).toNat) (ints IntKind.u8 (sealI (putW mk mn mb ml)))))) =
 ints IntKind.u8 b_1 ∧
 (∀ (c : Int), List.Mem c b_1 → 0 ≤ c ∧ c < 256) ∧
 b_1.length ≤ 200000 ∧
 ∀ (v1 v2 v3 v4 : Value),
 True ∧
 (putW mk mn mb ml).length + 4 ≤ (ints IntKind.u8 (sealI (putW mk mn mb ml))).length ∧
 0 ≤ 0 ∧
 (0 + (List.drop 0 (List.take ((putW mk mn mb ml).length + 4) (ints IntKind.u8 (sealI (putW mk mn mb ml))))).length) * 1 ≤ 140737488355328 ∧
 1 ≤ 1 ∧
 0 + (List.drop 0 (List.take ((putW mk mn mb ml).length + 4) (ints IntKind.u8 (sealI (putW mk mn mb ml))))).length ≤ ([] ++ List.drop 0 (List.take ((putW mk mn mb ml).length + 4) (ints IntKind.u8 (sealI (putW mk mn mb ml))))).length ∧
 (0 + (List.drop 0 (List.take ((putW mk mn mb ml).length + 4) (ints IntKind.u8 (sealI (putW mk mn mb ml))))).length + 1) * 1 ≤ 140737488355328 ∧
 (0 + (List.drop 0 (List.take ((putW mk mn mb ml).length + 4) (ints IntKind.u8 (sealI (putW mk mn mb ml))))).length + 1 ≤
 (List.take (0 + (List.drop 0 (List.take ((putW mk mn mb ml).length + 4) (ints IntKind.u8 (sealI (putW mk mn mb ml))))).length) ([] ++ List.drop 0 (List.take ((putW mk mn mb ml).length + 4) (ints IntKind.u8 (sealI (putW mk mn mb ml))))) ++
 [[D.val (Value.int IntKind.u8 more)]]).length ∧
 True) ∧
 ∃ (b_2 : List Int),
 List.drop 0
 (List.take (0 + (List.drop 0 (List.take ((putW mk mn mb ml).length + 4) (ints IntKind.u8 (sealI (putW mk mn mb ml))))).length + 1)
 (List.take (0 + (List.drop 0 (List.take ((putW mk mn mb ml).length + 4) (ints IntKind.u8 (sealI (putW mk mn mb ml))))).length) ([] ++ List.drop 0 (List.take ((putW mk mn mb ml).length + 4) (ints IntKind.u8 (sealI (putW mk mn mb ml))))) ++
 [[D.val (Value.int IntKind.u8 more)]])) =
 ints IntKind.u8 b_2 ∧
 (∀ (c : Int), List.Mem c b_2 → 0 ≤ c ∧ c < 256) ∧
 b_2.length ≤ 200000 ∧
 ∀ (v1 v2 v3 v4 : Value),
 True ∧
 (0 + (List.drop 0 (List.take ((putW mk mn mb ml).length + 4) (ints IntKind.u8 (sealI (putW mk mn mb ml))))).length + 1 ≤
 (List.take (0 + (List.drop 0 (List.take ((putW mk mn mb ml).length + 4) (ints IntKind.u8 (sealI (putW mk mn mb ml))))).length) ([] ++ List.drop 0 (List.take ((putW mk mn mb ml).length + 4) (ints IntKind.u8 (sealI (putW mk mn mb ml))))) ++
 [[D.val (Value.int IntKind.u8 more)]]).length ∧
 True) ∧
 ∃ (b_3 : List Int),
 List.drop 0
 (List.take (0 + (List.drop 0 (List.take ((putW mk mn mb ml).length + 4) (ints IntKind.u8 (sealI (putW mk mn mb ml))))).length + 1)
 (List.take (0 + (List.drop 0 (List.take ((putW mk mn mb ml).length + 4) (ints IntKind.u8 (sealI (putW mk mn mb ml))))).length) ([] ++ List.drop 0 (List.take ((putW mk mn mb ml).length + 4) (ints IntKind.u8 (sealI (putW mk mn mb ml))))) ++
 [[D.val (Value.int IntKind.u8 more)]])) =
 ints IntKind.u8 b_3 ∧
 (∀ (c : Int), List.Mem c b_3 → 0 ≤ c ∧ c < 256) ∧
 b_3.length ≤ 200000 ∧ ∀ (v1 v2 v3 v4 : Value), True ∧ (((rdR b).e == (rdR b_1).e) = true → (((rdR b_2).e == (rdR b_3).e) = true → true = true) ∧ (((rdR b_2).e == (rdR b_3).e) = false → False)) ∧ (((rdR b).e == (rdR b_1).e) = false → False)) ∧
 ((RightM mk n b l → False) →
 ((true = true → False) ∧ (true = false → (true = true → False) ∧ (true = false → At (shC mk mn mb ml ct more) ([V.int IntKind.i64 ct, V.int IntKind.u8 more, V.sl 0 0 0], [KO.row 5 1 []])))) ∧
 ∀ (i : { x : Nat // RightM mk mn mb ml }),
 (-9223372036854775808 ≤ (↑((putW mk mn mb ml).length + 4 - 0) : Int) ∧ (↑((putW mk mn mb ml).length + 4 - 0) : Int) ≤ 9223372036854775807) ∧
 True ∧
 NonN (pickI ct (↑((putW mk mn mb ml).length + 4 - 0) : Int)) ∧
 0 ≤ (pickI ct (↑((putW mk mn mb ml).length + 4 - 0) : Int)).toNat ∧
 (pickI ct (↑((putW mk mn mb ml).length + 4 - 0) : Int)).toNat ≤ (putW mk mn mb ml).length + 4 - 0 ∧
 0 + (pickI ct (↑((putW mk mn mb ml).length + 4 - 0) : Int)).toNat ≤ (ints IntKind.u8 (sealI (putW mk mn mb ml))).length ∧
 0 ≤ 0 ∧
 (0 + (List.drop 0 (List.take (0 + (pickI ct (↑((putW mk mn mb ml).length + 4 - 0) : Int)).toNat) (ints IntKind.u8 (sealI (putW mk mn mb ml))))).length) * 1 ≤ 140737488355328 ∧
 (0 + (List.drop 0 (List.take (0 + (pickI ct (↑((putW mk mn mb ml).length + 4 - 0) : Int)).toNat) (ints IntKind.u8 (sealI (putW mk mn mb ml))))).length ≤ ([] ++ List.drop 0 (List.take (0 + (pickI ct (↑((putW mk mn mb ml).length + 4 - 0) : Int)).toNat) (ints IntKind.u8 (sealI (putW mk mn mb ml))))).length ∧ True) ∧
 ∃ (b : List Int),
 List.drop 0
 (List.take (0 + (List.drop 0 (List.take (0 + (pickI ct (↑((putW mk mn mb ml).length + 4 - 0) : Int)).toNat) (ints IntKind.u8 (sealI (putW mk mn mb ml))))).length)
 ([] ++ List.drop 0 (List.take (0 + (pickI ct (↑((putW mk mn mb ml).length + 4 - 0) : Int)).toNat) (ints IntKind.u8 (sealI (putW mk mn mb ml)))))) =
 ints IntKind.u8 b ∧
 (∀ (c : Int), List.Mem c b → 0 ≤ c ∧ c < 256) ∧
 b.length ≤ 200000 ∧
 ∀ (v1 v2 v3 v4 : Value),
 True ∧
 (0 + (List.drop 0 (List.take (0 + (pickI ct (↑((putW mk mn mb ml).length + 4 - 0) : Int)).toNat) (ints IntKind.u8 (sealI (putW mk mn mb ml))))).length ≤
 ([] ++ List.drop 0 (List.take (0 + (pickI ct (↑((putW mk mn mb ml).length + 4 - 0) : Int)).toNat) (ints IntKind.u8 (sealI (putW mk mn mb ml))))).length ∧
 True) ∧
 ∃ (b_1 : List Int),
 List.drop 0
 (List.take (0 + (List.drop 0 (List.take (0 + (pickI ct (↑((putW mk mn mb ml).length + 4 - 0) : Int)).toNat) (ints IntKind.u8 (sealI (putW mk mn mb ml))))).length)
 ([] ++ List.drop 0 (List.take (0 + (pickI ct (↑((putW mk mn mb ml).length + 4 - 0) : Int)).toNat) (ints IntKind.u8 (sealI (putW mk mn mb ml)))))) =
 ints IntKind.u8 b_1 ∧
 (∀ (c : Int), List.Mem c b_1 → 0 ≤ c ∧ c < 256) ∧
 b_1.length ≤ 200000 ∧
 ∀ (v1 v2 v3 v4 : Value),
 True ∧
 (putW mk mn mb ml).length + 4 ≤ (ints IntKind.u8 (sealI (putW mk mn mb ml))).length ∧
 0 ≤ 0 ∧
 (0 + (List.drop 0 (List.take ((putW mk mn mb ml).length + 4) (ints IntKind.u8 (sealI (putW mk mn mb ml))))).length) * 1 ≤ 140737488355328 ∧
 1 ≤ 1 ∧
 0 + (List.drop 0 (List.take ((putW mk mn mb ml).length + 4) (ints IntKind.u8 (sealI (putW mk mn mb ml))))).length ≤ ([] ++ List.drop 0 (List.take ((putW mk mn mb ml).length + 4) (ints IntKind.u8 (sealI (putW mk mn mb ml))))).length ∧
 (0 + (List.drop 0 (List.take ((putW mk mn mb ml).length + 4) (ints IntKind.u8 (sealI (putW mk mn mb ml))))).length + 1) * 1 ≤ 140737488355328 ∧
 (0 + (List.drop 0 (List.take ((putW mk mn mb ml).length + 4) (ints IntKind.u8 (sealI (putW mk mn mb ml))))).length + 1 ≤
 (List.take (0 + (List.drop 0 (List.take ((putW mk mn mb ml).length + 4) (ints IntKind.u8 (sealI (putW mk mn mb ml))))).length) ([] ++ List.drop 0 (List.take ((putW mk mn mb ml).length + 4) (ints IntKind.u8 (sealI (putW mk mn mb ml))))) ++
 [[D.val (Value.int IntKind.u8 more)]]).length ∧
 True) ∧
 ∃ (b_2 : List Int),
 List.drop 0
 (List.take (0 + (List.drop 0 (List.take ((putW mk mn mb ml).length + 4) (ints IntKind.u8 (sealI (putW mk mn mb ml))))).length + 1)
 (List.take (0 + (List.drop 0 (List.take ((putW mk mn mb ml).length + 4) (ints IntKind.u8 (sealI (putW mk mn mb ml))))).length) ([] ++ List.drop 0 (List.take ((putW mk mn mb ml).length + 4) (ints IntKind.u8 (sealI (putW mk mn mb ml))))) ++
 [[D.val (Value.int IntKind.u8 more)]])) =
 ints IntKind.u8 b_2 ∧
 (∀ (c : Int), List.Mem c b_2 → 0 ≤ c ∧ c < 256) ∧
 b_2.length ≤ 200000 ∧
 ∀ (v1 v2 v3 v4 : Value),
 True ∧
 (0 + (List.drop 0 (List.take ((putW mk mn mb ml).length + 4) (ints IntKind.u8 (sealI (putW mk mn mb ml))))).length + 1 ≤
 (List.take (0 + (List.drop 0 (List.take ((putW mk mn mb ml).length + 4) (ints IntKind.u8 (sealI (putW mk mn mb ml))))).length) ([] ++ List.drop 0 (List.take ((putW mk mn mb ml).length + 4) (ints IntKind.u8 (sealI (putW mk mn mb ml))))) ++
 [[D.val (Value.int IntKind.u8 more)]]).length ∧
 True) ∧
 ∃ (b_3 : List Int),
 List.drop 0
 (List.take (0 + (List.drop 0 (List.take ((putW mk mn mb ml).length + 4) (ints IntKind.u8 (sealI (putW mk mn mb ml))))).length + 1)
 (List.take (0 + (List.drop 0 (List.take ((putW mk mn mb ml).length + 4) (ints IntKind.u8 (sealI (putW mk mn mb ml))))).length) ([] ++ List.drop 0 (List.take ((putW mk mn mb ml).length + 4) (ints IntKind.u8 (sealI (putW mk mn mb ml))))) ++
 [[D.val (Value.int IntKind.u8 more)]])) =
 ints IntKind.u8 b_3 ∧
 (∀ (c : Int), List.Mem c b_3 → 0 ≤ c ∧ c < 256) ∧
 b_3.length ≤ 200000 ∧ ∀ (v1 v2 v3 v4 : Value), True ∧ (((rdR b).e == (rdR b_1).e) = true → (((rdR b_2).e == (rdR b_3).e) = true → true = true) ∧ (((rdR b_2).e == (rdR b_3).e) = false → False)) ∧ (((rdR b).e == (rdR b_1).e) = false → False))))
 ) : XLe [] 0 mk mn mb ml ct more 6 [.agg (msgC mk mn mb ml), .int .i64 ct, .int .u8 more] [] KT := Eq.mp (by kernel_rfl) hvc_
/-! What was put is read. -/
theorem numSt_app {pre rest : List Int} {v m : Int} (h0 : 0 ≤ v) (h : v ≤ 9223372036854775807) (hm : v ≤ m) : numSt (pre ++ (numW v ++ rest)) (pre.length, 0) m = ((pre ++ numW v).length, 0) ∧ numAt (pre ++ (numW v ++ rest)) (pre.length, 0) m = v := by
  unfold numSt numAt
  simp only
  rw [List.drop_left, rNum_app h0 h hm, List.length_append]
  exact ⟨rfl, rfl⟩
theorem texSt_app {pre rest t : List Int} {m : Int} (hm : (t.length : Int) ≤ m) (h : (t.length : Int) ≤ 9223372036854775807) : texSt (pre ++ (textW t ++ rest)) (pre.length, 0) m = ((pre ++ textW t).length, 0) ∧ texAt (pre ++ (textW t ++ rest)) (pre.length, 0) m = t := by
  unfold texSt texAt
  simp only
  rw [List.drop_left, rText_app hm h, List.length_append]
  exact ⟨rfl, rfl⟩
theorem pu1_sp {k : Int} {n : List Int} (i : Nat) : pu1 k n n.length = pu1 k n i ++ catN (n.drop i) := by
  unfold pu1
  have := catN_app (a := n.take i) (b := n.drop i)
  rw [List.take_append_drop] at this
  rw [List.take_length, this]
  simp only [List.append_assoc]
theorem pu2_sp {k : Int} {n b : List Int} {l : List (List Int)} (i : Nat) : putW k n b l = pu2 k n b l i ++ catT (l.drop i) := by
  unfold putW pu2
  have := catT_app (a := l.take i) (b := l.drop i)
  rw [List.take_append_drop] at this
  rw [List.take_length, this]
  simp only [List.append_assoc]
theorem catN_dr {n : List Int} {i : Nat} (h : i < n.length) : catN (n.drop i) = numW (gI n i) ++ catN (n.drop (i + 1)) := by
  have h1 := List.drop_eq_getElem_cons h
  have h2 := gI_get h
  rw [List.getElem?_eq_getElem h, Option.some.injEq] at h2
  rw [h1, h2]
  simp [catN]
theorem catT_dr {n : List (List Int)} {i : Nat} (h : i < n.length) : catT (n.drop i) = textW (gT n i) ++ catT (n.drop (i + 1)) := by
  have h1 := List.drop_eq_getElem_cons h
  have h2 := gT_get h
  rw [List.getElem?_eq_getElem h, Option.some.injEq] at h2
  rw [h1, h2]
  simp [catT]
section
variable {k : Int} {n b : List Int} {l : List (List Int)} (hr : RightM k n b l)
include hr
theorem rp_1 : q1 (putW k n b l) = ((numW k).length, 0) ∧ kd (putW k n b l) = k := by
  have e : putW k n b l = [] ++ (numW k ++ (numW (n.length : Int) ++ catN n ++ textW b ++ numW (l.length : Int) ++ catT l)) := by
    unfold putW pu2 pu1
    rw [List.take_length, List.take_length]
    simp only [List.append_assoc, List.nil_append]
  have h1 := hr.k1
  have h2 := hr.k2
  unfold q1 kd
  rw [e]
  exact numSt_app (pre := []) (by omega) (by omega) (by omega)
theorem rp_2 : q2 (putW k n b l) = ((numW k ++ numW (n.length : Int)).length, 0) ∧ cn (putW k n b l) = n.length := by
  have e : putW k n b l = numW k ++ (numW (n.length : Int) ++ (catN n ++ textW b ++ numW (l.length : Int) ++ catT l)) := by
    unfold putW pu2 pu1
    rw [List.take_length, List.take_length]
    simp only [List.append_assoc]
  have h1 := hr.nl
  have h2 := numSt_app (pre := numW k) (rest := catN n ++ textW b ++ numW (l.length : Int) ++ catT l) (v := (n.length : Int)) (m := 16) (by omega) (by omega) (by omega)
  rw [← e] at h2
  unfold q2 cn
  rw [(rp_1 hr).1, h2.1, h2.2]
  exact ⟨rfl, Int.toNat_natCast _⟩
theorem rp_n : ∀ i, i ≤ n.length → qn (putW k n b l) i = (((pu1 k n i).length, 0), n.take i)
  | 0, _ => by
    unfold qn nIt
    rw [(rp_2 hr).1, pu1_0]; rfl
  | i + 1, hi => by
    have ih := rp_n i (by omega)
    unfold qn at ih ⊢
    simp only [nIt]
    rw [ih]
    have e : putW k n b l = pu1 k n i ++ (numW (gI n i) ++ (catN (n.drop (i + 1)) ++ textW b ++ numW (l.length : Int) ++ catT l)) := by
      unfold putW pu2
      rw [pu1_sp i, catN_dr (by omega), List.take_length]
      simp only [List.append_assoc]
    have h0 := hr.ns _ (gI_mem (show i < n.length by omega))
    have h2 := numSt_app (pre := pu1 k n i) (rest := catN (n.drop (i + 1)) ++ textW b ++ numW (l.length : Int) ++ catT l) (v := gI n i) (m := 4611686018427387904) h0.1 (by omega) h0.2
    rw [← e] at h2
    simp only
    rw [h2.1, h2.2, pu1_s (by omega), gI_take (by omega)]
theorem rp_p : pn (putW k n b l) = ((pu1 k n n.length).length, 0) := by
  unfold pn
  rw [(rp_2 hr).2, rp_n hr _ (Nat.le_refl _)]
theorem rp_3 : q3 (putW k n b l) = ((pu1 k n n.length ++ textW b).length, 0) ∧ bd (putW k n b l) = b := by
  have e : putW k n b l = pu1 k n n.length ++ (textW b ++ (numW (l.length : Int) ++ catT l)) := by
    unfold putW pu2
    rw [List.take_length]
    simp only [List.append_assoc]
  have h1 := hr.bl
  have h2 := texSt_app (pre := pu1 k n n.length) (rest := numW (l.length : Int) ++ catT l) (t := b) (m := 2048) (by omega) (by omega)
  rw [← e] at h2
  unfold q3 bd
  rw [rp_p hr]
  exact h2
theorem rp_4 : q4 (putW k n b l) = ((pu2 k n b l 0).length, 0) ∧ cl (putW k n b l) = l.length := by
  have e : putW k n b l = (pu1 k n n.length ++ textW b) ++ (numW (l.length : Int) ++ catT l) := by
    unfold putW pu2
    rw [List.take_length]
    simp only [List.append_assoc]
  have h1 := hr.ll
  have h2 := numSt_app (pre := pu1 k n n.length ++ textW b) (rest := catT l) (v := (l.length : Int)) (m := 64) (by omega) (by omega) (by omega)
  rw [← e] at h2
  unfold q4 cl
  rw [(rp_3 hr).1, h2.1, h2.2, pu2_0]
  exact ⟨rfl, Int.toNat_natCast _⟩
theorem rp_t : ∀ i, i ≤ l.length → qt (putW k n b l) i = (((pu2 k n b l i).length, 0), l.take i)
  | 0, _ => by
    unfold qt tIt
    rw [(rp_4 hr).1]; rfl
  | i + 1, hi => by
    have ih := rp_t i (by omega)
    unfold qt at ih ⊢
    simp only [tIt]
    rw [ih]
    have e : putW k n b l = pu2 k n b l i ++ (textW (gT l i) ++ catT (l.drop (i + 1))) := by
      rw [pu2_sp i, catT_dr (by omega)]
    have h0 := hr.ts _ (gT_mem (show i < l.length by omega))
    have h2 := texSt_app (pre := pu2 k n b l i) (rest := catT (l.drop (i + 1))) (t := gT l i) (m := 2048) (by omega) (by omega)
    rw [← e] at h2
    simp only
    rw [h2.1, h2.2, pu2_s (by omega), gT_take (by omega)]
theorem rd_put : rdR (sealI (putW k n b l)) = ⟨0, k, n, b, l⟩ := by
  have h1 := (rp_4 hr).2
  have h2 : pt (putW k n b l) = ((putW k n b l).length, 0) := by
    unfold pt
    rw [h1, rp_t hr _ (Nat.le_refl _)]; rfl
  have hf : fin (putW k n b l) = 0 := by
    unfold fin
    rw [h2]
    show rEnd ((putW k n b l).drop (putW k n b l).length) 0 = 0
    rw [List.drop_length]; rfl
  have e1 : kd (putW k n b l) = k := (rp_1 hr).2
  have e2 : (qn (putW k n b l) (cn (putW k n b l))).2 = n := by rw [(rp_2 hr).2, rp_n hr _ (Nat.le_refl _), List.take_length]
  have e3 : bd (putW k n b l) = b := (rp_3 hr).2
  have e4 : (qt (putW k n b l) (cl (putW k n b l))).2 = l := by rw [h1, rp_t hr _ (Nat.le_refl _), List.take_length]
  have hR : RightO (putW k n b l) := by
    unfold RightO
    rw [e1, e2, e3, e4]; exact hr
  rw [rd_ok openI_seal hf hR, e1, e2, e3, e4]
end
theorem okPutD : SpecOk Try.prog 10 SputD := fun args kb K hs => gvTidy_ok okPutF [.give 1] args kb K (by
  unfold SputD at hs; split at hs <;> try exact hs.elim
  rename_i k _ _ _
  obtain ⟨n, b, l, rfl, rfl, rfl, hl, hb, hy, hn⟩ := hs
  refine ⟨n, b, l, rfl, rfl, rfl, hl, hb, fun hr => ?_, fun hr => ?_⟩
  · refine ⟨by rw [ints_len, sealI_len]; exact Nat.le_refl _, ?_⟩
    have e : List.drop 0 (List.take ((putW k n b l).length + 4) (ints .u8 (sealI (putW k n b l)))) = ints .u8 (sealI (putW k n b l)) := takeA (by rw [sealI_len])
    show K (.tup [.dat (.sl 1 (List.drop 0 (List.take ((putW k n b l).length + 4) (ints .u8 (sealI (putW k n b l)))))), .int .i64 0]) []
    rw [e]
    exact hy hr
  · refine ⟨Nat.le_refl _, ?_⟩
    exact hn hr)
theorem okReadE {f : FuncId} (h : SpecOk Try.prog f SreadM) : SpecOk Try.prog f SreadE := fun args kb K hs => anyOut_ok h args kb K (by
  unfold SreadE at hs; split at hs <;> try exact hs.elim
  obtain ⟨b, rfl, hb, hl, hk⟩ := hs
  exact ⟨b, rfl, hb, hl, hk⟩)
theorem awS_ok : AllOk Try.prog awS := fun f k h => by
  unfold awS at h
  split at h <;> first | (cases h; first | exact okPutD | exact okCheck | exact okReadF | exact okReadR | exact okRightM | exact okGreat | exact okPutR | exact okSameF | exact okSameR | exact okSameL | exact okPick) | cases h
theorem XAw_ok : CallOk Try.prog XAw := callS_ok mixed awS_ok noT 10
theorem lenI_nil : LenI [] [] [] := ⟨Nat.zero_le _, Nat.zero_le _, Nat.zero_le _, fun t ht => by cases ht⟩
theorem right_1 : RightM 1 [] [] [] := ⟨by omega, by omega, by simp, by simp, by simp, by simp, by simp, by simp [tot]⟩
theorem okAwake : SpecOk Try.prog 9 Sawake := specOk_of' XAw_ok mixed (fun args kb K h => by
  unfold Sawake at h; split at h <;> try exact h.elim
  have hw : putW 1 [] [] [] = [1, 0, 0, 0] := by decide
  have hb : BytM [] [] := ⟨fun c hc => (by cases hc), fun t ht => (by cases ht)⟩
  have hn : (rdR []).e = 4 := by
    have : openI [] = none := by unfold openI; rw [if_neg (fun w => by have := w.1; simp at this)]
    rw [rd_none this]; rfl
  refine ⟨noT 9, vcAwake K ⟨[], [], [], rfl, rfl, rfl, lenI_nil, hb, fun _ => ⟨[], rfl, fun c hc => (by cases hc), by simp, fun _ => ⟨by unfold NonN; omega, [D.val (.int .u8 1)], by rw [hw]; rfl, 1, rfl, fun _ => ⟨fun _ => ⟨fun _ => ⟨[], [], [], rfl, rfl, rfl, lenI_nil, fun f => absurd f.k1 (by decide), fun _ => h⟩, fun f => ?_⟩, fun f => (by cases f)⟩, fun f => (by cases f)⟩, fun f => ?_⟩, fun f => absurd right_1 f⟩⟩
  · rw [hn] at f; cases f
  · rw [ints_len, sealI_len, hw] at f; cases f)
theorem lawS_ok : AllOk Try.prog lawS := fun f k h => by
  unfold lawS at h
  split at h
  · cases h; exact okAwake
  · exact awS_ok _ _ h
theorem lawE_ok : AllOk Try.prog lawE := fun f k h => by
  unfold lawE at h
  split at h
  · cases h; exact okPutF
  · cases h; exact okReadE okReadF
  · cases h; exact okReadE okReadR
  · exact lawS_ok _ _ h
theorem XLa_ok (k : Int) (n b : List Int) (l : List (List Int)) (k' : Int) (n' b' : List Int) (l' : List (List Int)) : CallOk Try.prog (XLa k n b l k' n' b' l') := callS_ok mixed lawS_ok _ 10
theorem XLe_ok (w : List Int) (p : Int) (k : Int) (n b : List Int) (l : List (List Int)) (a t : Int) : CallOk Try.prog (XLe w p k n b l a t) := callS_ok mixed lawE_ok _ 10
theorem rightM_len {k : Int} {n b : List Int} {l : List (List Int)} (h : RightM k n b l) : (putW k n b l).length ≤ 100000 := pu2_len h _
theorem lawForms (k : Int) (n b : List Int) (l : List (List Int)) (hln : LenI n b l) (hb : BytM b l) : XLa k n b l 0 [] [] [] 3 [.agg (msgC k n b l)] [] KT := by
  refine vcForms k n b l ⟨n, b, l, rfl, rfl, rfl, hln, fun g => ⟨fun _ => rfl, fun _ => ⟨⟨n, b, l, rfl, rfl, rfl, hln, hb, fun hr => At.mk' ⟨(0, sealI (putW k n b l)), fun _ => ⟨rfl, rfl⟩, fun f => absurd hr f⟩ rfl, fun hr => At.mk' ⟨(3, []), fun f => absurd f hr, fun _ => ⟨rfl, rfl⟩⟩ rfl⟩, ?_⟩⟩⟩
  rintro ⟨⟨e, w⟩, hp⟩
  dsimp only
  refine ⟨n, b, l, rfl, rfl, rfl, hln, fun q hq => ⟨fun h1 => ?_, fun h1 => ?_⟩⟩
  · have hr : ¬ RightM k n b l := fun f => by rw [hq.2 f] at h1; cases h1
    obtain ⟨he, hw⟩ := hp.f hr
    simp only at he hw
    subst he; subst hw
    refine ⟨fun _ => ⟨fun _ => ⟨n, b, l, rfl, rfl, rfl, hln, fun f => absurd f hr, fun _ => ⟨fun _ => rfl, fun f => (by cases f)⟩⟩, fun f => ?_⟩, fun f => ?_⟩
    · simp [ints] at f
    · simp at f
  · have hr : RightM k n b l := hq.1 (by simpa using h1)
    obtain ⟨he, hw⟩ := hp.t hr
    simp only at he hw
    subst he; subst hw
    have hrd := rd_put hr
    have hl := rightM_len hr
    have hbw := putW_byt hr hb
    refine ⟨sealI (putW k n b l), rfl, sealI_byt hbw, by rw [sealI_len]; omega, fun _ => ⟨n, b, l, rfl, rfl, rfl, hln, fun _ => ⟨fun _ => ⟨n, b, l, rfl, rfl, rfl, hr, hb, ⟨trivial, by rw [ints_len, sealI_len]; exact Nat.le_refl _, trivial⟩, sealI (putW k n b l), sealI (putW k n b l), rfl, takeA (by rw [sealI_len]), by rw [sealI_len]; simp only [maxLen]; omega, trivial, fun _ => ⟨fun _ => ?_, fun f => ?_⟩, fun f => ?_⟩, fun f => (by cases f)⟩, fun f => absurd hr f⟩, fun f => ?_⟩
    · rw [hrd]
      exact ⟨n, b, l, n, b, l, rfl, rfl, rfl, rfl, rfl, rfl, hln, fun _ => rfl, fun f => by simp at f⟩
    · rw [hrd] at f; simp at f
    · simp at f
    · simp at f
theorem rdR_len {b : List Int} (hb : Byt b) (hl : b.length ≤ 200000) : LenI (rdR b).n (rdR b).b (rdR b).l := by
  cases ho : openI b with
  | none => rw [rd_none ho]; exact lenI_nil
  | some l =>
    obtain ⟨h1, h2⟩ := open_byt ho hb
    by_cases hf : fin l = 0
    · by_cases hr : RightO l
      · rw [rd_ok ho hf hr]; exact lenI_rd h1 (by omega)
      · rw [rd_no ho hf hr]; exact lenI_nil
    · rw [rd_fin ho hf]; exact lenI_nil
theorem lawReads (b c : List Int) (hb : Byt b) (hc : Byt c) : XLa 0 [] [] [] 0 [] [] [] 4 [.dat (.sl 1 (ints .u8 b)), .dat (.sl 1 (ints .u8 c))] [] KT := by
  refine vcReads b c ?_
  simp only [ints_len, decide_eq_true_eq, decide_eq_false_iff_not]
  refine ⟨fun _ => trivial, fun h1 => ⟨fun _ => trivial, fun h2 => ⟨b, rfl, hb, by omega, b, rfl, hb, by omega, c, rfl, hc, by omega, c, rfl, hc, by omega, fun _ => ⟨_, _, _, _, _, _, rfl, rfl, rfl, rfl, rfl, rfl, rdR_len hb (by omega), fun _ => ⟨fun _ => ⟨_, _, _, _, _, _, rfl, rfl, rfl, rfl, rfl, rfl, rdR_len hc (by omega), fun _ => trivial, fun f => ?_⟩, fun f => ?_⟩, fun f => ?_⟩, fun f => ?_⟩⟩⟩
  all_goals simp at f
theorem near_ne {k : Nat} {s w : List Int} {i : Nat} {c : Int} (hs : s[k + i]? = w[k + i]?) (hi : k + i < s.length) (hc : some c ≠ s[k + i]?) : s.set (k + i) c ≠ w := fun e => by
  have : (s.set (k + i) c)[k + i]? = w[k + i]? := by rw [e]
  rw [List.getElem?_set_self hi, ← hs] at this
  exact hc this
theorem xor_zero {a t : Int} (ha : 0 ≤ a ∧ a < 256) (h : IntKind.u8.wrap (((BitVec.ofInt 8 a ^^^ BitVec.ofInt 8 (IntKind.u8.wrap t)).toNat : Nat) : Int) = a) : t % 256 = 0 := by
  rw [IntKind.wrap_u8, IntKind.wrap_u8] at h
  have h1 : (BitVec.ofInt 8 a).toNat = a.toNat := by rw [BitVec.toNat_ofInt]; omega
  have hx := (BitVec.ofInt 8 a ^^^ BitVec.ofInt 8 (t % 256)).isLt
  have h2 : (BitVec.ofInt 8 a ^^^ BitVec.ofInt 8 (t % 256)).toNat = (BitVec.ofInt 8 a).toNat := by rw [h1]; omega
  have h3 : BitVec.ofInt 8 a ^^^ BitVec.ofInt 8 (t % 256) = BitVec.ofInt 8 a := BitVec.eq_of_toNat_eq h2
  have h4 : BitVec.ofInt 8 (t % 256) = 0#8 := by
    have h6 : BitVec.ofInt 8 a ^^^ (BitVec.ofInt 8 a ^^^ BitVec.ofInt 8 (t % 256)) = BitVec.ofInt 8 a ^^^ BitVec.ofInt 8 a := by rw [h3]
    rwa [← BitVec.xor_assoc, BitVec.xor_self, BitVec.zero_xor] at h6
  have h5 := congrArg BitVec.toNat h4
  rw [BitVec.toNat_ofInt] at h5
  simp at h5
  omega
theorem lawTurned (k : Int) (n b : List Int) (l : List (List Int)) (at' t : Int) (hln : LenI n b l) (hb : BytM b l) (ht : 0 ≤ t ∧ t < 4294967296) : XLe (sealI (putW k n b l)) (pickI at' (((putW k n b l).length + 1 : Nat) : Int)) k n b l at' t 5 [.agg (msgC k n b l), .int .i64 at', .int .u32 t] [] KT := by
  refine vcTurned _ _ k n b l at' t ⟨n, b, l, rfl, rfl, rfl, hln, fun g => ⟨fun _ => rfl, fun _ => ⟨n, b, l, rfl, rfl, rfl, hln, fun q hq => ⟨fun _ => rfl, fun h1 => ⟨fun _ => rfl, fun h2 => ?_⟩⟩⟩⟩⟩
  have hr : RightM k n b l := hq.1 (by simpa using h1)
  have ht0 : t ≠ 0 := by simpa using h2
  have hl := rightM_len hr
  have hl1 : 4 ≤ (putW k n b l).length := by
    unfold putW pu2 pu1
    have := numW_len k
    have := numW_len (n.length : Int)
    have := numW_len (l.length : Int)
    have := textW_len b
    simp only [List.length_append]; omega
  have hbw := putW_byt hr hb
  refine ⟨n, b, l, rfl, rfl, rfl, hln, hb, fun _ => ⟨⟨fun f => ?_, fun _ => At.mk' ⟨0, hr, ht0⟩ rfl⟩, ?_⟩, fun f => absurd hr f⟩
  · simp only [decide_eq_true_eq] at f; omega
  rintro ⟨_, _, _⟩
  have e0 : IntKind.i64.wrap ((((putW k n b l).length + 4 - 0 : Nat) : Int) - 3) = (((putW k n b l).length + 1 : Nat) : Int) := by rw [w64 (by omega) (by omega)]; omega
  rw [e0]
  obtain ⟨p1, p2⟩ := pickI_range (k := at') (n := (((putW k n b l).length + 1 : Nat) : Int)) (by omega)
  generalize pickI at' (((putW k n b l).length + 1 : Nat) : Int) = p at p1 p2 ⊢
  refine ⟨⟨by omega, by omega⟩, ?_, ?_⟩
  · have := At.mk' (li := tuLI (sealI (putW k n b l)) p) ⟨(0, t, sealI (putW k n b l)), by omega, sealI_byt hbw, Near.refl _ _, ht.1, by simp only; omega, fun _ _ => rfl, .inr ht0⟩ rfl
    simp only [sealI_len] at this
    exact this
  rintro ⟨⟨i, tv, s⟩, hi⟩
  obtain ⟨h4, hby, hnr, t0, tl, hrest, hdf⟩ := hi
  dsimp only at h4 hby hnr t0 tl hrest hdf ⊢
  have hsl : s.length = (putW k n b l).length + 4 := by rw [hnr.1, sealI_len]
  simp only [decide_eq_true_eq, decide_eq_false_iff_not, sealI_len, Nat.sub_zero]
  refine ⟨fun hc => ?_, fun hc => ?_⟩
  · have w1 := w64 (n := p + (i : Int)) (by omega) (by omega)
    rw [w1]
    have e : (p + (i : Int)).toNat = p.toNat + i := by omega
    have hlt : p.toNat + i < s.length := by omega
    have hin : InB (p + (i : Int)) ((putW k n b l).length + 4) := by unfold InB; omega
    have hg := gI_get hlt
    refine ⟨hin, [D.val (.int .u8 (gI s (p.toNat + i)))], by rw [e, Nat.zero_add, ints_get, hg]; rfl, _, rfl, hin, by rw [ints_len]; omega, ?_⟩
    rw [e, Nat.zero_add, ints_set, w64 (n := (i : Int) + 1) (by omega) (by omega)]
    have hge := hby _ (gI_mem hlt)
    generalize hv : IntKind.u8.wrap (((BitVec.ofInt 8 (gI s (p.toNat + i)) ^^^ BitVec.ofInt 8 (IntKind.u8.wrap tv)).toNat : Nat) : Int) = v
    have hvb : 0 ≤ v ∧ v < 256 := by rw [← hv, IntKind.wrap_u8]; omega
    have htv : tv < 4294967296 := by
      have : (256 : Int) ^ (4 - i) ≤ 256 ^ 4 := by
        have h9 : i = 0 ∨ i = 1 ∨ i = 2 ∨ i = 3 := by omega
        rcases h9 with rfl | rfl | rfl | rfl <;> decide
      have h8 : (256 : Int) ^ 4 = 4294967296 := by decide
      omega
    have ew : IntKind.u32.wrap (tv.tdiv 256) = tv / 256 := by rw [Int.tdiv_eq_ediv_of_nonneg t0]; exact IntWalk.u32_in _ (by omega)
    rw [ew]
    refine Nx.mk' (⟨(i + 1, tv / 256, s.set (p.toNat + i) v), ?_⟩ : {x : Nat × Int × List Int // TuInv (sealI (putW k n b l)) p x}) ?_ (by show 4 - (i + 1) < 4 - i; omega)
    · refine ⟨by show i + 1 ≤ 4; omega, hby.set hvb, hnr.set (by omega) v, by show 0 ≤ tv / 256; omega, ?_, fun j hj => ?_, ?_⟩
      · show tv / 256 < 256 ^ (4 - (i + 1))
        have h9 : i = 0 ∨ i = 1 ∨ i = 2 ∨ i = 3 := by omega
        rcases h9 with rfl | rfl | rfl | rfl <;> simp at tl ⊢ <;> omega
      · show (s.set (p.toNat + i) v)[p.toNat + j]? = _
        have hj' : i + 1 ≤ j := hj
        rw [List.getElem?_set_ne (by omega)]
        exact hrest j (by omega)
      · show s.set (p.toNat + i) v ≠ _ ∨ tv / 256 ≠ 0
        rcases hdf with hd | hd
        · left
          intro e2
          apply hd
          apply List.ext_getElem?
          intro j
          by_cases hji : j = p.toNat + i
          · subst hji; exact hrest i (Nat.le_refl _)
          · have : (s.set (p.toNat + i) v)[j]? = (sealI (putW k n b l))[j]? := by rw [e2]
            rwa [List.getElem?_set_ne (by omega)] at this
        · by_cases hz : tv % 256 = 0
          · right; omega
          · left
            refine near_ne (hrest i (Nat.le_refl _)) hlt fun e2 => ?_
            rw [hg, Option.some.injEq] at e2
            rw [e2] at hv
            exact hz (xor_zero hge hv)
    · simp only [sealI_len]
      rfl
  · have hi4 : i = 4 := by omega
    subst hi4
    have hz : tv = 0 := by simp at tl; omega
    have hne : s ≠ sealI (putW k n b l) := by
      rcases hdf with hd | hd
      · exact hd
      · exact absurd hz hd
    have ho := open_near hbw hby hnr hne
    refine ⟨⟨by rw [ints_len]; omega, trivial⟩, s, takeA hsl.symm, hby, by omega, fun _ _ _ _ => ⟨trivial, fun _ => (by trivial), fun f => ?_⟩⟩
    rw [rd_none ho] at f
    cases f
theorem lawShort (k : Int) (n b : List Int) (l : List (List Int)) (cut more : Int) (hln : LenI n b l) (hb : BytM b l) (hm : 0 ≤ more ∧ more < 256) : XLe [] 0 k n b l cut more 6 [.agg (msgC k n b l), .int .i64 cut, .int .u8 more] [] KT := by
  refine vcShort k n b l cut more ⟨n, b, l, rfl, rfl, rfl, hln, fun g => ⟨fun _ => rfl, fun _ => ⟨n, b, l, rfl, rfl, rfl, hln, fun q hq => ⟨fun _ => rfl, fun h1 => ?_⟩⟩⟩⟩
  have hr : RightM k n b l := hq.1 (by simpa using h1)
  have hl := rightM_len hr
  have hl1 : 4 ≤ (putW k n b l).length := by
    unfold putW pu2 pu1
    have := numW_len k
    have := numW_len (n.length : Int)
    have := numW_len (l.length : Int)
    have := textW_len b
    simp only [List.length_append]; omega
  have hbs := sealI_byt (putW_byt hr hb)
  refine ⟨n, b, l, rfl, rfl, rfl, hln, hb, fun _ => ⟨⟨fun f => (by cases f), fun _ => ⟨fun f => ?_, fun _ => At.mk' ⟨0, hr⟩ rfl⟩⟩, ?_⟩, fun f => absurd hr f⟩
  · simp only [decide_eq_true_eq] at f; omega
  rintro ⟨_, _⟩
  obtain ⟨p1, p2⟩ := pickI_range (k := cut) (n := (((putW k n b l).length + 4 - 0 : Nat) : Int)) (by omega)
  generalize pickI cut (((putW k n b l).length + 4 - 0 : Nat) : Int) = p at p1 p2 ⊢
  have e4 : List.take ((putW k n b l).length + 4) (sealI (putW k n b l)) = sealI (putW k n b l) := List.take_of_length_le (by rw [sealI_len]; exact Nat.le_refl _)
  have e5 : ∀ z : List (List D), [] ++ z = z := fun z => rfl
  have e6 : [[D.val (.int .u8 more)]] = ints .u8 [more] := rfl
  rw [e6]
  simp only [ints_len, List.drop_zero, ints_take, Nat.zero_add, e5, e4, ← ints_app, List.length_take, sealI_len, Nat.mul_one, List.length_append, List.length_singleton, List.take_length]
  have hmin : min p.toNat ((putW k n b l).length + 4) = p.toNat := by omega
  simp only [hmin]
  have hbf : Byt ((sealI (putW k n b l)).take p.toNat) := fun c hc => hbs c (List.mem_of_mem_take hc)
  have hbl : Byt (sealI (putW k n b l) ++ [more]) := byt_app hbs (fun c hc => by rw [List.mem_singleton] at hc; subst hc; exact hm)
  have e7 : List.take p.toNat (List.take p.toNat (sealI (putW k n b l))) = List.take p.toNat (sealI (putW k n b l)) := by rw [List.take_take, Nat.min_self]
  have e8 : List.take ((putW k n b l).length + 4 + 1) (List.take ((putW k n b l).length + 4) (sealI (putW k n b l)) ++ [more]) = sealI (putW k n b l) ++ [more] := by
    rw [e4]; exact List.take_of_length_le (by rw [List.length_append, sealI_len]; exact Nat.le_refl _)
  have e9 : List.take ((putW k n b l).length + 4 + 1) (sealI (putW k n b l) ++ [more]) = sealI (putW k n b l) ++ [more] := List.take_of_length_le (by rw [List.length_append, sealI_len]; exact Nat.le_refl _)
  simp only [e7, e8, e9]
  refine ⟨⟨by omega, by omega⟩, trivial, by unfold NonN; omega, by omega, by omega, by omega, by omega, by omega, ⟨by omega, trivial⟩, _, rfl, hbf, by rw [List.length_take, sealI_len]; omega, fun _ _ _ _ => ⟨trivial, ⟨by omega, trivial⟩, _, rfl, hbf, by rw [List.length_take, sealI_len]; omega, fun _ _ _ _ => ⟨trivial, by omega, by omega, by omega, by omega, by omega, by omega, ⟨by omega, trivial⟩, _, rfl, hbl, by rw [List.length_append, sealI_len]; simp; omega, fun _ _ _ _ => ⟨trivial, ⟨by omega, trivial⟩, _, rfl, hbl, by rw [List.length_append, sealI_len]; simp; omega, fun _ _ _ _ => ⟨trivial, fun _ => ⟨fun _ => trivial, fun f => ?_⟩, fun f => ?_⟩⟩⟩⟩⟩
  all_goals simp at f
theorem byt_wf {l : List Int} (h : ∀ n ∈ l, (Lit.int .u8 n).wf = true) : Byt l := fun c hc => by have := bounds_u8 (h c hc); omega
theorem conf_bsl {x : List D} (h : Conf [.sl [.int .u8]] x) : ∃ b : List Int, x = bsl b ∧ (b.length ≤ maxLen ∧ Byt b) := by
  unfold Conf at h
  obtain ⟨d, ds, rfl, h1, h2⟩ := h
  unfold ConfD at h1
  obtain ⟨l, rfl, h3, h4⟩ := h1
  obtain ⟨zs, rfl, h5⟩ := conf_ints h4
  unfold Conf at h2
  subst h2
  exact ⟨zs, rfl, by simpa [ints_len] using h3, byt_wf h5⟩
theorem conf_msg {ds : List D} (h : Conf [.int .i64, .sl [.int .i64], .sl [.int .u8], .sl [.sl [.int .u8]]] ds) : ∃ (k : Int) (n b : List Int) (l : List (List Int)), ds = [D.val (.int .i64 k), .sl 1 (ints .i64 n), .sl 1 (ints .u8 b), .sl 1 (l.map bsl)] ∧ LenI n b l ∧ BytM b l := by
  unfold Conf at h
  obtain ⟨d1, ds1, rfl, g1, h⟩ := h
  unfold Conf at h
  obtain ⟨d2, ds2, rfl, g2, h⟩ := h
  unfold Conf at h
  obtain ⟨d3, ds3, rfl, g3, h⟩ := h
  unfold Conf at h
  obtain ⟨d4, ds4, rfl, g4, h⟩ := h
  unfold Conf at h
  subst h
  unfold ConfD at g1 g2 g3 g4
  obtain ⟨k, rfl, _⟩ := g1
  obtain ⟨l2, rfl, m2, c2⟩ := g2
  obtain ⟨l3, rfl, m3, c3⟩ := g3
  obtain ⟨l4, rfl, m4, c4⟩ := g4
  obtain ⟨n, rfl, _⟩ := conf_ints c2
  obtain ⟨b, rfl, wb⟩ := conf_ints c3
  obtain ⟨l, rfl, wl⟩ := conf_map (f := bsl) (Q := fun b => b.length ≤ maxLen ∧ Byt b) (fun x hx => conf_bsl hx) c4
  exact ⟨k, n, b, l, rfl, ⟨by simpa [ints_len] using m2, by simpa [ints_len] using m3, by simpa using m4, fun t ht => (wl t ht).1⟩, ⟨byt_wf wb, fun t ht => (wl t ht).2⟩⟩
end Go.Proofs.Ytmemkblmocgnlaa
