import Derived.Test.YtkodjbegpheomaaVp
import Derived.KernelRfl
namespace Go.Proofs.Ytkodjbegpheomaa
open Vc Go
set_option linter.unusedVariables false
set_option linter.unusedSimpArgs false
set_option maxRecDepth 100000
abbrev mpT (M : ML) : KO := .mp [.i64] false false 1 M
def SvRecords : FSpec := fun args kb K => match args, kb with
  | [.mp 0], [.mp [.i64] false false 1 M] => ∃ x, Tab M x ∧ K (.sl 1 0 (recW x).length) [mpT M, .row 30 1 ((recW x).map bsl)]
  | _, _ => False
abbrev rcLI (M : ML) (x : List P2) : LI where
  α := {i : Nat // i ≤ x.length}
  live := [0, 4, 15, 16, 17]
  nils := [.slot 2 3 1]
  st i := ([.mp 0, .sl 1 0 (i.1 + 1), .sl 2 0 x.length, .int .i64 (x.length : Int), .int .i64 (i.1 : Int)], [mpT M, .row 30 1 (((recW x).take (i.1 + 1)).map bsl), .row 3 1 (ints .i64 (x.map (·.1)))])
  μ i := x.length - i.1
structure RecS (gen : Int) (ts : List (List Int)) : Prop where
  h : RecOk gen 0 ts
def SvSectors : FSpec := fun args kb K => match args, kb with
  | [.dat (.sl 1 L), .int .i64 gen], [] => ∃ ts : List (List Int), L = ts.map bsl ∧ RecS gen ts ∧ ts.length ≤ 20000 ∧ (∀ t ∈ ts, Byt t ∧ t.length ≤ 980) ∧ K (.int .i64 (catN gen 0 ts : Int)) []
  | _, _ => False
abbrev scnLI (ts : List (List Int)) (gen : Int) : LI where
  α := {i : Nat // i ≤ ts.length}
  live := [1, 4, 9, 10, 11]
  st i := ([.int .i64 gen, .int .i64 (catN gen 0 (ts.take i.1) : Int), .dat (.sl 1 (ts.map bsl)), .int .i64 (ts.length : Int), .int .i64 (i.1 : Int)], [])
  μ i := ts.length - i.1
def gP (x : List P2) (i : Nat) : P2 := x.getD i (0, [])
def lastK (x : List P2) (i : Nat) : Int := if i = 0 then -1 else (gP x (i - 1)).1
def SvReadV : FSpec := fun args kb K => match args, kb with
  | [.dat (.sl 1 L)], [] => ∃ x, L = (recW x).map bsl ∧ OkL x ∧ x.length ≤ 100000 ∧ ∀ M, Tab M x → K (.tup [.mp 0, .sb true]) [mpT M]
  | _, _ => False
abbrev rvLI (x : List P2) : LI where
  α := {p : Nat × ML // p.1 ≤ x.length ∧ Tab p.2 (x.take p.1)}
  live := [6, 7, 36, 37, 38]
  st p := ([.mp 0, .int .i64 (lastK x p.1.1), .dat (.sl 1 ((x.map recP).map bsl)), .int .i64 (x.length : Int), .int .i64 (p.1.1 : Int)], [mpT p.1.2])
  μ p := x.length - p.1.1
def Sgener : FSpec := fun args kb K => match args, kb with
  | [.dat (.sl 1 H)], [] => ∃ h : List Int, H = ints .u8 h ∧ Byt h ∧ h.length = 64 ∧ K (.int .i64 (rNum (h.drop 3) 0 1099511627776).1) []
  | _, _ => False
def Schange : FSpec := fun args kb K => match args, kb with
  | [.mp 0, .dat (.sl 1 B)], [.mp [.i64] false false 1 M] => ∃ x c, Tab M x ∧ B = ints .u8 (chgW c) ∧ ChgOk c ∧ x.length < 100000 ∧ ∀ M', Tab M' (chgL x c) → K (.sb true) [mpT M']
  | _, _ => False
def vmT (M : ML) (x : List P2) (ts : List (List Int)) (gen : Int) : FuncId → Nat → Option LI
  | 68, 5 => some (rcLI M x)
  | 69, 2 => some (scnLI ts gen)
  | 41, 9 => some (rvLI x)
  | _, _ => none
def vmS : FuncId → Option Known
  | 47 => some ⟨[], SmapClone⟩
  | 37 => some ⟨[], SmapKeys 55⟩
  | 36 => some ⟨[], Ssorted 55 3⟩
  | 65 => some ⟨[.asis, .asis, .lend 1], Sform⟩
  | f => pxS f
noncomputable def XVm : CallT := callS Try.prog vmS noT 10
theorem vcRecords (M : ML) (x : List P2) (K : V → KB → Prop) (hvc_ :
 ∃ (a : List Int),
 [] = ints IntKind.u8 a ∧
 0 = a.length ∧
 a.length ≤ 10000000 ∧
 LeM (↑(List.length M) : Int) ∧
 ∃ (a_1 : List Int),
 ints IntKind.u8 (a ++ numW (↑(List.length M) : Int)) = ints IntKind.u8 a_1 ∧
 (a ++ numW (↑(List.length M) : Int)).length = a_1.length ∧
 a_1.length ≤ 1000000 ∧
 a_1.length ≤ (ints IntKind.u8 a_1).length ∧
 55 = 55 ∧
 [IntKind.i64] = [IntKind.i64] ∧
 false = false ∧
 KeysOk M ∧
 (M = [] →
 At (rcLI M x) ([V.mp 0, V.sl 1 0 1, V.sl 2 0 0, V.int IntKind.i64 0, V.int IntKind.i64 0], [KO.mp [IntKind.i64] false false 1 M, KO.row 30 1 [[D.sl 1 (List.drop 0 (List.take a_1.length (ints IntKind.u8 a_1)))]], KO.row 3 1 []]) ∧
 ∀ (i : { i : Nat // i ≤ x.length }),
 (decide ((↑i.val : Int) < (↑x.length : Int)) = true →
 InB (↑i.val : Int) (x.length - 0) ∧
 ∃ (e : List D),
 (ints IntKind.i64 (List.map (fun (x : P2) => x.fst) x))[0 + (↑i.val : Int).toNat]? = some e ∧
 ∃ (n : Int),
 e[0]? = some (D.val (Value.int IntKind.i64 n)) ∧
 ∃ (a : List Int),
 [] = ints IntKind.u8 a ∧
 0 = a.length ∧
 a.length ≤ 10000000 ∧
 LeM n ∧
 (∀ (cs : List D), mget M [n] = some cs → ConfK [CK.sl 1] cs) ∧
 ∃ (a_2 : List Int),
 ∃ (b : List Int),
 ints IntKind.u8 (a ++ numW n) = ints IntKind.u8 a_2 ∧
 mgetS M [n] 0 = ints IntKind.u8 b ∧
 (a ++ numW n).length = a_2.length ∧
 a_2.length ≤ 1000000 ∧
 b.length ≤ 1000000 ∧
 ∃ (a : List Int),
 ints IntKind.u8 (a_2 ++ textW b) = ints IntKind.u8 a ∧
 (a_2 ++ textW b).length = a.length ∧
 a.length ≤ 1000000 ∧
 a.length ≤ (ints IntKind.u8 a).length ∧
 1 ≤ 1 ∧
 i.val + 1 ≤ (List.map bsl (List.take (i.val + 1) (recW x))).length ∧
 (i.val + 1 + 1) * 24 ≤ 140737488355328 ∧
 Nx (rcLI M x) i
 ([V.mp 0, V.sl 1 0 (i.val + 1 + 1), V.sl 2 0 x.length, V.int IntKind.i64 (↑x.length : Int), V.int IntKind.i64 (IntKind.i64.wrap ((↑i.val : Int) + 1))],
 [KO.mp [IntKind.i64] false false 1 M, KO.row 30 1 (List.take (i.val + 1) (List.map bsl (List.take (i.val + 1) (recW x))) ++ [[D.sl 1 (List.drop 0 (List.take a.length (ints IntKind.u8 a)))]]), KO.row 3 1 (ints IntKind.i64 (List.map (fun (x : P2) => x.fst) x))])) ∧
 (decide ((↑i.val : Int) < (↑x.length : Int)) = false → K (V.sl 1 0 (i.val + 1)) [KO.mp [IntKind.i64] false false 1 M, KO.row 30 1 (List.map bsl (List.take (i.val + 1) (recW x)))])) ∧
 At (rcLI M x) ([V.mp 0, V.sl 1 0 1, V.sl 2 0 (List.length M), V.int IntKind.i64 (↑(List.length M - 0) : Int), V.int IntKind.i64 0], [KO.mp [IntKind.i64] false false 1 M, KO.row 30 1 [[D.sl 1 (List.drop 0 (List.take a_1.length (ints IntKind.u8 a_1)))]], KO.row 3 1 (ints IntKind.i64 (sortI (Vc.keysM M)))]) ∧
 ∀ (i : { i : Nat // i ≤ x.length }),
 (decide ((↑i.val : Int) < (↑x.length : Int)) = true →
 InB (↑i.val : Int) (x.length - 0) ∧
 ∃ (e : List D),
 (ints IntKind.i64 (List.map (fun (x : P2) => x.fst) x))[0 + (↑i.val : Int).toNat]? = some e ∧
 ∃ (n : Int),
 e[0]? = some (D.val (Value.int IntKind.i64 n)) ∧
 ∃ (a : List Int),
 [] = ints IntKind.u8 a ∧
 0 = a.length ∧
 a.length ≤ 10000000 ∧
 LeM n ∧
 (∀ (cs : List D), mget M [n] = some cs → ConfK [CK.sl 1] cs) ∧
 ∃ (a_2 : List Int),
 ∃ (b : List Int),
 ints IntKind.u8 (a ++ numW n) = ints IntKind.u8 a_2 ∧
 mgetS M [n] 0 = ints IntKind.u8 b ∧
 (a ++ numW n).length = a_2.length ∧
 a_2.length ≤ 1000000 ∧
 b.length ≤ 1000000 ∧
 ∃ (a : List Int),
 ints IntKind.u8 (a_2 ++ textW b) = ints IntKind.u8 a ∧
 (a_2 ++ textW b).length = a.length ∧
 a.length ≤ 1000000 ∧
 a.length ≤ (ints IntKind.u8 a).length ∧
 1 ≤ 1 ∧
 i.val + 1 ≤ (List.map bsl (List.take (i.val + 1) (recW x))).length ∧
 (i.val + 1 + 1) * 24 ≤ 140737488355328 ∧
 Nx (rcLI M x) i
 ([V.mp 0, V.sl 1 0 (i.val + 1 + 1), V.sl 2 0 x.length, V.int IntKind.i64 (↑x.length : Int), V.int IntKind.i64 (IntKind.i64.wrap ((↑i.val : Int) + 1))],
 [KO.mp [IntKind.i64] false false 1 M, KO.row 30 1 (List.take (i.val + 1) (List.map bsl (List.take (i.val + 1) (recW x))) ++ [[D.sl 1 (List.drop 0 (List.take a.length (ints IntKind.u8 a)))]]), KO.row 3 1 (ints IntKind.i64 (List.map (fun (x : P2) => x.fst) x))])) ∧
 (decide ((↑i.val : Int) < (↑x.length : Int)) = false → K (V.sl 1 0 (i.val + 1)) [KO.mp [IntKind.i64] false false 1 M, KO.row 30 1 (List.map bsl (List.take (i.val + 1) (recW x)))])
 ) : runSpec Try.prog XVm (vmT M x [] 0 68) 68 [.mp 0] [mpT M] (tidyRes 1 K) := by apply Eq.mp (a := hvc_); kernel_rfl
theorem vcSectors (ts : List (List Int)) (gen : Int) (K : V → KB → Prop) (hvc_ :
 At (scnLI ts gen) ([V.int IntKind.i64 gen, V.int IntKind.i64 0, V.dat (D.sl 1 (List.map bsl ts)), V.int IntKind.i64 (↑(List.map bsl ts).length : Int), V.int IntKind.i64 0], []) ∧
 ∀ (i : { i : Nat // i ≤ ts.length }),
 (decide ((↑i.val : Int) < (↑ts.length : Int)) = true →
 NonN (↑i.val : Int) ∧
 ∃ (e : List D),
 (List.map bsl ts)[(↑i.val : Int).toNat]? = some e ∧
 ∃ (l : List (List D)),
 e[0]? = some (D.sl 1 l) ∧
 ∃ (b : List Int),
 l = ints IntKind.u8 b ∧
 (∀ (c : Int), List.Mem c b → 0 ≤ c ∧ c < 256) ∧
 b.length ≤ 800000 ∧ Nx (scnLI ts gen) i ([V.int IntKind.i64 gen, V.int IntKind.i64 (IntKind.i64.wrap ((↑(catN gen 0 (List.take i.val ts)) : Int) + IntKind.i64.wrap ((↑((formJ gen (↑i.val : Int) b).fst.length - 0) : Int).tdiv 64))), V.dat (D.sl 1 (List.map bsl ts)), V.int IntKind.i64 (↑ts.length : Int), V.int IntKind.i64 (IntKind.i64.wrap ((↑i.val : Int) + 1))], [])) ∧
 (decide ((↑i.val : Int) < (↑ts.length : Int)) = false → K (V.int IntKind.i64 (↑(catN gen 0 (List.take i.val ts)) : Int)) [])
 ) : runSpec Try.prog XVm (vmT [] [] ts gen 69) 69 [.dat (.sl 1 (ts.map bsl)), .int .i64 gen] [] (tidyRes 0 K) := by apply Eq.mp (a := hvc_); kernel_rfl
theorem vcReadV (x : List P2) (L : List (List D)) (K : V → KB → Prop) (hvc_ :
 (((↑L.length : Int) == 0) = true → K (V.tup [V.any (Value.map none), V.sb false]) []) ∧
 (((↑L.length : Int) == 0) = false →
 NonN 0 ∧
 ∃ (e : List D),
 L[0]? = some e ∧
 ∃ (l : List (List D)),
 e[0]? = some (D.sl 1 l) ∧
 l.length ≤ 1000000 ∧
 ∃ (l_1 : List Int),
 l = ints IntKind.u8 l_1 ∧
 l.length = l_1.length ∧
 0 ≤ l_1.length ∧
 (∀ (c : Int), List.Mem c l_1 → 0 ≤ c ∧ c < 256) ∧
 l_1.length ≤ 10000000 ∧
 ∃ (l : List Int),
 ints IntKind.u8 l_1 = ints IntKind.u8 l ∧
 l_1.length = l.length ∧
 ((rEnd (List.drop (0 + (rNum (List.drop 0 l_1) 0 1099511627776).snd.fst) l) (rNum (List.drop 0 l_1) 0 1099511627776).snd.snd != 0) = true → K (V.tup [V.any (Value.map none), V.sb false]) []) ∧
 ((rEnd (List.drop (0 + (rNum (List.drop 0 l_1) 0 1099511627776).snd.fst) l) (rNum (List.drop 0 l_1) 0 1099511627776).snd.snd != 0) = false →
 (decide ((rNum (List.drop 0 l_1) 0 1099511627776).fst > IntKind.i64.wrap ((↑L.length : Int) - 1)) = true → K (V.tup [V.any (Value.map none), V.sb false]) []) ∧
 (decide ((rNum (List.drop 0 l_1) 0 1099511627776).fst > IntKind.i64.wrap ((↑L.length : Int) - 1)) = false →
 NonN 1 ∧
 NonN (IntKind.i64.wrap ((rNum (List.drop 0 l_1) 0 1099511627776).fst + 1)) ∧
 1 ≤ (IntKind.i64.wrap ((rNum (List.drop 0 l_1) 0 1099511627776).fst + 1)).toNat ∧
 (IntKind.i64.wrap ((rNum (List.drop 0 l_1) 0 1099511627776).fst + 1)).toNat ≤ L.length ∧
 At (rvLI x)
 ([V.mp 0, V.int IntKind.i64 (-1), V.dat (D.sl 1 (List.drop 1 (List.take (IntKind.i64.wrap ((rNum (List.drop 0 l_1) 0 1099511627776).fst + 1)).toNat L))), V.int IntKind.i64 (↑(List.drop 1 (List.take (IntKind.i64.wrap ((rNum (List.drop 0 l_1) 0 1099511627776).fst + 1)).toNat L)).length : Int), V.int IntKind.i64 0],
 [KO.mp [IntKind.i64] false false 1 []]) ∧
 ∀ (i : { p : Nat × ML // p.fst ≤ x.length ∧ Tab p.snd (List.take p.fst x) }),
 (decide ((↑i.val.fst : Int) < (↑x.length : Int)) = true →
 NonN (↑i.val.fst : Int) ∧
 ∃ (e : List D),
 (List.map bsl (List.map recP x))[(↑i.val.fst : Int).toNat]? = some e ∧
 ∃ (l : List (List D)),
 e[0]? = some (D.sl 1 l) ∧
 l.length ≤ 1000000 ∧
 ∃ (l_2 : List Int),
 l = ints IntKind.u8 l_2 ∧
 l.length = l_2.length ∧
 0 ≤ l_2.length ∧
 (∀ (c : Int), List.Mem c l_2 → 0 ≤ c ∧ c < 256) ∧
 l_2.length ≤ 10000000 ∧
 ∃ (l : List Int),
 ints IntKind.u8 l_2 = ints IntKind.u8 l ∧
 l_2.length = l.length ∧
 0 + (rNum (List.drop 0 l_2) 0 1099511627776).snd.fst ≤ l.length ∧
 (∀ (c : Int), List.Mem c l → 0 ≤ c ∧ c < 256) ∧
 l.length ≤ 900000 ∧
 ∃ (l_3 : List Int),
 ints IntKind.u8 l = ints IntKind.u8 l_3 ∧
 l.length = l_3.length ∧
 ((rEnd (List.drop (0 + (rNum (List.drop 0 l_2) 0 1099511627776).snd.fst + (rText (List.drop (0 + (rNum (List.drop 0 l_2) 0 1099511627776).snd.fst) l) (rNum (List.drop 0 l_2) 0 1099511627776).snd.snd 900).snd.fst) l_3)
 (rText (List.drop (0 + (rNum (List.drop 0 l_2) 0 1099511627776).snd.fst) l) (rNum (List.drop 0 l_2) 0 1099511627776).snd.snd 900).snd.snd !=
 0) =
 true →
 K (V.tup [V.any (Value.map none), V.sb false]) []) ∧
 ((rEnd (List.drop (0 + (rNum (List.drop 0 l_2) 0 1099511627776).snd.fst + (rText (List.drop (0 + (rNum (List.drop 0 l_2) 0 1099511627776).snd.fst) l) (rNum (List.drop 0 l_2) 0 1099511627776).snd.snd 900).snd.fst) l_3)
 (rText (List.drop (0 + (rNum (List.drop 0 l_2) 0 1099511627776).snd.fst) l) (rNum (List.drop 0 l_2) 0 1099511627776).snd.snd 900).snd.snd !=
 0) =
 false →
 (decide ((rNum (List.drop 0 l_2) 0 1099511627776).fst ≤ lastK x i.val.fst) = true → K (V.tup [V.any (Value.map none), V.sb false]) []) ∧
 (decide ((rNum (List.drop 0 l_2) 0 1099511627776).fst ≤ lastK x i.val.fst) = false →
 (rText (List.drop (0 + (rNum (List.drop 0 l_2) 0 1099511627776).snd.fst) l) (rNum (List.drop 0 l_2) 0 1099511627776).snd.snd 900).fst.length ≤
 (ints IntKind.u8 (rText (List.drop (0 + (rNum (List.drop 0 l_2) 0 1099511627776).snd.fst) l) (rNum (List.drop 0 l_2) 0 1099511627776).snd.snd 900).fst).length ∧
 Nx (rvLI x) i
 ([V.mp 0, V.int IntKind.i64 (rNum (List.drop 0 l_2) 0 1099511627776).fst, V.dat (D.sl 1 (List.map bsl (List.map recP x))), V.int IntKind.i64 (↑x.length : Int), V.int IntKind.i64 (IntKind.i64.wrap ((↑i.val.fst : Int) + 1))],
 [KO.mp [IntKind.i64] false false 1
 (mset i.val.snd [(rNum (List.drop 0 l_2) 0 1099511627776).fst]
 [D.sl 1
 (List.drop 0
 (List.take (rText (List.drop (0 + (rNum (List.drop 0 l_2) 0 1099511627776).snd.fst) l) (rNum (List.drop 0 l_2) 0 1099511627776).snd.snd 900).fst.length
 (ints IntKind.u8 (rText (List.drop (0 + (rNum (List.drop 0 l_2) 0 1099511627776).snd.fst) l) (rNum (List.drop 0 l_2) 0 1099511627776).snd.snd 900).fst)))])])))) ∧
 (decide ((↑i.val.fst : Int) < (↑x.length : Int)) = false → K (V.tup [V.mp 0, V.sb true]) [KO.mp [IntKind.i64] false false 1 i.val.snd]))))
 ) : runSpec Try.prog XVm (vmT [] x [] 0 41) 41 [.dat (.sl 1 L)] [] (tidyRes 0 K) := by apply Eq.mp (a := hvc_); kernel_rfl
theorem vcGener (h : List Int) (K : V → KB → Prop) (hvc_ :
 NonN 3 ∧
 True ∧
 3 ≤ (ints IntKind.u8 h).length ∧
 (ints IntKind.u8 h).length ≤ (ints IntKind.u8 h).length ∧
 (List.drop 3 (List.take (ints IntKind.u8 h).length (ints IntKind.u8 h))).length ≤ 1000000 ∧
 ∃ (l : List Int), List.drop 3 (List.take (ints IntKind.u8 h).length (ints IntKind.u8 h)) = ints IntKind.u8 l ∧ (List.drop 3 (List.take (ints IntKind.u8 h).length (ints IntKind.u8 h))).length = l.length ∧ 0 ≤ l.length ∧ (∀ (c : Int), List.Mem c l → 0 ≤ c ∧ c < 256) ∧ l.length ≤ 10000000 ∧ K (V.int IntKind.i64 (rNum (List.drop 0 l) 0 1099511627776).fst) []
 ) : runSpec Try.prog XVm (noT 39) 39 [.dat (.sl 1 (ints .u8 h))] [] (tidyRes 0 K) := by apply Eq.mp (a := hvc_); kernel_rfl
theorem vcChange (M : ML) (b : List Int) (K : V → KB → Prop) (hvc_ :
 (ints IntKind.u8 b).length ≤ 1000000 ∧
 ∃ (l : List Int),
 ints IntKind.u8 b = ints IntKind.u8 l ∧
 (ints IntKind.u8 b).length = l.length ∧
 0 ≤ l.length ∧
 (∀ (c : Int), List.Mem c l → 0 ≤ c ∧ c < 256) ∧
 l.length ≤ 10000000 ∧
 ∃ (l_1 : List Int),
 ints IntKind.u8 l = ints IntKind.u8 l_1 ∧
 l.length = l_1.length ∧
 0 + (rNum (List.drop 0 l) 0 1099511627776).snd.fst ≤ l_1.length ∧
 (∀ (c : Int), List.Mem c l_1 → 0 ≤ c ∧ c < 256) ∧
 l_1.length ≤ 10000000 ∧
 (((rNum (List.drop (0 + (rNum (List.drop 0 l) 0 1099511627776).snd.fst) l_1) (rNum (List.drop 0 l) 0 1099511627776).snd.snd 1).fst == 0) = true →
 ∃ (l_2 : List Int),
 ints IntKind.u8 l_1 = ints IntKind.u8 l_2 ∧
 l_1.length = l_2.length ∧
 ((rEnd (List.drop (0 + (rNum (List.drop 0 l) 0 1099511627776).snd.fst + (rNum (List.drop (0 + (rNum (List.drop 0 l) 0 1099511627776).snd.fst) l_1) (rNum (List.drop 0 l) 0 1099511627776).snd.snd 1).snd.fst) l_2) (rNum (List.drop (0 + (rNum (List.drop 0 l) 0 1099511627776).snd.fst) l_1) (rNum (List.drop 0 l) 0 1099511627776).snd.snd 1).snd.snd != 0) = true →
 K (V.sb false) [KO.mp [IntKind.i64] false false 1 M]) ∧
 ((rEnd (List.drop (0 + (rNum (List.drop 0 l) 0 1099511627776).snd.fst + (rNum (List.drop (0 + (rNum (List.drop 0 l) 0 1099511627776).snd.fst) l_1) (rNum (List.drop 0 l) 0 1099511627776).snd.snd 1).snd.fst) l_2) (rNum (List.drop (0 + (rNum (List.drop 0 l) 0 1099511627776).snd.fst) l_1) (rNum (List.drop 0 l) 0 1099511627776).snd.snd 1).snd.snd != 0) = false →
 K (V.sb true) [KO.mp [IntKind.i64] false false 1 (mdel M [(rNum (List.drop 0 l) 0 1099511627776).fst])])) ∧
 (((rNum (List.drop (0 + (rNum (List.drop 0 l) 0 1099511627776).snd.fst) l_1) (rNum (List.drop 0 l) 0 1099511627776).snd.snd 1).fst == 0) = false →
 ∃ (l_2 : List Int),
 ints IntKind.u8 l_1 = ints IntKind.u8 l_2 ∧
 l_1.length = l_2.length ∧
 0 + (rNum (List.drop 0 l) 0 1099511627776).snd.fst + (rNum (List.drop (0 + (rNum (List.drop 0 l) 0 1099511627776).snd.fst) l_1) (rNum (List.drop 0 l) 0 1099511627776).snd.snd 1).snd.fst ≤ l_2.length ∧
 (∀ (c : Int), List.Mem c l_2 → 0 ≤ c ∧ c < 256) ∧
 l_2.length ≤ 900000 ∧
 ∃ (l_3 : List Int),
 ints IntKind.u8 l_2 = ints IntKind.u8 l_3 ∧
 l_2.length = l_3.length ∧
 ((rEnd
 (List.drop
 (0 + (rNum (List.drop 0 l) 0 1099511627776).snd.fst + (rNum (List.drop (0 + (rNum (List.drop 0 l) 0 1099511627776).snd.fst) l_1) (rNum (List.drop 0 l) 0 1099511627776).snd.snd 1).snd.fst +
 (rText (List.drop (0 + (rNum (List.drop 0 l) 0 1099511627776).snd.fst + (rNum (List.drop (0 + (rNum (List.drop 0 l) 0 1099511627776).snd.fst) l_1) (rNum (List.drop 0 l) 0 1099511627776).snd.snd 1).snd.fst) l_2)
 (rNum (List.drop (0 + (rNum (List.drop 0 l) 0 1099511627776).snd.fst) l_1) (rNum (List.drop 0 l) 0 1099511627776).snd.snd 1).snd.snd 900).snd.fst)
 l_3)
 (rText (List.drop (0 + (rNum (List.drop 0 l) 0 1099511627776).snd.fst + (rNum (List.drop (0 + (rNum (List.drop 0 l) 0 1099511627776).snd.fst) l_1) (rNum (List.drop 0 l) 0 1099511627776).snd.snd 1).snd.fst) l_2)
 (rNum (List.drop (0 + (rNum (List.drop 0 l) 0 1099511627776).snd.fst) l_1) (rNum (List.drop 0 l) 0 1099511627776).snd.snd 1).snd.snd 900).snd.snd !=
 0) =
 true →
 K (V.sb false) [KO.mp [IntKind.i64] false false 1 M]) ∧
 ((rEnd
 (List.drop
 (0 + (rNum (List.drop 0 l) 0 1099511627776).snd.fst + (rNum (List.drop (0 + (rNum (List.drop 0 l) 0 1099511627776).snd.fst) l_1) (rNum (List.drop 0 l) 0 1099511627776).snd.snd 1).snd.fst +
 (rText (List.drop (0 + (rNum (List.drop 0 l) 0 1099511627776).snd.fst + (rNum (List.drop (0 + (rNum (List.drop 0 l) 0 1099511627776).snd.fst) l_1) (rNum (List.drop 0 l) 0 1099511627776).snd.snd 1).snd.fst) l_2)
 (rNum (List.drop (0 + (rNum (List.drop 0 l) 0 1099511627776).snd.fst) l_1) (rNum (List.drop 0 l) 0 1099511627776).snd.snd 1).snd.snd 900).snd.fst)
 l_3)
 (rText (List.drop (0 + (rNum (List.drop 0 l) 0 1099511627776).snd.fst + (rNum (List.drop (0 + (rNum (List.drop 0 l) 0 1099511627776).snd.fst) l_1) (rNum (List.drop 0 l) 0 1099511627776).snd.snd 1).snd.fst) l_2)
 (rNum (List.drop (0 + (rNum (List.drop 0 l) 0 1099511627776).snd.fst) l_1) (rNum (List.drop 0 l) 0 1099511627776).snd.snd 1).snd.snd 900).snd.snd !=
 0) =
 false →
 (rText (List.drop (0 + (rNum (List.drop 0 l) 0 1099511627776).snd.fst + (rNum (List.drop (0 + (rNum (List.drop 0 l) 0 1099511627776).snd.fst) l_1) (rNum (List.drop 0 l) 0 1099511627776).snd.snd 1).snd.fst) l_2) (rNum (List.drop (0 + (rNum (List.drop 0 l) 0 1099511627776).snd.fst) l_1) (rNum (List.drop 0 l) 0 1099511627776).snd.snd 1).snd.snd
 900).fst.length ≤
 (ints IntKind.u8
 (rText (List.drop (0 + (rNum (List.drop 0 l) 0 1099511627776).snd.fst + (rNum (List.drop (0 + (rNum (List.drop 0 l) 0 1099511627776).snd.fst) l_1) (rNum (List.drop 0 l) 0 1099511627776).snd.snd 1).snd.fst) l_2)
 (rNum (List.drop (0 + (rNum (List.drop 0 l) 0 1099511627776).snd.fst) l_1) (rNum (List.drop 0 l) 0 1099511627776).snd.snd 1).snd.snd 900).fst).length ∧
 K (V.sb true)
 [KO.mp [IntKind.i64] false false 1
 (mset M [(rNum (List.drop 0 l) 0 1099511627776).fst]
 [D.sl 1
 (List.drop 0
 (List.take
 (rText (List.drop (0 + (rNum (List.drop 0 l) 0 1099511627776).snd.fst + (rNum (List.drop (0 + (rNum (List.drop 0 l) 0 1099511627776).snd.fst) l_1) (rNum (List.drop 0 l) 0 1099511627776).snd.snd 1).snd.fst) l_2)
 (rNum (List.drop (0 + (rNum (List.drop 0 l) 0 1099511627776).snd.fst) l_1) (rNum (List.drop 0 l) 0 1099511627776).snd.snd 1).snd.snd 900).fst.length
 (ints IntKind.u8
 (rText (List.drop (0 + (rNum (List.drop 0 l) 0 1099511627776).snd.fst + (rNum (List.drop (0 + (rNum (List.drop 0 l) 0 1099511627776).snd.fst) l_1) (rNum (List.drop 0 l) 0 1099511627776).snd.snd 1).snd.fst) l_2)
 (rNum (List.drop (0 + (rNum (List.drop 0 l) 0 1099511627776).snd.fst) l_1) (rNum (List.drop 0 l) 0 1099511627776).snd.snd 1).snd.snd 900).fst)))])]))
 ) : runSpec Try.prog XVm (noT 26) 26 [.mp 0, .dat (.sl 1 (ints .u8 b))] [mpT M] (tidyRes 1 K) := by apply Eq.mp (a := hvc_); kernel_rfl
theorem vmS_ok : AllOk Try.prog vmS := fun f k h => by
  unfold vmS at h
  split at h
  · cases h; exact okMapClone
  · cases h; exact okMapKeys
  · cases h; exact okSorted
  · cases h; exact okJForm
  · exact pxS_ok _ _ h
theorem XVm_ok : CallOk Try.prog XVm := callS_ok mixed vmS_ok noT 10
theorem nonNat (n : Nat) : NonN (n : Int) := by unfold NonN; omega
theorem gP_get {x : List P2} {i : Nat} (h : i < x.length) : x[i]? = some (gP x i) := by
  unfold gP; rw [List.getD_eq_getElem?_getD, List.getElem?_eq_getElem h]; rfl
theorem gP_mem {x : List P2} {i : Nat} (h : i < x.length) : gP x i ∈ x := List.mem_of_getElem? (gP_get h)
theorem gP_lt {x : List P2} (h : x.Pairwise (fun a b => a.1 < b.1)) {i j : Nat} (hij : i < j) (hj : j < x.length) : (gP x i).1 < (gP x j).1 := by
  have h1 := gP_get (x := x) (i := i) (by omega)
  have h2 := gP_get hj
  rw [List.getElem?_eq_getElem (by omega)] at h1 h2
  have := List.pairwise_iff_getElem.1 h i j (by omega) hj hij
  rw [Option.some.inj h1, Option.some.inj h2] at this
  exact this
theorem putL_take {x : List P2} (h : x.Pairwise (fun a b => a.1 < b.1)) {i : Nat} (hi : i < x.length) : putL (x.take i) (gP x i).1 (gP x i).2 = x.take (i + 1) := by
  have h0 : ∀ p ∈ x.take i, p.1 < (gP x i).1 := fun p hp => by
    obtain ⟨j, hj, rfl⟩ := List.getElem_of_mem hp
    have hj' : j < i := by rw [List.length_take] at hj; omega
    rw [List.getElem_take]
    have := gP_lt h hj' hi
    have h1 := gP_get (x := x) (i := j) (by omega)
    rw [List.getElem?_eq_getElem (by omega)] at h1
    rw [Option.some.inj h1]; exact this
  have e1 : lo2 (x.take i) (gP x i).1 = x.take i := List.filter_eq_self.2 fun p hp => by simpa using h0 p hp
  have e2 : hi2 (x.take i) (gP x i).1 = [] := List.filter_eq_nil_iff.2 fun p hp => by have := h0 p hp; simp; omega
  unfold putL
  rw [e1, e2, List.take_add_one, gP_get hi]; rfl
theorem OkL.take {x : List P2} (h : OkL x) (i : Nat) : OkL (x.take i) := ⟨h.inc.sublist (List.take_sublist i x), fun p hp => h.rg p (List.mem_of_mem_take hp)⟩
theorem recP_rd {p : P2} (h : NumJ p.1 ∧ Byt p.2 ∧ p.2.length ≤ 900) : rNum (recP p) 0 1099511627776 = (p.1, (numW p.1).length, 0) ∧ (recP p).drop (numW p.1).length = textW p.2 ∧ rText (textW p.2) 0 900 = (p.2, (textW p.2).length, 0) ∧ (recP p).drop ((numW p.1).length + (textW p.2).length) = [] := by
  have h1 := h.1.lo
  have h2 := h.1.hi
  have h3 := h.2.2
  refine ⟨rNum_app (by omega) (by omega) (by omega) _, List.drop_left, ?_, ?_⟩
  · have := rText_app (b := p.2) (most := 900) (by omega) (by omega) []
    rwa [List.append_nil] at this
  · unfold recP; rw [← List.length_append, List.drop_length]
theorem catN_le {gen : Int} : ∀ {n : Nat} {ts : List (List Int)}, RecOk gen n ts → catN gen n ts ≤ 16 * ts.length
  | _, [], _ => Nat.le_refl _
  | n, t :: ts, h => by
    obtain ⟨r, s, e1, e2, e3, e4⟩ := formJ_ok h.1.1
    have ih := catN_le h.2
    have e : catN gen n (t :: ts) = (formJ gen n t).1.length / 64 + catN gen (n + 1) ts := rfl
    rw [e, e1, e2, List.length_cons]
    omega
theorem catN_app {gen : Int} : ∀ {n : Nat} {a b : List (List Int)}, catN gen n (a ++ b) = catN gen n a + catN gen (n + a.length) b
  | n, [], b => by simp [catN]
  | n, t :: a, b => by
    rw [List.cons_append]
    have e1 : ∀ c, catN gen n (t :: c) = (formJ gen n t).1.length / 64 + catN gen (n + 1) c := fun _ => rfl
    rw [e1, e1, catN_app, List.length_cons, show n + 1 + a.length = n + (a.length + 1) by omega]; omega
theorem take_i (b : List Int) : List.take b.length (ints .u8 b) = ints .u8 b := List.take_of_length_le (by rw [ints_len]; exact Nat.le_refl _)
theorem okGener : SpecOk Try.prog 39 Sgener := specOk_tdn XVm_ok 0 (fun args kb K h => by
  unfold Sgener at h; split at h <;> try exact h.elim
  obtain ⟨b, rfl, hb, hl, h⟩ := h
  refine ⟨rfl, noT _, vcGener b K ?_⟩
  have e : List.drop 3 (List.take (ints .u8 b).length (ints .u8 b)) = ints .u8 (b.drop 3) := by rw [List.take_length, ints_drop]
  have hb3 : Byt (b.drop 3) := fun c hc => hb c (List.mem_of_mem_drop hc)
  have hl3 : (b.drop 3).length ≤ 64 := by rw [List.length_drop]; omega
  rw [e, ints_len, ints_len]
  exact ⟨nonNat 3, trivial, by omega, Nat.le_refl _, by omega, b.drop 3, rfl, rfl, Nat.zero_le _, hb3, by omega, h⟩)
theorem okSectors : SpecOk Try.prog 69 SvSectors := specOk_tdn XVm_ok 0 (fun args kb K h => by
  unfold SvSectors at h; split at h <;> try exact h.elim
  rename_i gen
  obtain ⟨ts, rfl, ⟨hr⟩, hl, hb, h⟩ := h
  have hcat := catN_le hr
  refine ⟨rfl, vmT [] [] ts gen _, vcSectors ts gen K ⟨?_, ?_⟩⟩
  · rw [List.length_map]; exact At.mk' ⟨0, Nat.zero_le _⟩ rfl
  rintro ⟨i, hi⟩
  dsimp only
  refine ⟨fun hc => ?_, fun hc => ?_⟩
  · simp only [decide_eq_true_eq] at hc
    have hi2 : i < ts.length := by omega
    obtain ⟨b1, b2⟩ := hb _ (List.getElem_mem hi2)
    refine ⟨nonNat i, bsl ts[i], by rw [Int.toNat_natCast, List.getElem?_map, List.getElem?_eq_getElem hi2]; rfl, ints .u8 ts[i], rfl, ts[i], rfl, b1, by omega, ?_⟩
    have e : ts.take (i + 1) = ts.take i ++ [ts[i]] := by rw [List.take_add_one, List.getElem?_eq_getElem hi2]; rfl
    have e2 : catN gen 0 (ts.take (i + 1)) = catN gen 0 (ts.take i) + (formJ gen (i : Int) ts[i]).1.length / 64 := by
      rw [e, catN_snoc, List.length_take, Nat.zero_add, Nat.min_eq_left (by omega)]
    have e3 : catN gen 0 (ts.take (i + 1)) ≤ catN gen 0 ts := by
      have : ts = ts.take (i + 1) ++ ts.drop (i + 1) := (List.take_append_drop ..).symm
      conv => rhs; rw [this]
      rw [catN_app]; omega
    have w1 : IntKind.i64.wrap ((↑(catN gen 0 (List.take i ts)) : Int) + IntKind.i64.wrap ((↑((formJ gen (↑i : Int) ts[i]).fst.length - 0) : Int).tdiv 64)) = ((catN gen 0 (ts.take (i + 1)) : Nat) : Int) := by
      rw [Nat.sub_zero, Int.tdiv_eq_ediv_of_nonneg (by omega)]
      have h64 : ((formJ gen (i : Int) ts[i]).1.length : Int) / 64 = (((formJ gen (i : Int) ts[i]).1.length / 64 : Nat) : Int) := by omega
      rw [h64, w64 (n := (((formJ gen (i : Int) ts[i]).1.length / 64 : Nat) : Int)) (by omega) (by omega), w64 (by omega) (by omega), e2]; omega
    rw [w1, w64 (n := (i : Int) + 1) (by omega) (by omega)]
    exact Nx.mk' (⟨i + 1, by omega⟩ : {i : Nat // i ≤ ts.length}) rfl (by show ts.length - (i + 1) < ts.length - i; omega)
  · simp only [decide_eq_false_iff_not] at hc
    have : i = ts.length := by omega
    subst this
    rw [List.take_length]; exact h)
theorem okReadV : SpecOk Try.prog 41 SvReadV := specOk_tdn XVm_ok 0 (fun args kb K h => by
  unfold SvReadV at h; split at h <;> try exact h.elim
  obtain ⟨x, rfl, hx, hl, h⟩ := h
  refine ⟨rfl, vmT [] x [] 0 _, vcReadV x ((recW x).map bsl) K ?_⟩
  have hlen : ((recW x).map bsl).length = x.length + 1 := by simp [recW]
  have h0 : ((recW x).map bsl)[0]? = some (bsl (numW (x.length : Int))) := rfl
  have hn9 := (numW_len (x.length : Int)).2
  have hb0 : Byt (numW (x.length : Int)) := numW_byt (by omega)
  have r0 : rNum (numW (x.length : Int)) 0 1099511627776 = ((x.length : Int), (numW (x.length : Int)).length, 0) := by
    have := rNum_app (n := (x.length : Int)) (by omega) (by omega) (most := 1099511627776) (by omega) []
    rwa [List.append_nil] at this
  have w0 : IntKind.i64.wrap (((x.length + 1 : Nat) : Int) - 1) = (x.length : Int) := by rw [w64 (by omega) (by omega)]; omega
  have w1 : (IntKind.i64.wrap ((x.length : Int) + 1)) = ((x.length + 1 : Nat) : Int) := by rw [w64 (by omega) (by omega)]; omega
  have e2 : List.drop 1 (List.take (x.length + 1) ((recW x).map bsl)) = (x.map recP).map bsl := by rw [List.take_of_length_le (by omega)]; rfl
  rw [hlen]
  refine ⟨fun hc => ?_, fun _ => ⟨nonNat 0, bsl (numW (x.length : Int)), h0, ints .u8 (numW (x.length : Int)), rfl, by rw [ints_len]; omega, numW (x.length : Int), rfl, ints_len, Nat.zero_le _, hb0, by omega, numW (x.length : Int), rfl, rfl, fun hc => ?_, fun _ => ⟨fun hc => ?_, fun _ => ?_⟩⟩⟩
  · simp only [beq_iff_eq] at hc; omega
  · simp only [List.drop_zero, r0, Nat.zero_add, List.drop_length] at hc
    cases hc
  · simp only [List.drop_zero, r0, w0, gt_iff_lt, Int.lt_irrefl, decide_false] at hc
    cases hc
  simp only [List.drop_zero, r0, w1, Int.toNat_natCast, e2, List.length_map]
  refine ⟨nonNat 1, nonNat _, by omega, Nat.le_refl _, At.mk' ⟨(0, []), Nat.zero_le _, by rw [List.take_zero]; exact tab_nil⟩ rfl, ?_⟩
  rintro ⟨⟨i, M⟩, hi, hT⟩
  dsimp only at hi hT ⊢
  refine ⟨fun hc => ?_, fun hc => ?_⟩
  · simp only [decide_eq_true_eq] at hc
    have hi2 : i < x.length := by omega
    have hp := hx.rg _ (gP_mem hi2)
    obtain ⟨q1, q2⟩ := recP_ok hp
    obtain ⟨r1, d1, r2, d2⟩ := recP_rd hp
    have hput := putL_take hx.inc hi2
    have hge : (x.map recP)[i]? = some (recP (gP x i)) := by rw [List.getElem?_map, gP_get hi2]; rfl
    have hlast : ¬ (gP x i).1 ≤ lastK x i := by
      unfold lastK
      split
      · have := hp.1.lo; omega
      · have := gP_lt hx.inc (i := i - 1) (j := i) (by omega) hi2; omega
    have hlk : lastK x (i + 1) = (gP x i).1 := by unfold lastK; rw [if_neg (by omega)]; rfl
    have hle : (numW (gP x i).1).length ≤ (recP (gP x i)).length := by unfold recP; rw [List.length_append]; omega
    generalize gP x i = p at *
    refine ⟨nonNat i, bsl (recP p), by rw [List.getElem?_map, hge]; rfl, ints .u8 (recP p), rfl, by rw [ints_len]; omega, recP p, rfl, ints_len, Nat.zero_le _, q1, by omega, recP p, rfl, rfl, ?_, q1, by omega, recP p, rfl, rfl, ?_⟩
    · rw [r1, Nat.zero_add]; exact hle
    simp only [List.drop_zero, Nat.zero_add, r1, d1, r2, d2]
    refine ⟨fun hc => (by cases hc), fun _ => ⟨fun hc => absurd (of_decide_eq_true hc) hlast, fun _ => ⟨by rw [ints_len]; exact Nat.le_refl _, ?_⟩⟩⟩
    rw [take_i, w64 (n := (i : Int) + 1) (by omega) (by omega)]
    have ht := tab_put hT hp.1 hp.2 (by rw [List.length_take]; omega)
    rw [hput] at ht
    refine Nx.mk' (⟨(i + 1, _), by show i + 1 ≤ x.length; omega, ht⟩ : {p : Nat × ML // p.1 ≤ x.length ∧ Tab p.2 (x.take p.1)}) ?_ (by show x.length - (i + 1) < x.length - i; omega)
    show _ = (([_, .int .i64 (lastK x (i + 1)), _, _, _], _) : List V × KB)
    rw [hlk]
    rfl
  · simp only [decide_eq_false_iff_not] at hc
    have : i = x.length := by omega
    subst this
    rw [List.take_length] at hT
    exact h M hT)
theorem okChange : SpecOk Try.prog 26 Schange := specOk_tdn XVm_ok 1 (fun args kb K h => by
  unfold Schange at h; split at h <;> try exact h.elim
  rename_i M
  obtain ⟨x, c, hT, rfl, hc, hl, h⟩ := h
  refine ⟨rfl, noT _, vcChange M (chgW c) K ?_⟩
  obtain ⟨q1, q2⟩ := chgW_ok hc
  obtain ⟨k, b⟩ := c
  have hk0 : 0 ≤ k := hc.k.lo
  have hk1 : k ≤ 1099511627776 := hc.k.hi
  refine ⟨by rw [ints_len]; omega, chgW (k, b), rfl, ints_len, Nat.zero_le _, q1, by omega, chgW (k, b), rfl, rfl, ?_⟩
  cases b with
  | none =>
    have r1 : rNum (chgW (k, none)) 0 1099511627776 = (k, (numW k).length, 0) := rNum_app (by omega) (by omega) (by omega) _
    have d1 : (chgW (k, none)).drop (numW k).length = numW 0 := List.drop_left
    have r2 : rNum (numW 0) 0 1 = (0, (numW 0).length, 0) := by
      have := rNum_app (n := 0) (by omega) (by omega) (most := 1) (by omega) []
      rwa [List.append_nil] at this
    have d2 : (chgW (k, none)).drop ((numW k).length + (numW 0).length) = [] := by unfold chgW; rw [← List.length_append, List.drop_length]
    simp only [List.drop_zero, Nat.zero_add, r1, d1, r2, d2]
    refine ⟨by show _ ≤ (numW k ++ numW 0).length; rw [List.length_append]; omega, q1, by omega, fun _ => ⟨chgW (k, none), rfl, rfl, fun hc => ?_, fun _ => ?_⟩, fun hc => (by cases hc)⟩
    · rw [d2] at hc; cases hc
    · exact h _ (tab_out hT)
  | some b =>
    obtain ⟨hb1, hb2⟩ := hc.b b rfl
    have e0 : chgW (k, some b) = numW k ++ (numW 1 ++ textW b) := List.append_assoc ..
    have r1 : rNum (chgW (k, some b)) 0 1099511627776 = (k, (numW k).length, 0) := by rw [e0]; exact rNum_app (by omega) (by omega) (by omega) _
    have d1 : (chgW (k, some b)).drop (numW k).length = numW 1 ++ textW b := by rw [e0]; exact List.drop_left
    have r2 : rNum (numW 1 ++ textW b) 0 1 = (1, (numW 1).length, 0) := rNum_app (by omega) (by omega) (by omega) _
    have d2 : (chgW (k, some b)).drop ((numW k).length + (numW 1).length) = textW b := by unfold chgW; rw [← List.length_append]; exact List.drop_left
    have r3 : rText (textW b) 0 900 = (b, (textW b).length, 0) := by
      have := rText_app (b := b) (most := 900) (by omega) (by omega) []
      rwa [List.append_nil] at this
    have d3 : (chgW (k, some b)).drop ((numW k).length + (numW 1).length + (textW b).length) = [] := by unfold chgW; rw [← List.length_append, ← List.length_append, List.drop_length]
    simp only [List.drop_zero, Nat.zero_add, r1, d1, r2]
    refine ⟨by rw [e0, List.length_append]; omega, q1, by omega, fun hc => (by cases hc), fun _ => ⟨chgW (k, some b), rfl, rfl, by rw [e0, List.length_append, List.length_append]; omega, q1, by omega, chgW (k, some b), rfl, rfl, ?_⟩⟩
    simp only [d2, r3, d3]
    refine ⟨fun hc => (by cases hc), fun _ => ⟨by rw [ints_len]; exact Nat.le_refl _, ?_⟩⟩
    rw [take_i]
    exact h _ (tab_put hT hc.k ⟨hb1, hb2⟩ hl))
theorem okRecords : SpecOk Try.prog 68 SvRecords := specOk_tdn XVm_ok 1 (fun args kb K h => by
  unfold SvRecords at h; split at h <;> try exact h.elim
  rename_i M
  obtain ⟨x, hT, h⟩ := h
  refine ⟨rfl, vmT M x [] 0 _, vcRecords M x K ?_⟩
  obtain ⟨hK, hs, hML⟩ := tab_keys hT
  have hl := hT.len
  have hn9 := (numW_len (x.length : Int)).2
  rw [hs, hML]
  have t0 : List.drop 0 (List.take (numW (x.length : Int)).length (ints .u8 (numW (x.length : Int)))) = ints .u8 (numW (x.length : Int)) := by
    rw [List.drop_zero, List.take_of_length_le (by rw [ints_len]; exact Nat.le_refl _)]
  suffices body : _ from ⟨[], rfl, rfl, Nat.zero_le _, ⟨by omega⟩, numW (x.length : Int), rfl, rfl, by omega, by rw [ints_len]; exact Nat.le_refl _, rfl, rfl, rfl, hK, fun hM => ⟨by
    have hx : x = [] := by
      have := hML; rw [hM] at this
      exact List.length_eq_zero_iff.1 this.symm
    subst hx
    rw [t0]
    exact At.mk' ⟨0, Nat.zero_le _⟩ rfl, body⟩, by
    rw [t0]
    exact At.mk' ⟨0, Nat.zero_le _⟩ rfl, body⟩
  rintro ⟨i, hi⟩
  dsimp only
  refine ⟨fun hc => ?_, fun hc => ?_⟩
  · simp only [decide_eq_true_eq] at hc
    have hi2 : i < x.length := by omega
    have hp := hT.rg _ (gP_mem hi2)
    obtain ⟨q1, q2⟩ := recP_ok hp
    have hge : (x.map recP)[i]? = some (recP (gP x i)) := by rw [List.getElem?_map, gP_get hi2]; rfl
    have hkey : (x.map (·.1))[i]? = some (gP x i).1 := by rw [List.getElem?_map, gP_get hi2]; rfl
    have hg := tbl_get hT (gP x i).1
    have hh := (tab_has hT (gP x i).1).2
    rw [getP_of hT.inc (gP_mem hi2)] at hg hh
    have hk1 := hp.1.hi
    have e3 : (recW x).take (i + 1 + 1) = (recW x).take (i + 1) ++ [recP (gP x i)] := by
      rw [List.take_add_one (i := i + 1)]
      show _ ++ ((x.map recP)[i]?).toList = _
      rw [hge]; rfl
    have e4 : (recW x).length = x.length + 1 := by simp [recW]
    have hn2 := (numW_len (gP x i).1).2
    generalize gP x i = p at *
    refine ⟨by unfold InB; omega, [.val (.int .i64 p.1)], by rw [Nat.zero_add, Int.toNat_natCast, ints_get, hkey]; rfl, p.1, rfl, [], rfl, rfl, Nat.zero_le _, ⟨by omega⟩, fun cs hcs => ?_, numW p.1, p.2, rfl, hh, rfl, by omega, by omega, recP p, rfl, rfl, by omega, by rw [ints_len]; exact Nat.le_refl _, Nat.le_refl _, ?_, by omega, ?_⟩
    · rw [hg] at hcs; cases hcs
      exact ⟨_, [], rfl, rfl⟩
    · rw [List.length_map, List.length_take, e4]; omega
    · rw [w64 (n := (i : Int) + 1) (by omega) (by omega), take_i, List.drop_zero, List.take_of_length_le (by rw [List.length_map, List.length_take]; omega)]
      refine Nx.mk' (⟨i + 1, by omega⟩ : {i : Nat // i ≤ x.length}) ?_ (by show x.length - (i + 1) < x.length - i; omega)
      show _ = (([_, _, _, _, _], [_, .row _ 1 (((recW x).take (i + 1 + 1)).map bsl), _]) : List V × KB)
      rw [e3, List.map_append]
      rfl
  · simp only [decide_eq_false_iff_not] at hc
    have : i = x.length := by omega
    subst this
    have e : (recW x).take (x.length + 1) = recW x := List.take_of_length_le (by simp [recW])
    have e2 : (recW x).length = x.length + 1 := by simp [recW]
    rw [e]; rw [e2] at h; exact h)
end Go.Proofs.Ytkodjbegpheomaa
