import Derived.Test.YtljkijkonhcgfaaDw
import Derived.KernelRfl
namespace Go.Proofs.Ytljkijkonhcgfaa
open Vc Go
set_option linter.unusedVariables false
set_option linter.unusedSimpArgs false
set_option maxRecDepth 100000
def Sawake : FSpec := fun args kb K => match args, kb with | [], [] => K (.sb true) [] | _, _ => False
def awS : FuncId → Option Known
  | 7 => some ⟨[], Sput⟩
  | 8 => some ⟨[], Scheck⟩
  | 9 => some ⟨[], Sclients⟩
  | 12 => some ⟨[], StBytes⟩
  | 11 => some ⟨[.lend 1], SLoad⟩
  | 14 => some ⟨[.lend 1, .lend 1], Ssame⟩
  | 10 => some ⟨[.give 3], SrPut⟩
  | 13 => some ⟨[.lend 3], SrCheck⟩
  | 15 => some ⟨[.lend 3], SrBytes⟩
  | _ => none
noncomputable def XAw : CallT := callS Try.prog awS noT 10
def lawS : FuncId → Option Known
  | 6 => some ⟨[], Sawake⟩
  | f => awS f
/-- Another client's state after i rounds: table, list, the greatest number. -/
structure OthI (n : Nat) (a b : Int) (i : Nat) (most : Int) (M : ML) (x : List L3) : Prop where
  le : i ≤ n
  tab : Tab M x
  na : numA x a = some (50, 5)
  nb0 : i = 0 → numA x b = none ∧ most = 0
  nb : 0 < i → ∃ e, numA x b = some (most, e)
  len : x.length = 1 + min i 1
  m0 : 0 ≤ most
  m1 : most ≤ 256
structure OthC (n : Nat) (a b : Int) (i : Nat) (most : Int) (v e : Int) (M : ML) (x : List L3) : Prop where
  lt : i < n
  tab : Tab M x
  na : numA x a = some (50, 5)
  nb : ∃ e, numA x b = some (if v > most then v else most, e)
  len : x.length = 2
  m0 : 0 ≤ most
  m1 : most ≤ 256
  v0 : 0 ≤ v
  v1 : v ≤ 256
  ee : e = 0 ↔ v > most
abbrev otC (l : List Int) (a b : Int) (i : Nat) (most : Int) : LI where
  α := {p : Int × Int × ML × List L3 // OthC l.length a b i most p.1 p.2.1 p.2.2.1 p.2.2.2}
  live := [0, 1, 2, 7, 8, 9, 10, 11]
  st p := ([.dat (.sl 1 (ints .u8 l)), .int .u8 a, .int .u8 b, .ptr 0 0, .int .i64 most, .int .i64 (i : Int), .int .i64 p.1.1, .int .i64 p.1.2.1], [.cells [.mp 1], mpT p.1.2.2.1])
  μ p := 0
abbrev otLI (l : List Int) (a b : Int) : LI where
  α := {p : Nat × Int × ML × List L3 // OthI l.length a b p.1 p.2.1 p.2.2.1 p.2.2.2}
  live := [0, 1, 2, 7, 8, 9]
  st p := ([.dat (.sl 1 (ints .u8 l)), .int .u8 a, .int .u8 b, .ptr 0 0, .int .i64 p.1.2.1, .int .i64 (p.1.1 : Int)], [.cells [.mp 1], mpT p.1.2.2.1])
  μ p := l.length - p.1.1
  sub p r := match r with
    | 1012 => some (otC l a b p.1.1 p.1.2.1)
    | _ => none
def laT (l : List Int) (a b : Int) : FuncId → Nat → Option LI
  | 3, 8 => some (otLI l a b)
  | _, _ => none
noncomputable def XL (l : List Int) (a b : Int) : CallT := callS Try.prog lawS (laT l a b) 10
theorem vcAwake  (K : V → KB → Prop) (hvc_ :
 (NeZ 0 → (true = true → (false = true → (false = true → (false = true → K (V.sb true) []) ∧ (false = false → K (V.sb false) [])) ∧ (false = false → K (V.sb false) [])) ∧ (false = false → K (V.sb false) [])) ∧ (true = false → K (V.sb false) [])) ∧
 (EqZ 0 →
 ∃ (x : List L3),
 Tab (mset [] [9] [D.val (Value.int IntKind.i64 5), D.val (Value.int IntKind.i64 5)]) x ∧
 ∃ (x_1 : List L3),
 Tab (mset [] [9] [D.val (Value.int IntKind.i64 5), D.val (Value.int IntKind.i64 5)]) x_1 ∧
 ∃ (x_2 : List L3),
 Tab (mset [] [9] [D.val (Value.int IntKind.i64 5), D.val (Value.int IntKind.i64 5)]) x_2 ∧
 (true = true → ((chkK x 9 5 == 1) = true → ((chkE x 9 5 == 5) = true → ((chkK x_1 9 4 == 2) = true → K (V.sb (chkK x_2 9 6 == 0)) []) ∧ ((chkK x_1 9 4 == 2) = false → K (V.sb false) [])) ∧ ((chkE x 9 5 == 5) = false → K (V.sb false) [])) ∧ ((chkK x 9 5 == 1) = false → K (V.sb false) [])) ∧ (true = false → K (V.sb false) []))
 ) : runSpec Try.prog XAw (noT 6) 6 [] [] K := Eq.mp (by kernel_rfl) hvc_
theorem vcLoads (b : List Int)  (hvc_ :
 (decide ((↑(ints IntKind.u8 b).length : Int) > 100) = true → true = true) ∧
 (decide ((↑(ints IntKind.u8 b).length : Int) > 100) = false →
 ∃ (b_1 : List Int),
 ints IntKind.u8 b = ints IntKind.u8 b_1 ∧
 (∀ (c : Int), List.Mem c b_1 → 0 ≤ c ∧ c < 256) ∧
 b_1.length ≤ 2000 ∧
 (((∃ (x : List L3), OkX x ∧ b_1 = tabW x) → False) →
 (true = true → (false = true → true = true) ∧ (false = false → (true = true → true = true) ∧ (true = false → False))) ∧
 (true = false → (1 ≤ 1 ∧ True ∧ True) ∧ ∃ (a : List Int), ∃ (b_2 : List Int), [[D.val (Value.int IntKind.u8 0)]] = ints IntKind.u8 a ∧ ints IntKind.u8 b = ints IntKind.u8 b_2 ∧ a.length.le 1000000 ∧ True ∧ (decide (a = b_2) = true → (false = true → true = true) ∧ (false = false → (true = true → true = true) ∧ (true = false → False))) ∧ (decide (a = b_2) = false → False))) ∧
 (b_1 = [0] →
 (false = true → (true = true → true = true) ∧ (true = false → (true = true → true = true) ∧ (true = false → False))) ∧
 (false = false → (1 ≤ 1 ∧ True ∧ True) ∧ ∃ (a : List Int), ∃ (b_2 : List Int), [[D.val (Value.int IntKind.u8 0)]] = ints IntKind.u8 a ∧ ints IntKind.u8 b = ints IntKind.u8 b_2 ∧ a.length.le 1000000 ∧ True ∧ (decide (a = b_2) = true → (true = true → true = true) ∧ (true = false → (true = true → true = true) ∧ (true = false → False))) ∧ (decide (a = b_2) = false → False))) ∧
 ∀ (x : List L3) (M : ML),
 Tab M x →
 b_1 = tabW x →
 (false = true → (true = true → true = true) ∧ (true = false → ∃ (x : List L3), Tab M x ∧ (((↑(x.length - 0) : Int) == 0) = true → true = true) ∧ (((↑(x.length - 0) : Int) == 0) = false → False))) ∧
 (false = false →
 ∃ (x : List L3),
 Tab M x ∧
 ((tabW x).length ≤ (ints IntKind.u8 (tabW x)).length ∧ True ∧ True) ∧
 ∃ (a : List Int),
 ∃ (b_2 : List Int),
 List.drop 0 (List.take (tabW x).length (ints IntKind.u8 (tabW x))) = ints IntKind.u8 a ∧
 ints IntKind.u8 b = ints IntKind.u8 b_2 ∧ a.length.le 1000000 ∧ True ∧ (decide (a = b_2) = true → (true = true → true = true) ∧ (true = false → ∃ (x : List L3), Tab M x ∧ (((↑(x.length - 0) : Int) == 0) = true → true = true) ∧ (((↑(x.length - 0) : Int) == 0) = false → False))) ∧ (decide (a = b_2) = false → False)))
 ) : XL [] 0 0 5 [.dat (.sl 1 (ints .u8 b))] [] KT := Eq.mp (by kernel_rfl) hvc_
theorem vcOthers (l : List Int) (ca cb : Int)  (hvc_ :
 (decide ((↑(ints IntKind.u8 l).length : Int) > 60) = true → true = true) ∧
 (decide ((↑(ints IntKind.u8 l).length : Int) > 60) = false →
 ((ca == cb) = true → true = true) ∧
 ((ca == cb) = false →
 (NeZ (putE [] (IntKind.i64.wrap ca) 50 5) →
 ((putE [] (IntKind.i64.wrap ca) 50 5 != 0) = true → False) ∧
 ((putE [] (IntKind.i64.wrap ca) 50 5 != 0) = false →
 At (otLI l ca cb) ([V.dat (D.sl 1 (ints IntKind.u8 l)), V.int IntKind.u8 ca, V.int IntKind.u8 cb, V.ptr 0 0, V.int IntKind.i64 0, V.int IntKind.i64 0], [KO.cells [V.any (Value.map none)]]) ∧
 ∀ (i : { p : Nat × Int × ML × List L3 // OthI l.length ca cb p.fst p.snd.fst p.snd.snd.fst p.snd.snd.snd }),
 (decide ((↑i.val.fst : Int) < (↑(ints IntKind.u8 l).length : Int)) = true →
 NonN (↑i.val.fst : Int) ∧
 ∃ (e : List D),
 (ints IntKind.u8 l)[(↑i.val.fst : Int).toNat]? = some e ∧
 ∃ (n : Int),
 e[0]? = some (D.val (Value.int IntKind.u8 n)) ∧
 (∃ (x : List L3),
 Tab i.val.snd.snd.fst x ∧
 (NeZ (putE x (IntKind.i64.wrap cb) (IntKind.i64.wrap (1 + IntKind.i64.wrap n)) 0) →
 At (otC l ca cb i.val.fst i.val.snd.fst)
 ([V.dat (D.sl 1 (ints IntKind.u8 l)), V.int IntKind.u8 ca, V.int IntKind.u8 cb, V.ptr 0 0, V.int IntKind.i64 i.val.snd.fst, V.int IntKind.i64 (↑i.val.fst : Int), V.int IntKind.i64 (IntKind.i64.wrap (1 + IntKind.i64.wrap n)), V.int IntKind.i64 (putE x (IntKind.i64.wrap cb) (IntKind.i64.wrap (1 + IntKind.i64.wrap n)) 0)],
 [KO.cells [V.mp 1], KO.mp [IntKind.i64] false true 2 i.val.snd.snd.fst])) ∧
 (EqZ (putE x (IntKind.i64.wrap cb) (IntKind.i64.wrap (1 + IntKind.i64.wrap n)) 0) →
 At (otC l ca cb i.val.fst i.val.snd.fst)
 ([V.dat (D.sl 1 (ints IntKind.u8 l)), V.int IntKind.u8 ca, V.int IntKind.u8 cb, V.ptr 0 0, V.int IntKind.i64 i.val.snd.fst, V.int IntKind.i64 (↑i.val.fst : Int), V.int IntKind.i64 (IntKind.i64.wrap (1 + IntKind.i64.wrap n)), V.int IntKind.i64 0],
 [KO.cells [V.mp 1], KO.mp [IntKind.i64] false true 2 (mset i.val.snd.snd.fst [IntKind.i64.wrap cb] [dn IntKind.i64 (IntKind.i64.wrap (1 + IntKind.i64.wrap n)), D.val (Value.int IntKind.i64 0)])]))) ∧
 ∀ (i_1 : { p : Int × Int × ML × List L3 // OthC l.length ca cb i.val.fst i.val.snd.fst p.fst p.snd.fst p.snd.snd.fst p.snd.snd.snd }),
 ((!(i_1.val.snd.fst == 0) == decide (i_1.val.fst > i.val.snd.fst)) = true → False) ∧
 ((!(i_1.val.snd.fst == 0) == decide (i_1.val.fst > i.val.snd.fst)) = false →
 ∃ (x : List L3),
 Tab i_1.val.snd.snd.fst x ∧
 ∃ (x_1 : List L3),
 Tab i_1.val.snd.snd.fst x_1 ∧
 ∃ (x_2 : List L3),
 Tab i_1.val.snd.snd.fst x_2 ∧
 ((chkK x (IntKind.i64.wrap ca) 50 != 1) = true → False) ∧
 ((chkK x (IntKind.i64.wrap ca) 50 != 1) = false →
 ((chkE x (IntKind.i64.wrap ca) 50 != 5) = true → False) ∧
 ((chkE x (IntKind.i64.wrap ca) 50 != 5) = false →
 ((chkK x_1 (IntKind.i64.wrap ca) 49 != 2) = true → False) ∧
 ((chkK x_1 (IntKind.i64.wrap ca) 49 != 2) = false →
 ((chkK x_2 (IntKind.i64.wrap ca) 51 != 0) = true → False) ∧
 ((chkK x_2 (IntKind.i64.wrap ca) 51 != 0) = false →
 Nx (otLI l ca cb) i
 ([V.dat (D.sl 1 (ints IntKind.u8 l)), V.int IntKind.u8 ca, V.int IntKind.u8 cb, V.ptr 0 0, V.int IntKind.i64 (if i_1.val.fst > i.val.snd.fst then i_1.val.fst else i.val.snd.fst), V.int IntKind.i64 (IntKind.i64.wrap ((↑i.val.fst : Int) + 1))], [KO.cells [V.mp 1], KO.mp [IntKind.i64] false true 2 i_1.val.snd.snd.fst]))))))) ∧
 (decide ((↑i.val.fst : Int) < (↑(ints IntKind.u8 l).length : Int)) = false →
 ∃ (x : List L3), Tab i.val.snd.snd.fst x ∧ (((↑(x.length - 0) : Int) == IntKind.i64.wrap (1 + if 1 < (↑(ints IntKind.u8 l).length : Int) then 1 else (↑(ints IntKind.u8 l).length : Int))) = true → true = true) ∧ (((↑(x.length - 0) : Int) == IntKind.i64.wrap (1 + if 1 < (↑(ints IntKind.u8 l).length : Int) then 1 else (↑(ints IntKind.u8 l).length : Int))) = false → False)))) ∧
 (EqZ (putE [] (IntKind.i64.wrap ca) 50 5) →
 (false = true → False) ∧
 (false = false →
 At (otLI l ca cb) ([V.dat (D.sl 1 (ints IntKind.u8 l)), V.int IntKind.u8 ca, V.int IntKind.u8 cb, V.ptr 0 0, V.int IntKind.i64 0, V.int IntKind.i64 0], [KO.cells [V.mp 1], KO.mp [IntKind.i64] false true 2 [([IntKind.i64.wrap ca], [D.val (Value.int IntKind.i64 50), D.val (Value.int IntKind.i64 5)])]]) ∧
 ∀ (i : { p : Nat × Int × ML × List L3 // OthI l.length ca cb p.fst p.snd.fst p.snd.snd.fst p.snd.snd.snd }),
 (decide ((↑i.val.fst : Int) < (↑(ints IntKind.u8 l).length : Int)) = true →
 NonN (↑i.val.fst : Int) ∧
 ∃ (e : List D),
 (ints IntKind.u8 l)[(↑i.val.fst : Int).toNat]? = some e ∧
 ∃ (n : Int),
 e[0]? = some (D.val (Value.int IntKind.u8 n)) ∧
 (∃ (x : List L3),
 Tab i.val.snd.snd.fst x ∧
 (NeZ (putE x (IntKind.i64.wrap cb) (IntKind.i64.wrap (1 + IntKind.i64.wrap n)) 0) →
 At (otC l ca cb i.val.fst i.val.snd.fst)
 ([V.dat (D.sl 1 (ints IntKind.u8 l)), V.int IntKind.u8 ca, V.int IntKind.u8 cb, V.ptr 0 0, V.int IntKind.i64 i.val.snd.fst, V.int IntKind.i64 (↑i.val.fst : Int), V.int IntKind.i64 (IntKind.i64.wrap (1 + IntKind.i64.wrap n)), V.int IntKind.i64 (putE x (IntKind.i64.wrap cb) (IntKind.i64.wrap (1 + IntKind.i64.wrap n)) 0)],
 [KO.cells [V.mp 1], KO.mp [IntKind.i64] false true 2 i.val.snd.snd.fst])) ∧
 (EqZ (putE x (IntKind.i64.wrap cb) (IntKind.i64.wrap (1 + IntKind.i64.wrap n)) 0) →
 At (otC l ca cb i.val.fst i.val.snd.fst)
 ([V.dat (D.sl 1 (ints IntKind.u8 l)), V.int IntKind.u8 ca, V.int IntKind.u8 cb, V.ptr 0 0, V.int IntKind.i64 i.val.snd.fst, V.int IntKind.i64 (↑i.val.fst : Int), V.int IntKind.i64 (IntKind.i64.wrap (1 + IntKind.i64.wrap n)), V.int IntKind.i64 0],
 [KO.cells [V.mp 1], KO.mp [IntKind.i64] false true 2 (mset i.val.snd.snd.fst [IntKind.i64.wrap cb] [dn IntKind.i64 (IntKind.i64.wrap (1 + IntKind.i64.wrap n)), D.val (Value.int IntKind.i64 0)])]))) ∧
 ∀ (i_1 : { p : Int × Int × ML × List L3 // OthC l.length ca cb i.val.fst i.val.snd.fst p.fst p.snd.fst p.snd.snd.fst p.snd.snd.snd }),
 ((!(i_1.val.snd.fst == 0) == decide (i_1.val.fst > i.val.snd.fst)) = true → False) ∧
 ((!(i_1.val.snd.fst == 0) == decide (i_1.val.fst > i.val.snd.fst)) = false →
 ∃ (x : List L3),
 Tab i_1.val.snd.snd.fst x ∧
 ∃ (x_1 : List L3),
 Tab i_1.val.snd.snd.fst x_1 ∧
 ∃ (x_2 : List L3),
 Tab i_1.val.snd.snd.fst x_2 ∧
 ((chkK x (IntKind.i64.wrap ca) 50 != 1) = true → False) ∧
 ((chkK x (IntKind.i64.wrap ca) 50 != 1) = false →
 ((chkE x (IntKind.i64.wrap ca) 50 != 5) = true → False) ∧
 ((chkE x (IntKind.i64.wrap ca) 50 != 5) = false →
 ((chkK x_1 (IntKind.i64.wrap ca) 49 != 2) = true → False) ∧
 ((chkK x_1 (IntKind.i64.wrap ca) 49 != 2) = false →
 ((chkK x_2 (IntKind.i64.wrap ca) 51 != 0) = true → False) ∧
 ((chkK x_2 (IntKind.i64.wrap ca) 51 != 0) = false →
 Nx (otLI l ca cb) i
 ([V.dat (D.sl 1 (ints IntKind.u8 l)), V.int IntKind.u8 ca, V.int IntKind.u8 cb, V.ptr 0 0, V.int IntKind.i64 (if i_1.val.fst > i.val.snd.fst then i_1.val.fst else i.val.snd.fst), V.int IntKind.i64 (IntKind.i64.wrap ((↑i.val.fst : Int) + 1))], [KO.cells [V.mp 1], KO.mp [IntKind.i64] false true 2 i_1.val.snd.snd.fst]))))))) ∧
 (decide ((↑i.val.fst : Int) < (↑(ints IntKind.u8 l).length : Int)) = false →
 ∃ (x : List L3), Tab i.val.snd.snd.fst x ∧ (((↑(x.length - 0) : Int) == IntKind.i64.wrap (1 + if 1 < (↑(ints IntKind.u8 l).length : Int) then 1 else (↑(ints IntKind.u8 l).length : Int))) = true → true = true) ∧ (((↑(x.length - 0) : Int) == IntKind.i64.wrap (1 + if 1 < (↑(ints IntKind.u8 l).length : Int) then 1 else (↑(ints IntKind.u8 l).length : Int))) = false → False))))))
 ) : XL l ca cb 3 [.dat (.sl 1 (ints .u8 l)), .int .u8 ca, .int .u8 cb] [] KT := Eq.mp (by kernel_rfl) hvc_
def gI (l : List Int) (i : Nat) : Int := l.getD i 0
theorem gI_get {l : List Int} {i : Nat} (h : i < l.length) : l[i]? = some (gI l i) := by
  unfold gI; rw [List.getD_eq_getElem?_getD, List.getElem?_eq_getElem h]; rfl
theorem gI_mem {l : List Int} {i : Nat} (h : i < l.length) : gI l i ∈ l := List.mem_of_getElem? (gI_get h)
theorem el {k : IntKind} {l : List Int} {i : Nat} {Q : Int → Prop} (h : i < l.length) (q : Q (gI l i)) : NonN (i : Int) ∧ ∃ e, (ints k l)[(i : Int).toNat]? = some e ∧ ∃ n, e[0]? = some (D.val (.int k n)) ∧ Q n :=
  ⟨by unfold NonN; omega, [D.val (.int k (gI l i))], by rw [Int.toNat_natCast, ints_get, gI_get h]; rfl, _, rfl, q⟩
theorem takeA {k : IntKind} {o : List Int} {n : Nat} (h : n = o.length) : List.drop 0 (List.take n (ints k o)) = ints k o := by
  subst h
  rw [List.drop_zero, ints_take, List.take_length]
theorem mget_mset {M : ML} {k k' : List Int} {c : List D} : mget (mset M k c) k' = if k' = k then some c else mget M k' := by
  induction M with
  | nil => simp [mset, mget]
  | cons e M ih =>
    obtain ⟨a, x⟩ := e
    simp only [mset]
    by_cases h : k = a
    · subst h
      simp only [if_pos rfl, mget]
      by_cases h2 : k' = k
      · simp [h2, mget]
      · simp [h2, mget]
    · rw [if_neg h]
      simp only [mget]
      by_cases h2 : k' = a
      · subst h2
        rw [if_pos rfl, if_pos rfl, if_neg (Ne.symm h)]
      · rw [if_neg h2, if_neg h2, ih]
theorem numA_put {M : ML} {x : List L3} {c n e : Int} (h : Tab M x) (h0 : putE x c n e = 0) (d : Int) : numA (putL x c n e) d = if d = c then some (n, e) else numA x d := by
  have h1 := tab_get (tab_put h h0) d
  have h2 := tab_get h d
  rw [mget_mset, h2] at h1
  by_cases hd : d = c
  · subst hd
    rw [if_pos rfl] at h1 ⊢
    cases hq : numA (putL x d n e) d with
    | none => rw [hq] at h1; cases h1
    | some q =>
      rw [hq] at h1
      simp only [Option.map_some, Option.some.injEq, List.cons.injEq, D.val.injEq, Value.int.injEq, true_and, and_true] at h1
      exact congrArg some (Prod.ext (by first | exact h1.1 | exact h1.1.symm) (by first | exact h1.2 | exact h1.2.symm))
  · rw [if_neg (by simpa using hd)] at h1
    rw [if_neg hd]
    cases hq : numA (putL x c n e) d <;> cases hq2 : numA x d
    · rfl
    · rw [hq, hq2] at h1; cases h1
    · rw [hq, hq2] at h1; cases h1
    · rename_i q q2
      rw [hq, hq2] at h1
      simp only [Option.map_some, Option.some.injEq, List.cons.injEq, D.val.injEq, Value.int.injEq, true_and, and_true] at h1
      exact congrArg some (Prod.ext h1.1.symm h1.2.symm)
theorem mset_len : ∀ {M : ML} {k : List Int} {v : List D}, (mset M k v).length = M.length + if mget M k = none then 1 else 0
  | [], k, v => by simp [mset, mget]
  | (a, c) :: M, k, v => by
    by_cases h : k = a
    · simp [mset, mget, h]
    · have ih := mset_len (M := M) (k := k) (v := v)
      simp only [mset, mget, if_neg h, List.length_cons, ih]
      omega
theorem putL_len {M : ML} {x : List L3} {c n e : Int} (h : Tab M x) (h0 : putE x c n e = 0) : (putL x c n e).length = x.length + if numA x c = none then 1 else 0 := by
  have h1 := (tab_keys (tab_put h h0)).2.2
  have h2 := (tab_keys h).2.2
  rw [mset_len, h2, tab_get h] at h1
  rw [← h1]
  cases numA x c <;> simp
theorem awS_ok : AllOk Try.prog awS := fun f k h => by
  unfold awS at h
  split at h <;> first | (cases h; first | exact okPut | exact okCheckT | exact okClients | exact okTBytes | exact okLoad | exact okSame | exact okRPut | exact okRCheck | exact okRBytes) | cases h
theorem XAw_ok : CallOk Try.prog XAw := callS_ok mixed awS_ok noT 10
theorem okAwake : SpecOk Try.prog 6 Sawake := specOk_of' XAw_ok mixed (fun args kb K h => by
  unfold Sawake at h; split at h <;> try exact h.elim
  have ht : Tab (mset [] [9] [dn .i64 5, dn .i64 5]) [(9, 5, 5)] := tab_put (x := []) tab_nil (by decide)
  refine ⟨noT 6, vcAwake K ⟨fun f => absurd rfl f.h, fun _ => ⟨_, ht, _, ht, _, ht, fun _ => ⟨fun _ => ⟨fun _ => ⟨fun _ => ?_, fun f => absurd f (by decide)⟩, fun f => absurd f (by decide)⟩, fun f => absurd f (by decide)⟩, fun f => (by cases f)⟩⟩⟩
  exact h)
theorem lawS_ok : AllOk Try.prog lawS := fun f k h => by
  unfold lawS at h
  split at h
  · cases h; exact okAwake
  · exact awS_ok _ _ h
theorem XL_ok (l : List Int) (a b : Int) : CallOk Try.prog (XL l a b) := callS_ok mixed lawS_ok _ 10
theorem lawLoads (b : List Int) (hb : Byt b) : XL [] 0 0 5 [.dat (.sl 1 (ints .u8 b))] [] KT := by
  refine vcLoads b ⟨fun _ => rfl, fun h1 => ?_⟩
  have hl : b.length ≤ 100 := by
    have := of_decide_eq_false h1
    rw [ints_len] at this; omega
  refine ⟨b, rfl, hb, by omega, fun hn => ⟨fun _ => ⟨fun f => (by cases f), fun _ => ⟨fun _ => rfl, fun f => (by cases f)⟩⟩, fun f => (by cases f)⟩, fun he => ⟨fun f => (by cases f), fun _ => ⟨⟨Nat.le_refl _, trivial, trivial⟩, [0], b, rfl, rfl, (by show 1 ≤ 1000000; omega), trivial, fun _ => ⟨fun _ => rfl, fun f => (by cases f)⟩, fun f => ?_⟩⟩, fun x M ht he => ⟨fun f => (by cases f), fun _ => ⟨x, ht, ⟨by rw [ints_len]; exact Nat.le_refl _, trivial, trivial⟩, tabW x, b, takeA rfl, rfl, ?_, trivial, fun _ => ⟨fun _ => rfl, fun f => (by cases f)⟩, fun f => ?_⟩⟩⟩
  · rw [he] at f; exact absurd f (by decide)
  · rw [← he]
    show b.length ≤ 1000000
    omega
  · rw [he] at f; simp at f
theorem lawOthers (l : List Int) (a b : Int) (hl : Byt l) (ha : 0 ≤ a ∧ a < 256) (hb : 0 ≤ b ∧ b < 256) : XL l a b 3 [.dat (.sl 1 (ints .u8 l)), .int .u8 a, .int .u8 b] [] KT := by
  refine vcOthers l a b ?_
  have wa : IntKind.i64.wrap a = a := w64 (by omega) (by omega)
  have wb : IntKind.i64.wrap b = b := w64 (by omega) (by omega)
  rw [wa, wb, ints_len]
  refine ⟨fun _ => rfl, fun h1 => ⟨fun _ => rfl, fun h2 => ?_⟩⟩
  have hlen : l.length ≤ 60 := by
    have := of_decide_eq_false h1
    omega
  have hab : a ≠ b := by simpa using h2
  have e0 : putE [] a 50 5 = 0 := by
    unfold putE
    rw [if_neg (by omega)]
    rfl
  refine ⟨fun f => absurd e0 f.h, fun _ => ⟨fun f => (by cases f), fun _ => ⟨?_, ?_⟩⟩⟩
  · refine At.mk' ⟨(0, 0, mset [] [a] [dn .i64 50, dn .i64 5], [(a, 50, 5)]), Nat.zero_le _, tab_put (x := []) tab_nil e0, ?_, fun _ => ⟨?_, rfl⟩, fun f => absurd f (Nat.lt_irrefl _), rfl, (by show (0 : Int) ≤ 0; omega), (by show (0 : Int) ≤ 256; omega)⟩ rfl
    · show (atI [(a, 50, 5)] a).map _ = _
      simp [atI, g3]
    · show (atI [(a, 50, 5)] b).map _ = _
      simp [atI, hab]
  rintro ⟨⟨i, most, M, x⟩, hI⟩
  obtain ⟨hle, ht, hna, hn0, hn1, hxl, hm0, hm1⟩ := hI
  dsimp only at hle ht hna hn0 hn1 hxl hm0 hm1 ⊢
  refine ⟨fun hc => ?_, fun hc => ?_⟩
  · have hi : i < l.length := by have : (i : Int) < (l.length : Int) := of_decide_eq_true hc; omega
    have hg := hl _ (gI_mem hi)
    refine el hi ?_
    have wv : IntKind.i64.wrap (1 + IntKind.i64.wrap (gI l i)) = 1 + gI l i := by rw [w64 (n := gI l i) (by omega) (by omega), w64 (by omega) (by omega)]
    rw [wv]
    generalize hv : 1 + gI l i = v
    have hv1 : 1 ≤ v ∧ v ≤ 256 := by omega
    have hE : putE x b v 0 = 0 ↔ v > most := by
      unfold putE
      rw [if_neg (by omega)]
      rcases Nat.eq_zero_or_pos i with h0 | h0
      · obtain ⟨q1, q2⟩ := hn0 h0
        rw [q1]
        simp only
        rw [if_neg (by omega)]
        constructor <;> intro _ <;> omega
      · obtain ⟨e, q1⟩ := hn1 h0
        rw [q1]
        simp only
        by_cases hvm : v ≤ most
        · rw [if_pos hvm]; constructor <;> intro _ <;> omega
        · rw [if_neg hvm]; constructor <;> intro _ <;> omega
    refine ⟨⟨x, ht, fun hne => ?_, fun heq => ?_⟩, ?_⟩
    · have hnv : ¬ v > most := fun f => hne.h (hE.2 f)
      have hip : 0 < i := by
        rcases Nat.eq_zero_or_pos i with h0 | h0
        · have := (hn0 h0).2; omega
        · exact h0
      obtain ⟨e, q1⟩ := hn1 hip
      exact At.mk' ⟨(v, putE x b v 0, M, x), hi, ht, hna, ⟨e, by rw [if_neg hnv]; exact q1⟩, (by show x.length = 2; omega), hm0, hm1, by simp only; omega, by simp only; omega, hE⟩ rfl
    · have hvm := hE.1 heq.h
      have hlp := putL_len ht heq.h
      refine At.mk' ⟨(v, 0, mset M [b] [dn .i64 v, dn .i64 0], putL x b v 0), hi, tab_put ht heq.h, ?_, ⟨0, ?_⟩, ?_, hm0, hm1, by simp only; omega, by simp only; omega, ⟨fun _ => hvm, fun _ => rfl⟩⟩ rfl
      · show numA (putL x b v 0) a = _
        rw [numA_put ht heq.h, if_neg hab]; exact hna
      · show numA (putL x b v 0) b = _
        rw [numA_put ht heq.h, if_pos rfl, if_pos hvm]
      · show (putL x b v 0).length = 2
        rw [hlp]
        rcases Nat.eq_zero_or_pos i with h0 | h0
        · rw [if_pos (hn0 h0).1]; omega
        · obtain ⟨e, q1⟩ := hn1 h0
          rw [q1, if_neg (by simp)]; omega
    rintro ⟨⟨v2, e2, M2, x2⟩, hC⟩
    obtain ⟨k0, k1, k2, ⟨e3, k3⟩, k4, k5, k6, k7, k8, k9⟩ := hC
    dsimp only at k0 k1 k2 k3 k4 k5 k6 k7 k8 k9 ⊢
    have c1 : chkK x2 a 50 = 1 := by unfold chkK; rw [k2]; decide
    have c2 : chkE x2 a 50 = 5 := by unfold chkE; rw [k2]; decide
    have c3 : chkK x2 a 49 = 2 := by unfold chkK; rw [k2]; decide
    have c4 : chkK x2 a 51 = 0 := by unfold chkK; rw [k2]; decide
    refine ⟨fun f => ?_, fun _ => ⟨x2, k1, x2, k1, x2, k1, fun f => ?_, fun _ => ⟨fun f => ?_, fun _ => ⟨fun f => ?_, fun _ => ⟨fun f => ?_, fun _ => ?_⟩⟩⟩⟩⟩
    · by_cases hev : e2 = 0
      · have := k9.1 hev
        simp [hev, this] at f
      · have : ¬ v2 > most := fun w => hev (k9.2 w)
        simp [hev, this] at f
    · rw [c1] at f; cases f
    · rw [c2] at f; cases f
    · rw [c3] at f; cases f
    · rw [c4] at f; cases f
    · have e1 : IntKind.i64.wrap ((i : Int) + 1) = ((i + 1 : Nat) : Int) := by rw [w64 (by omega) (by omega)]; rfl
      rw [e1]
      refine Nx.mk' (⟨(i + 1, (if v2 > most then v2 else most), M2, x2), by show i + 1 ≤ l.length; omega, k1, k2, fun f => absurd f (Nat.succ_ne_zero i), fun _ => ⟨e3, k3⟩, ?_, ?_, ?_⟩ : {p : Nat × Int × ML × List L3 // OthI l.length a b p.1 p.2.1 p.2.2.1 p.2.2.2}) rfl (by show l.length - (i + 1) < l.length - i; omega)
      · show x2.length = 1 + min (i + 1) 1; omega
      · show 0 ≤ if v2 > most then v2 else most
        split <;> omega
      · show (if v2 > most then v2 else most) ≤ 256
        split <;> omega
  · have hi : i = l.length := by
      have : ¬ (i : Int) < (l.length : Int) := of_decide_eq_false hc
      omega
    refine ⟨x, ht, fun _ => rfl, fun f => ?_⟩
    have e1 : IntKind.i64.wrap (1 + if 1 < (l.length : Int) then 1 else (l.length : Int)) = ((1 + min l.length 1 : Nat) : Int) := by
      split
      · rw [w64 (by omega) (by omega)]; omega
      · rw [w64 (by omega) (by omega)]; omega
    rw [e1, Nat.sub_zero, hxl, hi] at f
    simp at f
theorem byt_wf {l : List Int} (h : ∀ n ∈ l, (Lit.int .u8 n).wf = true) : Byt l := fun c hc => by have := bounds_u8 (h c hc); omega
end Go.Proofs.Ytljkijkonhcgfaa
