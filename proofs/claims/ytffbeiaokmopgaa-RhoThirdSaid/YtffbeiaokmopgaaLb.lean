import Derived.Test.YtffbeiaokmopgaaTk
import Derived.KernelRfl
namespace Go.Proofs.Ytffbeiaokmopgaa
open Vc Go
set_option linter.unusedVariables false
set_option linter.unusedSimpArgs false
set_option maxRecDepth 100000
def snInv (hs : Nat → List Ev) (n : Nat) (i : Nat) : Prop := i ≤ n ∧ TkN (hs i)
def ssInv (hs : Nat → List Ev) (n : Nat) (x : (Nat × Int × Int) × PL × PL) : Prop := x.1.1 ≤ n ∧ Tk (hs x.1.1) x.1.2.1 x.1.2.2 x.2.1 x.2.2
abbrev sumLI (l : List Ev) (s : Int) (hs : Nat → List Ev) : LI where
  α := {i : Nat // snInv hs l.length i} ⊕ {x : (Nat × Int × Int) × PL × PL // ssInv hs l.length x}
  live := [0, 5, 6, 7, 8]
  st := fun
    | .inl i => ([.dat (.sl 2 (l.map evR)), .int .i64 s, .ptr 0 0, .int .i64 0, .int .i64 (i.1 : Int)], [.cells [.int .i64 0, .int .i64 0, .any (.map none), .any (.map none)]])
    | .inr x => ([.dat (.sl 2 (l.map evR)), .int .i64 s, .ptr 0 0, .int .i64 (tot (hs x.1.1.1) false - rB (hs x.1.1.1) s false), .int .i64 (x.1.1.1 : Int)], [.cells [.int .i64 x.1.1.2.1, .int .i64 x.1.1.2.2, .mp 1, .mp 2], .mp [.i64] false true 2 (prs x.1.2.1), .mp [.i64] false true 2 (prs x.1.2.2)])
  μ := fun
    | .inl i => l.length - i.1
    | .inr x => l.length - x.1.1.1
  all := fun Q => (∀ a, Q (.inl a)) ∧ ∀ b, Q (.inr b)
  all_ok := fun Q h i => match i with | .inl a => h.1 a | .inr b => h.2 b
abbrev aloneLI (l : List Int) (s : Int) (hs : Nat → List Ev) : LI where
  α := {i : Nat // snInv hs l.length i} ⊕ {x : (Nat × Int × Int) × PL × PL // ssInv hs l.length x}
  live := [0, 1, 5, 6, 7]
  st := fun
    | .inl i => ([.dat (.sl 1 (ints .u8 l)), .int .i64 s, .ptr 0 0, .int .i64 0, .int .i64 (i.1 : Int)], [.cells [.int .i64 0, .int .i64 0, .any (.map none), .any (.map none)]])
    | .inr x => ([.dat (.sl 1 (ints .u8 l)), .int .i64 s, .ptr 0 0, .int .i64 (tot (hs x.1.1.1) false), .int .i64 (x.1.1.1 : Int)], [.cells [.int .i64 x.1.1.2.1, .int .i64 x.1.1.2.2, .mp 1, .mp 2], .mp [.i64] false true 2 (prs x.1.2.1), .mp [.i64] false true 2 (prs x.1.2.2)])
  μ := fun
    | .inl i => l.length - i.1
    | .inr x => l.length - x.1.1.1
  all := fun Q => (∀ a, Q (.inl a)) ∧ ∀ b, Q (.inr b)
  all_ok := fun Q h i => match i with | .inl a => h.1 a | .inr b => h.2 b
/-- The events of the second tracker; those of the first one. -/
structure ThS where
  i : Nat
  ha : List Ev
  da : Int
  ra : Int
  oa : PL
  ta : PL
  db : Int
  rb : Int
  ob : PL
  tb : PL
def thInv (l : List Int) (hs : Nat → List Ev) (x : ThS) : Prop := 1 ≤ x.i ∧ x.i ≤ l.length ∧ x.ha.length ≤ 2 * x.i ∧ (∀ b, rB x.ha 0 b = rB (hs x.i) 0 b) ∧ Tk x.ha x.da x.ra x.oa x.ta ∧ Tk (hs x.i) x.db x.rb x.ob x.tb
abbrev thirdLI (l : List Int) (hs : Nat → List Ev) : LI where
  α := Unit ⊕ {x : ThS // thInv l hs x}
  live := [0, 3, 4, 5]
  st := fun
    | .inl _ => ([.dat (.sl 1 (ints .u8 l)), .ptr 0 0, .ptr 1 0, .int .i64 0], [.cells [.int .i64 0, .int .i64 0, .any (.map none), .any (.map none)], .cells [.int .i64 0, .int .i64 0, .any (.map none), .any (.map none)]])
    | .inr x => ([.dat (.sl 1 (ints .u8 l)), .ptr 0 0, .ptr 1 0, .int .i64 (x.1.i : Int)], [.cells [.int .i64 x.1.da, .int .i64 x.1.ra, .mp 2, .mp 3], .cells [.int .i64 x.1.db, .int .i64 x.1.rb, .mp 4, .mp 5],
        .mp [.i64] false true 2 (prs x.1.oa), .mp [.i64] false true 2 (prs x.1.ta), .mp [.i64] false true 2 (prs x.1.ob), .mp [.i64] false true 2 (prs x.1.tb)])
  μ := fun
    | .inl _ => l.length
    | .inr x => l.length - x.1.i
  all := fun Q => (∀ a, Q (.inl a)) ∧ ∀ b, Q (.inr b)
  all_ok := fun Q h i => match i with | .inl a => h.1 a | .inr b => h.2 b
def bT4 (l : List Ev) (s : Int) (hs : Nat → List Ev) : FuncId → Nat → Option LI
  | 4, 7 => some (sumLI l s hs)
  | _, _ => none
def bT5 (l : List Int) (s : Int) (hs : Nat → List Ev) : FuncId → Nat → Option LI
  | 5, 6 => some (aloneLI l s hs)
  | _, _ => none
def bT6 (l : List Int) (hs : Nat → List Ev) : FuncId → Nat → Option LI
  | 6, 5 => some (thirdLI l hs)
  | _, _ => none
noncomputable def X4 (l : List Ev) (s : Int) (hs : Nat → List Ev) : CallT := callS Try.prog lawS (bT4 l s hs) 10
noncomputable def X5 (l : List Int) (s : Int) (hs : Nat → List Ev) : CallT := callS Try.prog lawS (bT5 l s hs) 10
noncomputable def X6 (l : List Int) (hs : Nat → List Ev) : CallT := callS Try.prog lawS (bT6 l hs) 10
theorem vc4 (l : List Ev) (v s : Int) (hs : Nat → List Ev)  (h :
 (decide ((↑(List.map evR l).length : Int) > 100) = true → true = true) ∧
 (decide ((↑(List.map evR l).length : Int) > 100) = false →
 At (sumLI l s hs) ([V.dat (D.sl 2 (List.map evR l)), V.int IntKind.i64 ((IntKind.i64.wrap v).tmod 4), V.ptr 0 0, V.int IntKind.i64 0, V.int IntKind.i64 0], [KO.cells [V.int IntKind.i64 0, V.int IntKind.i64 0, V.any (Value.map none), V.any (Value.map none)]]) ∧
 (∀ (a : { i // snInv hs l.length i }),
 (decide ((↑a.val : Int) < (↑(List.map evR l).length : Int)) = true →
 NonN (↑a.val : Int) ∧
 ∃ e,
 (List.map evR l)[(↑a.val : Int).toNat]? = some e ∧
 ∃ n,
 e[1]? = some (D.val (Value.int IntKind.i64 n)) ∧
 NonN (↑a.val : Int) ∧
 ∃ e,
 (List.map evR l)[(↑a.val : Int).toNat]? = some e ∧
 ∃ n_1,
 e[0]? = some (D.val (Value.int IntKind.i64 n_1)) ∧
 NonN (↑a.val : Int) ∧
 ∃ e,
 (List.map evR l)[(↑a.val : Int).toNat]? = some e ∧
 ∃ n_2,
 e[1]? = some (D.val (Value.int IntKind.i64 n_2)) ∧
 ((n_2 == 0) = true →
 (false = true → False) ∧
 (false = false → (false = true → False) ∧ (false = false → Nx (sumLI l s hs) (Sum.inl a) ([V.dat (D.sl 2 (List.map evR l)), V.int IntKind.i64 s, V.ptr 0 0, V.int IntKind.i64 0, V.int IntKind.i64 (IntKind.i64.wrap ((↑a.val : Int) + 1))], [KO.cells [V.int IntKind.i64 0, V.int IntKind.i64 0, V.any (Value.map none), V.any (Value.map none)]])))) ∧
 ((n_2 == 0) = false →
 ((IntKind.i64.wrap ((IntKind.u64.wrap n_1).tmod 4) == s) = true →
 (decide (1 > upD 0 (IntKind.i64.wrap (1 + IntKind.i64.wrap ((IntKind.u64.wrap n).tmod 2)))) = true → False) ∧
 (decide (1 > upD 0 (IntKind.i64.wrap (1 + IntKind.i64.wrap ((IntKind.u64.wrap n).tmod 2)))) = false →
 (decide (upR 0 (IntKind.i64.wrap (1 + IntKind.i64.wrap ((IntKind.u64.wrap n).tmod 2))) > upD 0 (IntKind.i64.wrap (1 + IntKind.i64.wrap ((IntKind.u64.wrap n).tmod 2)))) = true → False) ∧
 (decide (upR 0 (IntKind.i64.wrap (1 + IntKind.i64.wrap ((IntKind.u64.wrap n).tmod 2))) > upD 0 (IntKind.i64.wrap (1 + IntKind.i64.wrap ((IntKind.u64.wrap n).tmod 2)))) = false →
 Nx (sumLI l s hs) (Sum.inl a)
 ([V.dat (D.sl 2 (List.map evR l)), V.int IntKind.i64 s, V.ptr 0 0, V.int IntKind.i64 1, V.int IntKind.i64 (IntKind.i64.wrap ((↑a.val : Int) + 1))],
 [KO.cells [V.int IntKind.i64 (upD 0 (IntKind.i64.wrap (1 + IntKind.i64.wrap ((IntKind.u64.wrap n).tmod 2)))), V.int IntKind.i64 (upR 0 (IntKind.i64.wrap (1 + IntKind.i64.wrap ((IntKind.u64.wrap n).tmod 2)))), V.mp 1, V.mp 2],
 KO.mp [IntKind.i64] false true 2 [(fun p => ([p.fst], [dn IntKind.i64 p.snd.fst, dn IntKind.i64 p.snd.snd])) (IntKind.i64.wrap ((IntKind.u64.wrap n_1).tmod 4), upD 0 (IntKind.i64.wrap (1 + IntKind.i64.wrap ((IntKind.u64.wrap n).tmod 2))), upR 0 (IntKind.i64.wrap (1 + IntKind.i64.wrap ((IntKind.u64.wrap n).tmod 2))))],
 KO.mp [IntKind.i64] false true 2 (prs [])])))) ∧
 ((IntKind.i64.wrap ((IntKind.u64.wrap n_1).tmod 4) == s) = false →
 (decide (0 > upD 0 (IntKind.i64.wrap (1 + IntKind.i64.wrap ((IntKind.u64.wrap n).tmod 2)))) = true → False) ∧
 (decide (0 > upD 0 (IntKind.i64.wrap (1 + IntKind.i64.wrap ((IntKind.u64.wrap n).tmod 2)))) = false →
 (decide (upR 0 (IntKind.i64.wrap (1 + IntKind.i64.wrap ((IntKind.u64.wrap n).tmod 2))) > upD 0 (IntKind.i64.wrap (1 + IntKind.i64.wrap ((IntKind.u64.wrap n).tmod 2)))) = true → False) ∧
 (decide (upR 0 (IntKind.i64.wrap (1 + IntKind.i64.wrap ((IntKind.u64.wrap n).tmod 2))) > upD 0 (IntKind.i64.wrap (1 + IntKind.i64.wrap ((IntKind.u64.wrap n).tmod 2)))) = false →
 Nx (sumLI l s hs) (Sum.inl a)
 ([V.dat (D.sl 2 (List.map evR l)), V.int IntKind.i64 s, V.ptr 0 0, V.int IntKind.i64 0, V.int IntKind.i64 (IntKind.i64.wrap ((↑a.val : Int) + 1))],
 [KO.cells [V.int IntKind.i64 (upD 0 (IntKind.i64.wrap (1 + IntKind.i64.wrap ((IntKind.u64.wrap n).tmod 2)))), V.int IntKind.i64 (upR 0 (IntKind.i64.wrap (1 + IntKind.i64.wrap ((IntKind.u64.wrap n).tmod 2)))), V.mp 1, V.mp 2],
 KO.mp [IntKind.i64] false true 2 [(fun p => ([p.fst], [dn IntKind.i64 p.snd.fst, dn IntKind.i64 p.snd.snd])) (IntKind.i64.wrap ((IntKind.u64.wrap n_1).tmod 4), upD 0 (IntKind.i64.wrap (1 + IntKind.i64.wrap ((IntKind.u64.wrap n).tmod 2))), upR 0 (IntKind.i64.wrap (1 + IntKind.i64.wrap ((IntKind.u64.wrap n).tmod 2))))],
 KO.mp [IntKind.i64] false true 2 (prs [])])))))) ∧
 (decide ((↑a.val : Int) < (↑(List.map evR l).length : Int)) = false → true = true)) ∧
 ∀ (b : { x // ssInv hs l.length x }),
 (decide ((↑b.val.fst.fst : Int) < (↑(List.map evR l).length : Int)) = true →
 NonN (↑b.val.fst.fst : Int) ∧
 ∃ e,
 (List.map evR l)[(↑b.val.fst.fst : Int).toNat]? = some e ∧
 ∃ n,
 e[1]? = some (D.val (Value.int IntKind.i64 n)) ∧
 NonN (↑b.val.fst.fst : Int) ∧
 ∃ e,
 (List.map evR l)[(↑b.val.fst.fst : Int).toNat]? = some e ∧
 ∃ n_1,
 e[0]? = some (D.val (Value.int IntKind.i64 n_1)) ∧
 NonN (↑b.val.fst.fst : Int) ∧
 ∃ e,
 (List.map evR l)[(↑b.val.fst.fst : Int).toNat]? = some e ∧
 ∃ n_2,
 e[1]? = some (D.val (Value.int IntKind.i64 n_2)) ∧
 ((n_2 == 0) = true →
 ∃ lo lt,
 prs b.val.snd.fst = prs lo ∧
 prs b.val.snd.snd = prs lt ∧
 (decide (IntKind.i64.wrap (IntKind.i64.wrap (b.val.fst.snd.snd - pR lo s) - pR lt s) > IntKind.i64.wrap (IntKind.i64.wrap (b.val.fst.snd.fst - pD lo s) - pD lt s)) = true → False) ∧
 (decide (IntKind.i64.wrap (IntKind.i64.wrap (b.val.fst.snd.snd - pR lo s) - pR lt s) > IntKind.i64.wrap (IntKind.i64.wrap (b.val.fst.snd.fst - pD lo s) - pD lt s)) = false →
 ((IntKind.i64.wrap (tot (hs b.val.fst.fst) false - rB (hs b.val.fst.fst) s false + IntKind.i64.wrap (IntKind.i64.wrap (b.val.fst.snd.fst - pD lo s) - pD lt s)) != b.val.fst.snd.fst) = true → False) ∧
 ((IntKind.i64.wrap (tot (hs b.val.fst.fst) false - rB (hs b.val.fst.fst) s false + IntKind.i64.wrap (IntKind.i64.wrap (b.val.fst.snd.fst - pD lo s) - pD lt s)) != b.val.fst.snd.fst) = false →
 Nx (sumLI l s hs) (Sum.inr b)
 ([V.dat (D.sl 2 (List.map evR l)), V.int IntKind.i64 s, V.ptr 0 0, V.int IntKind.i64 (IntKind.i64.wrap (tot (hs b.val.fst.fst) false - rB (hs b.val.fst.fst) s false + IntKind.i64.wrap (IntKind.i64.wrap (b.val.fst.snd.fst - pD lo s) - pD lt s))), V.int IntKind.i64 (IntKind.i64.wrap ((↑b.val.fst.fst : Int) + 1))],
 [KO.cells [V.int IntKind.i64 b.val.fst.snd.fst, V.int IntKind.i64 b.val.fst.snd.snd, V.mp 1, V.mp 2], KO.mp [IntKind.i64] false true 2 (prs lo), KO.mp [IntKind.i64] false true 2 (prs (pset lt s (IntKind.i64.wrap (b.val.fst.snd.fst - pD lo s)) (IntKind.i64.wrap (b.val.fst.snd.snd - pR lo s))))])))) ∧
 ((n_2 == 0) = false →
 ∃ l_1,
 prs b.val.snd.fst = prs l_1 ∧
 ((IntKind.i64.wrap ((IntKind.u64.wrap n_1).tmod 4) == s) = true →
 (decide (IntKind.i64.wrap (tot (hs b.val.fst.fst) false - rB (hs b.val.fst.fst) s false + 1) > upD b.val.fst.snd.fst (IntKind.i64.wrap (1 + IntKind.i64.wrap ((IntKind.u64.wrap n).tmod 2)))) = true → False) ∧
 (decide (IntKind.i64.wrap (tot (hs b.val.fst.fst) false - rB (hs b.val.fst.fst) s false + 1) > upD b.val.fst.snd.fst (IntKind.i64.wrap (1 + IntKind.i64.wrap ((IntKind.u64.wrap n).tmod 2)))) = false →
 (decide (upR b.val.fst.snd.snd (IntKind.i64.wrap (1 + IntKind.i64.wrap ((IntKind.u64.wrap n).tmod 2))) > upD b.val.fst.snd.fst (IntKind.i64.wrap (1 + IntKind.i64.wrap ((IntKind.u64.wrap n).tmod 2)))) = true → False) ∧
 (decide (upR b.val.fst.snd.snd (IntKind.i64.wrap (1 + IntKind.i64.wrap ((IntKind.u64.wrap n).tmod 2))) > upD b.val.fst.snd.fst (IntKind.i64.wrap (1 + IntKind.i64.wrap ((IntKind.u64.wrap n).tmod 2)))) = false →
 Nx (sumLI l s hs) (Sum.inr b)
 ([V.dat (D.sl 2 (List.map evR l)), V.int IntKind.i64 s, V.ptr 0 0, V.int IntKind.i64 (IntKind.i64.wrap (tot (hs b.val.fst.fst) false - rB (hs b.val.fst.fst) s false + 1)), V.int IntKind.i64 (IntKind.i64.wrap ((↑b.val.fst.fst : Int) + 1))],
 [KO.cells [V.int IntKind.i64 (upD b.val.fst.snd.fst (IntKind.i64.wrap (1 + IntKind.i64.wrap ((IntKind.u64.wrap n).tmod 2)))), V.int IntKind.i64 (upR b.val.fst.snd.snd (IntKind.i64.wrap (1 + IntKind.i64.wrap ((IntKind.u64.wrap n).tmod 2)))), V.mp 1, V.mp 2],
 KO.mp [IntKind.i64] false true 2
 (prs
 (pset l_1 (IntKind.i64.wrap ((IntKind.u64.wrap n_1).tmod 4)) (upD (pD l_1 (IntKind.i64.wrap ((IntKind.u64.wrap n_1).tmod 4))) (IntKind.i64.wrap (1 + IntKind.i64.wrap ((IntKind.u64.wrap n).tmod 2))))
 (upR (pR l_1 (IntKind.i64.wrap ((IntKind.u64.wrap n_1).tmod 4))) (IntKind.i64.wrap (1 + IntKind.i64.wrap ((IntKind.u64.wrap n).tmod 2)))))),
 KO.mp [IntKind.i64] false true 2 (prs b.val.snd.snd)])))) ∧
 ((IntKind.i64.wrap ((IntKind.u64.wrap n_1).tmod 4) == s) = false →
 (decide (tot (hs b.val.fst.fst) false - rB (hs b.val.fst.fst) s false > upD b.val.fst.snd.fst (IntKind.i64.wrap (1 + IntKind.i64.wrap ((IntKind.u64.wrap n).tmod 2)))) = true → False) ∧
 (decide (tot (hs b.val.fst.fst) false - rB (hs b.val.fst.fst) s false > upD b.val.fst.snd.fst (IntKind.i64.wrap (1 + IntKind.i64.wrap ((IntKind.u64.wrap n).tmod 2)))) = false →
 (decide (upR b.val.fst.snd.snd (IntKind.i64.wrap (1 + IntKind.i64.wrap ((IntKind.u64.wrap n).tmod 2))) > upD b.val.fst.snd.fst (IntKind.i64.wrap (1 + IntKind.i64.wrap ((IntKind.u64.wrap n).tmod 2)))) = true → False) ∧
 (decide (upR b.val.fst.snd.snd (IntKind.i64.wrap (1 + IntKind.i64.wrap ((IntKind.u64.wrap n).tmod 2))) > upD b.val.fst.snd.fst (IntKind.i64.wrap (1 + IntKind.i64.wrap ((IntKind.u64.wrap n).tmod 2)))) = false →
 Nx (sumLI l s hs) (Sum.inr b)
 ([V.dat (D.sl 2 (List.map evR l)), V.int IntKind.i64 s, V.ptr 0 0, V.int IntKind.i64 (tot (hs b.val.fst.fst) false - rB (hs b.val.fst.fst) s false), V.int IntKind.i64 (IntKind.i64.wrap ((↑b.val.fst.fst : Int) + 1))],
 [KO.cells [V.int IntKind.i64 (upD b.val.fst.snd.fst (IntKind.i64.wrap (1 + IntKind.i64.wrap ((IntKind.u64.wrap n).tmod 2)))), V.int IntKind.i64 (upR b.val.fst.snd.snd (IntKind.i64.wrap (1 + IntKind.i64.wrap ((IntKind.u64.wrap n).tmod 2)))), V.mp 1, V.mp 2],
 KO.mp [IntKind.i64] false true 2
 (prs
 (pset l_1 (IntKind.i64.wrap ((IntKind.u64.wrap n_1).tmod 4)) (upD (pD l_1 (IntKind.i64.wrap ((IntKind.u64.wrap n_1).tmod 4))) (IntKind.i64.wrap (1 + IntKind.i64.wrap ((IntKind.u64.wrap n).tmod 2))))
 (upR (pR l_1 (IntKind.i64.wrap ((IntKind.u64.wrap n_1).tmod 4))) (IntKind.i64.wrap (1 + IntKind.i64.wrap ((IntKind.u64.wrap n).tmod 2)))))),
 KO.mp [IntKind.i64] false true 2 (prs b.val.snd.snd)])))))) ∧
 (decide ((↑b.val.fst.fst : Int) < (↑(List.map evR l).length : Int)) = false → true = true))
 ) : X4 l s hs 4 [.dat (.sl 2 (l.map evR)), .int .u8 v] [] KT := Eq.mp (by kernel_rfl) h
theorem vc5 (l : List Int) (s : Int) (hs : Nat → List Ev)  (h :
 (decide ((↑(ints IntKind.u8 l).length : Int) > 100) = true → true = true) ∧
 (decide ((↑(ints IntKind.u8 l).length : Int) > 100) = false →
 At (aloneLI l s hs) ([V.dat (D.sl 1 (ints IntKind.u8 l)), V.int IntKind.i64 s, V.ptr 0 0, V.int IntKind.i64 0, V.int IntKind.i64 0], [KO.cells [V.int IntKind.i64 0, V.int IntKind.i64 0, V.any (Value.map none), V.any (Value.map none)]]) ∧
 (∀ (a : { i // snInv hs l.length i }),
 (decide ((↑a.val : Int) < (↑(ints IntKind.u8 l).length : Int)) = true →
 NonN (↑a.val : Int) ∧
 ∃ e,
 (ints IntKind.u8 l)[(↑a.val : Int).toNat]? = some e ∧
 ∃ n,
 e[0]? = some (D.val (Value.int IntKind.u8 n)) ∧
 ((n.tmod 3 == 0) = true →
 (false = true → False) ∧
 (false = false → (false = true → False) ∧ (false = false → Nx (aloneLI l s hs) (Sum.inl a) ([V.dat (D.sl 1 (ints IntKind.u8 l)), V.int IntKind.i64 s, V.ptr 0 0, V.int IntKind.i64 0, V.int IntKind.i64 (IntKind.i64.wrap ((↑a.val : Int) + 1))], [KO.cells [V.int IntKind.i64 0, V.int IntKind.i64 0, V.any (Value.map none), V.any (Value.map none)]])))) ∧
 ((n.tmod 3 == 0) = false →
 NonN (↑a.val : Int) ∧
 ∃ e,
 (ints IntKind.u8 l)[(↑a.val : Int).toNat]? = some e ∧
 ∃ n,
 e[0]? = some (D.val (Value.int IntKind.u8 n)) ∧
 Nx (aloneLI l s hs) (Sum.inl a)
 ([V.dat (D.sl 1 (ints IntKind.u8 l)), V.int IntKind.i64 s, V.ptr 0 0, V.int IntKind.i64 1, V.int IntKind.i64 (IntKind.i64.wrap ((↑a.val : Int) + 1))],
 [KO.cells [V.int IntKind.i64 (upD 0 (IntKind.i64.wrap (n.tmod 3))), V.int IntKind.i64 (upR 0 (IntKind.i64.wrap (n.tmod 3))), V.mp 1, V.mp 2], KO.mp [IntKind.i64] false true 2 [(fun p => ([p.fst], [dn IntKind.i64 p.snd.fst, dn IntKind.i64 p.snd.snd])) (s, upD 0 (IntKind.i64.wrap (n.tmod 3)), upR 0 (IntKind.i64.wrap (n.tmod 3)))],
 KO.mp [IntKind.i64] false true 2 (prs [])]))) ∧
 (decide ((↑a.val : Int) < (↑(ints IntKind.u8 l).length : Int)) = false → (true = true → true = true) ∧ (true = false → False))) ∧
 ∀ (b : { x // ssInv hs l.length x }),
 (decide ((↑b.val.fst.fst : Int) < (↑(ints IntKind.u8 l).length : Int)) = true →
 NonN (↑b.val.fst.fst : Int) ∧
 ∃ e,
 (ints IntKind.u8 l)[(↑b.val.fst.fst : Int).toNat]? = some e ∧
 ∃ n,
 e[0]? = some (D.val (Value.int IntKind.u8 n)) ∧
 ((n.tmod 3 == 0) = true →
 ∃ lo lt,
 prs b.val.snd.fst = prs lo ∧
 prs b.val.snd.snd = prs lt ∧
 ((IntKind.i64.wrap (IntKind.i64.wrap (b.val.fst.snd.fst - pD lo s) - pD lt s) != 0) = true → False) ∧
 ((IntKind.i64.wrap (IntKind.i64.wrap (b.val.fst.snd.fst - pD lo s) - pD lt s) != 0) = false →
 ((IntKind.i64.wrap (IntKind.i64.wrap (b.val.fst.snd.snd - pR lo s) - pR lt s) != 0) = true → False) ∧
 ((IntKind.i64.wrap (IntKind.i64.wrap (b.val.fst.snd.snd - pR lo s) - pR lt s) != 0) = false →
 Nx (aloneLI l s hs) (Sum.inr b)
 ([V.dat (D.sl 1 (ints IntKind.u8 l)), V.int IntKind.i64 s, V.ptr 0 0, V.int IntKind.i64 (tot (hs b.val.fst.fst) false), V.int IntKind.i64 (IntKind.i64.wrap ((↑b.val.fst.fst : Int) + 1))],
 [KO.cells [V.int IntKind.i64 b.val.fst.snd.fst, V.int IntKind.i64 b.val.fst.snd.snd, V.mp 1, V.mp 2], KO.mp [IntKind.i64] false true 2 (prs lo), KO.mp [IntKind.i64] false true 2 (prs (pset lt s (IntKind.i64.wrap (b.val.fst.snd.fst - pD lo s)) (IntKind.i64.wrap (b.val.fst.snd.snd - pR lo s))))])))) ∧
 ((n.tmod 3 == 0) = false →
 NonN (↑b.val.fst.fst : Int) ∧
 ∃ e,
 (ints IntKind.u8 l)[(↑b.val.fst.fst : Int).toNat]? = some e ∧
 ∃ n,
 e[0]? = some (D.val (Value.int IntKind.u8 n)) ∧
 ∃ l_1,
 prs b.val.snd.fst = prs l_1 ∧
 Nx (aloneLI l s hs) (Sum.inr b)
 ([V.dat (D.sl 1 (ints IntKind.u8 l)), V.int IntKind.i64 s, V.ptr 0 0, V.int IntKind.i64 (IntKind.i64.wrap (tot (hs b.val.fst.fst) false + 1)), V.int IntKind.i64 (IntKind.i64.wrap ((↑b.val.fst.fst : Int) + 1))],
 [KO.cells [V.int IntKind.i64 (upD b.val.fst.snd.fst (IntKind.i64.wrap (n.tmod 3))), V.int IntKind.i64 (upR b.val.fst.snd.snd (IntKind.i64.wrap (n.tmod 3))), V.mp 1, V.mp 2], KO.mp [IntKind.i64] false true 2 (prs (pset l_1 s (upD (pD l_1 s) (IntKind.i64.wrap (n.tmod 3))) (upR (pR l_1 s) (IntKind.i64.wrap (n.tmod 3))))),
 KO.mp [IntKind.i64] false true 2 (prs b.val.snd.snd)]))) ∧
 (decide ((↑b.val.fst.fst : Int) < (↑(ints IntKind.u8 l).length : Int)) = false → ((b.val.fst.snd.fst == tot (hs b.val.fst.fst) false) = true → true = true) ∧ ((b.val.fst.snd.fst == tot (hs b.val.fst.fst) false) = false → False)))
 ) : X5 l s hs 5 [.dat (.sl 1 (ints .u8 l)), .int .i64 s] [] KT := Eq.mp (by kernel_rfl) h
theorem vc6 (l : List Int) (hs : Nat → List Ev)  (h :
 (decide ((↑(ints IntKind.u8 l).length : Int) > 60) = true → true = true) ∧
 (decide ((↑(ints IntKind.u8 l).length : Int) > 60) = false →
 At (thirdLI l hs) ([V.dat (D.sl 1 (ints IntKind.u8 l)), V.ptr 0 0, V.ptr 1 0, V.int IntKind.i64 0], [KO.cells [V.int IntKind.i64 0, V.int IntKind.i64 0, V.any (Value.map none), V.any (Value.map none)], KO.cells [V.int IntKind.i64 0, V.int IntKind.i64 0, V.any (Value.map none), V.any (Value.map none)]]) ∧
 (∀ (a : Unit),
 (decide (0 < (↑(ints IntKind.u8 l).length : Int)) = true →
 NonN 0 ∧
 ∃ e,
 (ints IntKind.u8 l)[0]? = some e ∧
 ∃ n,
 e[0]? = some (D.val (Value.int IntKind.u8 n)) ∧
 NonN 0 ∧
 ∃ e,
 (ints IntKind.u8 l)[0]? = some e ∧
 ∃ n_1,
 e[0]? = some (D.val (Value.int IntKind.u8 n_1)) ∧
 NonN 0 ∧
 ∃ e,
 (ints IntKind.u8 l)[0]? = some e ∧
 ∃ n_2,
 e[0]? = some (D.val (Value.int IntKind.u8 n_2)) ∧
 NonN 0 ∧
 ∃ e,
 (ints IntKind.u8 l)[0]? = some e ∧
 ∃ n_3,
 e[0]? = some (D.val (Value.int IntKind.u8 n_3)) ∧
 (decide (n_3 > 128) = true →
 ∃ lo lt,
 [(fun p => ([p.fst], [dn IntKind.i64 p.snd.fst, dn IntKind.i64 p.snd.snd])) ((IntKind.i64.wrap n).tmod 2, upD 0 (IntKind.i64.wrap (1 + (IntKind.i64.wrap ((IntKind.i64.wrap n_1).tdiv 2)).tmod 2)), upR 0 (IntKind.i64.wrap (1 + (IntKind.i64.wrap ((IntKind.i64.wrap n_1).tdiv 2)).tmod 2)))] = prs lo ∧
 prs [] = prs lt ∧
 Nx (thirdLI l hs) (Sum.inl a)
 ([V.dat (D.sl 1 (ints IntKind.u8 l)), V.ptr 0 0, V.ptr 1 0, V.int IntKind.i64 1],
 [KO.cells [V.int IntKind.i64 (upD 0 (IntKind.i64.wrap (1 + (IntKind.i64.wrap ((IntKind.i64.wrap n_1).tdiv 2)).tmod 2))), V.int IntKind.i64 (upR 0 (IntKind.i64.wrap (1 + (IntKind.i64.wrap ((IntKind.i64.wrap n_1).tdiv 2)).tmod 2))), V.mp 2, V.mp 3],
 KO.cells [V.int IntKind.i64 (upD 0 (IntKind.i64.wrap (1 + (IntKind.i64.wrap ((IntKind.i64.wrap n_2).tdiv 2)).tmod 2))), V.int IntKind.i64 (upR 0 (IntKind.i64.wrap (1 + (IntKind.i64.wrap ((IntKind.i64.wrap n_2).tdiv 2)).tmod 2))), V.mp 4, V.mp 5], KO.mp [IntKind.i64] false true 2 (prs lo),
 KO.mp [IntKind.i64] false true 2 (prs (pset lt 5 (IntKind.i64.wrap (upD 0 (IntKind.i64.wrap (1 + (IntKind.i64.wrap ((IntKind.i64.wrap n_1).tdiv 2)).tmod 2)) - pD lo 5)) (IntKind.i64.wrap (upR 0 (IntKind.i64.wrap (1 + (IntKind.i64.wrap ((IntKind.i64.wrap n_1).tdiv 2)).tmod 2)) - pR lo 5)))),
 KO.mp [IntKind.i64] false true 2 [(fun p => ([p.fst], [dn IntKind.i64 p.snd.fst, dn IntKind.i64 p.snd.snd])) ((IntKind.i64.wrap n).tmod 2, upD 0 (IntKind.i64.wrap (1 + (IntKind.i64.wrap ((IntKind.i64.wrap n_2).tdiv 2)).tmod 2)), upR 0 (IntKind.i64.wrap (1 + (IntKind.i64.wrap ((IntKind.i64.wrap n_2).tdiv 2)).tmod 2)))],
 KO.mp [IntKind.i64] false true 2 (prs [])])) ∧
 (decide (n_3 > 128) = false →
 Nx (thirdLI l hs) (Sum.inl a)
 ([V.dat (D.sl 1 (ints IntKind.u8 l)), V.ptr 0 0, V.ptr 1 0, V.int IntKind.i64 1],
 [KO.cells [V.int IntKind.i64 (upD 0 (IntKind.i64.wrap (1 + (IntKind.i64.wrap ((IntKind.i64.wrap n_1).tdiv 2)).tmod 2))), V.int IntKind.i64 (upR 0 (IntKind.i64.wrap (1 + (IntKind.i64.wrap ((IntKind.i64.wrap n_1).tdiv 2)).tmod 2))), V.mp 2, V.mp 3],
 KO.cells [V.int IntKind.i64 (upD 0 (IntKind.i64.wrap (1 + (IntKind.i64.wrap ((IntKind.i64.wrap n_2).tdiv 2)).tmod 2))), V.int IntKind.i64 (upR 0 (IntKind.i64.wrap (1 + (IntKind.i64.wrap ((IntKind.i64.wrap n_2).tdiv 2)).tmod 2))), V.mp 4, V.mp 5],
 KO.mp [IntKind.i64] false true 2 [(fun p => ([p.fst], [dn IntKind.i64 p.snd.fst, dn IntKind.i64 p.snd.snd])) ((IntKind.i64.wrap n).tmod 2, upD 0 (IntKind.i64.wrap (1 + (IntKind.i64.wrap ((IntKind.i64.wrap n_1).tdiv 2)).tmod 2)), upR 0 (IntKind.i64.wrap (1 + (IntKind.i64.wrap ((IntKind.i64.wrap n_1).tdiv 2)).tmod 2)))],
 KO.mp [IntKind.i64] false true 2 (prs []),
 KO.mp [IntKind.i64] false true 2 [(fun p => ([p.fst], [dn IntKind.i64 p.snd.fst, dn IntKind.i64 p.snd.snd])) ((IntKind.i64.wrap n).tmod 2, upD 0 (IntKind.i64.wrap (1 + (IntKind.i64.wrap ((IntKind.i64.wrap n_2).tdiv 2)).tmod 2)), upR 0 (IntKind.i64.wrap (1 + (IntKind.i64.wrap ((IntKind.i64.wrap n_2).tdiv 2)).tmod 2)))],
 KO.mp [IntKind.i64] false true 2 (prs [])]))) ∧
 (decide (0 < (↑(ints IntKind.u8 l).length : Int)) = false → (true = true → (true = true → (true = true → (true = true → true = true) ∧ (true = false → False)) ∧ (true = false → False)) ∧ (true = false → False)) ∧ (true = false → False))) ∧
 ∀ (b : { x // thInv l hs x }),
 (decide ((↑b.val.i : Int) < (↑(ints IntKind.u8 l).length : Int)) = true →
 NonN (↑b.val.i : Int) ∧
 ∃ e,
 (ints IntKind.u8 l)[(↑b.val.i : Int).toNat]? = some e ∧
 ∃ n,
 e[0]? = some (D.val (Value.int IntKind.u8 n)) ∧
 NonN (↑b.val.i : Int) ∧
 ∃ e,
 (ints IntKind.u8 l)[(↑b.val.i : Int).toNat]? = some e ∧
 ∃ n_1,
 e[0]? = some (D.val (Value.int IntKind.u8 n_1)) ∧
 ∃ l_1,
 prs b.val.oa = prs l_1 ∧
 NonN (↑b.val.i : Int) ∧
 ∃ e,
 (ints IntKind.u8 l)[(↑b.val.i : Int).toNat]? = some e ∧
 ∃ n_2,
 e[0]? = some (D.val (Value.int IntKind.u8 n_2)) ∧
 ∃ l_2,
 prs b.val.ob = prs l_2 ∧
 NonN (↑b.val.i : Int) ∧
 ∃ e,
 (ints IntKind.u8 l)[(↑b.val.i : Int).toNat]? = some e ∧
 ∃ n_3,
 e[0]? = some (D.val (Value.int IntKind.u8 n_3)) ∧
 (decide (n_3 > 128) = true →
 ∃ lo lt,
 prs (pset l_1 ((IntKind.i64.wrap n).tmod 2) (upD (pD l_1 ((IntKind.i64.wrap n).tmod 2)) (IntKind.i64.wrap (1 + (IntKind.i64.wrap ((IntKind.i64.wrap n_1).tdiv 2)).tmod 2))) (upR (pR l_1 ((IntKind.i64.wrap n).tmod 2)) (IntKind.i64.wrap (1 + (IntKind.i64.wrap ((IntKind.i64.wrap n_1).tdiv 2)).tmod 2)))) = prs lo ∧
 prs b.val.ta = prs lt ∧
 Nx (thirdLI l hs) (Sum.inr b)
 ([V.dat (D.sl 1 (ints IntKind.u8 l)), V.ptr 0 0, V.ptr 1 0, V.int IntKind.i64 (IntKind.i64.wrap ((↑b.val.i : Int) + 1))],
 [KO.cells [V.int IntKind.i64 (upD b.val.da (IntKind.i64.wrap (1 + (IntKind.i64.wrap ((IntKind.i64.wrap n_1).tdiv 2)).tmod 2))), V.int IntKind.i64 (upR b.val.ra (IntKind.i64.wrap (1 + (IntKind.i64.wrap ((IntKind.i64.wrap n_1).tdiv 2)).tmod 2))), V.mp 2, V.mp 3],
 KO.cells [V.int IntKind.i64 (upD b.val.db (IntKind.i64.wrap (1 + (IntKind.i64.wrap ((IntKind.i64.wrap n_2).tdiv 2)).tmod 2))), V.int IntKind.i64 (upR b.val.rb (IntKind.i64.wrap (1 + (IntKind.i64.wrap ((IntKind.i64.wrap n_2).tdiv 2)).tmod 2))), V.mp 4, V.mp 5], KO.mp [IntKind.i64] false true 2 (prs lo),
 KO.mp [IntKind.i64] false true 2 (prs (pset lt 5 (IntKind.i64.wrap (upD b.val.da (IntKind.i64.wrap (1 + (IntKind.i64.wrap ((IntKind.i64.wrap n_1).tdiv 2)).tmod 2)) - pD lo 5)) (IntKind.i64.wrap (upR b.val.ra (IntKind.i64.wrap (1 + (IntKind.i64.wrap ((IntKind.i64.wrap n_1).tdiv 2)).tmod 2)) - pR lo 5)))),
 KO.mp [IntKind.i64] false true 2
 (prs (pset l_2 ((IntKind.i64.wrap n).tmod 2) (upD (pD l_2 ((IntKind.i64.wrap n).tmod 2)) (IntKind.i64.wrap (1 + (IntKind.i64.wrap ((IntKind.i64.wrap n_2).tdiv 2)).tmod 2))) (upR (pR l_2 ((IntKind.i64.wrap n).tmod 2)) (IntKind.i64.wrap (1 + (IntKind.i64.wrap ((IntKind.i64.wrap n_2).tdiv 2)).tmod 2))))),
 KO.mp [IntKind.i64] false true 2 (prs b.val.tb)])) ∧
 (decide (n_3 > 128) = false →
 Nx (thirdLI l hs) (Sum.inr b)
 ([V.dat (D.sl 1 (ints IntKind.u8 l)), V.ptr 0 0, V.ptr 1 0, V.int IntKind.i64 (IntKind.i64.wrap ((↑b.val.i : Int) + 1))],
 [KO.cells [V.int IntKind.i64 (upD b.val.da (IntKind.i64.wrap (1 + (IntKind.i64.wrap ((IntKind.i64.wrap n_1).tdiv 2)).tmod 2))), V.int IntKind.i64 (upR b.val.ra (IntKind.i64.wrap (1 + (IntKind.i64.wrap ((IntKind.i64.wrap n_1).tdiv 2)).tmod 2))), V.mp 2, V.mp 3],
 KO.cells [V.int IntKind.i64 (upD b.val.db (IntKind.i64.wrap (1 + (IntKind.i64.wrap ((IntKind.i64.wrap n_2).tdiv 2)).tmod 2))), V.int IntKind.i64 (upR b.val.rb (IntKind.i64.wrap (1 + (IntKind.i64.wrap ((IntKind.i64.wrap n_2).tdiv 2)).tmod 2))), V.mp 4, V.mp 5],
 KO.mp [IntKind.i64] false true 2
 (prs (pset l_1 ((IntKind.i64.wrap n).tmod 2) (upD (pD l_1 ((IntKind.i64.wrap n).tmod 2)) (IntKind.i64.wrap (1 + (IntKind.i64.wrap ((IntKind.i64.wrap n_1).tdiv 2)).tmod 2))) (upR (pR l_1 ((IntKind.i64.wrap n).tmod 2)) (IntKind.i64.wrap (1 + (IntKind.i64.wrap ((IntKind.i64.wrap n_1).tdiv 2)).tmod 2))))),
 KO.mp [IntKind.i64] false true 2 (prs b.val.ta),
 KO.mp [IntKind.i64] false true 2
 (prs (pset l_2 ((IntKind.i64.wrap n).tmod 2) (upD (pD l_2 ((IntKind.i64.wrap n).tmod 2)) (IntKind.i64.wrap (1 + (IntKind.i64.wrap ((IntKind.i64.wrap n_2).tdiv 2)).tmod 2))) (upR (pR l_2 ((IntKind.i64.wrap n).tmod 2)) (IntKind.i64.wrap (1 + (IntKind.i64.wrap ((IntKind.i64.wrap n_2).tdiv 2)).tmod 2))))),
 KO.mp [IntKind.i64] false true 2 (prs b.val.tb)]))) ∧
 (decide ((↑b.val.i : Int) < (↑(ints IntKind.u8 l).length : Int)) = false →
 ∃ lo lt,
 prs b.val.oa = prs lo ∧
 prs b.val.ta = prs lt ∧
 ∃ lo_1 lt_1,
 prs b.val.ob = prs lo_1 ∧
 prs b.val.tb = prs lt_1 ∧
 ∃ lo_2 lt_2,
 prs lo_1 = prs lo_2 ∧
 prs (pset lt_1 0 (IntKind.i64.wrap (b.val.db - pD lo_1 0)) (IntKind.i64.wrap (b.val.rb - pR lo_1 0))) = prs lt_2 ∧
 ((IntKind.i64.wrap (IntKind.i64.wrap (b.val.da - pD lo 0) - pD lt 0) == IntKind.i64.wrap (IntKind.i64.wrap (b.val.db - pD lo_1 0) - pD lt_1 0)) = true →
 ((IntKind.i64.wrap (IntKind.i64.wrap (b.val.ra - pR lo 0) - pR lt 0) == IntKind.i64.wrap (IntKind.i64.wrap (b.val.rb - pR lo_1 0) - pR lt_1 0)) = true →
 ((IntKind.i64.wrap (IntKind.i64.wrap (b.val.db - pD lo_2 5) - pD lt_2 5) == b.val.db) = true → ((IntKind.i64.wrap (IntKind.i64.wrap (b.val.rb - pR lo_2 5) - pR lt_2 5) == b.val.rb) = true → true = true) ∧ ((IntKind.i64.wrap (IntKind.i64.wrap (b.val.rb - pR lo_2 5) - pR lt_2 5) == b.val.rb) = false → False)) ∧
 ((IntKind.i64.wrap (IntKind.i64.wrap (b.val.db - pD lo_2 5) - pD lt_2 5) == b.val.db) = false → False)) ∧
 ((IntKind.i64.wrap (IntKind.i64.wrap (b.val.ra - pR lo 0) - pR lt 0) == IntKind.i64.wrap (IntKind.i64.wrap (b.val.rb - pR lo_1 0) - pR lt_1 0)) = false → False)) ∧
 ((IntKind.i64.wrap (IntKind.i64.wrap (b.val.da - pD lo 0) - pD lt 0) == IntKind.i64.wrap (IntKind.i64.wrap (b.val.db - pD lo_1 0) - pD lt_1 0)) = false → False)))
 ) : X6 l hs 6 [.dat (.sl 1 (ints .u8 l))] [] KT := Eq.mp (by kernel_rfl) h
theorem X4_ok (l : List Ev) (s : Int) (hs : Nat → List Ev) : CallOk Try.prog (X4 l s hs) := callS_ok mixed lawS_ok (bT4 l s hs) 10
theorem X5_ok (l : List Int) (s : Int) (hs : Nat → List Ev) : CallOk Try.prog (X5 l s hs) := callS_ok mixed lawS_ok (bT5 l s hs) 10
theorem X6_ok (l : List Int) (hs : Nat → List Ev) : CallOk Try.prog (X6 l hs) := callS_ok mixed lawS_ok (bT6 l hs) 10

def atS (n : Int) : Int := IntKind.i64.wrap ((IntKind.u64.wrap n).tmod 4)
def phS (n : Int) : Int := IntKind.i64.wrap (1 + IntKind.i64.wrap ((IntKind.u64.wrap n).tmod 2))
def evS (s : Int) (e : Ev) : Ev := if e.2 = 0 then (s, 0) else (atS e.1, phS e.2)
def hsS (l : List Ev) (s : Int) (i : Nat) : List Ev := (l.take i).map (evS s)
theorem phS_ne (n : Int) : phS n = 1 ∨ phS n = 2 := by
  have h : (IntKind.u64.wrap n).tmod 2 = 0 ∨ (IntKind.u64.wrap n).tmod 2 = 1 := by
    have h1 : 0 ≤ IntKind.u64.wrap n := by rw [IntKind.wrap_u64]; omega
    rw [Int.tmod_eq_emod_of_nonneg h1]; omega
  unfold phS
  rcases h with h | h <;> rw [h]
  · left; rfl
  · right; rfl
theorem hsS_step {l : List Ev} {s : Int} {i : Nat} (h : i < l.length) : hsS l s (i + 1) = hsS l s i ++ [evS s l[i]] := by
  have hq : l[i]? = some l[i] := List.getElem?_eq_getElem h
  unfold hsS; rw [List.take_add_one, hq, List.map_append]; rfl
theorem hsS_len {l : List Ev} {s : Int} {i : Nat} (h : l.length ≤ 100) : (hsS l s i).length ≤ 1000 := by unfold hsS; simp; omega
theorem lawSums (l : List Ev) (v : Int) : X4 l ((IntKind.i64.wrap v).tmod 4) (hsS l ((IntKind.i64.wrap v).tmod 4)) 4 [.dat (.sl 2 (l.map evR)), .int .u8 v] [] KT := by
  refine vc4 l v ((IntKind.i64.wrap v).tmod 4) (hsS l ((IntKind.i64.wrap v).tmod 4)) ⟨fun _ => rfl, fun hlen => ?_⟩
  generalize hs : (IntKind.i64.wrap v).tmod 4 = s
  simp only [List.length_map, decide_eq_false_iff_not] at hlen
  refine ⟨At.mk' (.inl ⟨0, Nat.zero_le _, fun e he => by simp [hsS] at he⟩) rfl, ?_, ?_⟩
  · rintro ⟨i, hi, hN⟩
    refine ⟨fun hc => ?_, fun hc => rfl⟩
    simp only [List.length_map, decide_eq_true_eq] at hc
    have e2 : ((i : Nat) : Int).toNat = i := by omega
    have hq : l[i]? = some l[i] := List.getElem?_eq_getElem (by omega)
    have ht := hsS_step (s := s) (l := l) (i := i) (by omega)
    have w2 := w64 (n := (i : Int) + 1) (by omega) (by omega)
    have hnn : NonN (i : Int) := by unfold NonN; omega
    have l2 : i + 1 ≤ l.length := by omega
    obtain ⟨z1, z2, z3⟩ := hN.zero
    simp only [e2, w2, hq, hnn, evR, List.getElem?_map, Option.map_some, Option.some.injEq, exists_eq_left', dn, db, List.getElem?_cons_zero, List.getElem?_cons_succ, D.val.injEq, D.sl.injEq, Value.int.injEq, Value.bool.injEq, true_and, beq_iff_eq, bne_iff_ne, ne_eq, beq_eq_false_iff_ne, bne_eq_false_iff_eq, Bool.and_eq_true, Bool.or_eq_true, Bool.not_eq_true', Bool.not_eq_false', Bool.and_eq_false_iff, Bool.or_eq_false_iff, decide_eq_true_eq, decide_eq_false_iff_not, ← phS.eq_1, ← atS.eq_1]
    simp only [true_implies, false_implies, Bool.false_eq_true, not_false_eq_true, true_and]
    refine ⟨fun hp => ?_, fun hp => ?_⟩
    · rw [evS, if_pos hp] at ht
      have hN' : TkN (hsS l s (i + 1)) := by rw [ht]; exact hN.snoc
      exact Nx.mk' (Sum.inl ⟨i + 1, l2, hN'⟩) rfl (by show l.length - (i + 1) < l.length - i; omega)
    · rw [evS, if_neg hp] at ht
      have hT := Tk.first (s := atS l[i].1) hN (p := phS l[i].2) (by rcases phS_ne l[i].2 with h | h <;> omega)
      rw [← ht] at hT
      have t1 := tot_res (hsS l s (i + 1))
      have t2 : tot (hsS l s (i + 1)) false = 1 := by
        rw [ht, tot_snoc, z1]
        rcases phS_ne l[i].2 with h | h <;> simp [cntB, h]
      rw [← hT.d, ← hT.r] at t1
      have t3 : upD 0 (phS l[i].2) = 1 := by rw [hT.d]; exact t2
      rw [t3] at t1
      rw [t3]
      have r1 : rB (hsS l s (i + 1)) s false = if atS l[i].1 = s then 0 else 1 := by
        rw [ht, rB_snoc, z3]
        rcases phS_ne l[i].2 with h | h <;> simp [cntB, h]
      refine ⟨fun h1 => ⟨by omega, fun _ => ⟨by omega, fun _ => ?_⟩⟩, fun h1 => ⟨by omega, fun _ => ⟨by omega, fun _ => ?_⟩⟩⟩
      · rw [if_pos h1] at r1
        refine Nx.mk' (Sum.inr ⟨((i + 1, upD 0 (phS l[i].2), upR 0 (phS l[i].2)), [(atS l[i].1, upD 0 (phS l[i].2), upR 0 (phS l[i].2))], []), l2, hT⟩) ?_ (by show l.length - (i + 1) < l.length - i; omega)
        simp only [t2, r1, t3]; rfl
      · rw [if_neg h1] at r1
        refine Nx.mk' (Sum.inr ⟨((i + 1, upD 0 (phS l[i].2), upR 0 (phS l[i].2)), [(atS l[i].1, upD 0 (phS l[i].2), upR 0 (phS l[i].2))], []), l2, hT⟩) ?_ (by show l.length - (i + 1) < l.length - i; omega)
        simp only [t2, r1, t3]; rfl
  · rintro ⟨⟨⟨i, d, r⟩, own, told⟩, hi, hT⟩
    refine ⟨fun hc => ?_, fun hc => rfl⟩
    simp only [List.length_map, decide_eq_true_eq] at hc hi hT
    have e2 : ((i : Nat) : Int).toNat = i := by omega
    have hq : l[i]? = some l[i] := List.getElem?_eq_getElem (by omega)
    have ht := hsS_step (s := s) (l := l) (i := i) (by omega)
    have w2 := w64 (n := (i : Int) + 1) (by omega) (by omega)
    have hnn : NonN (i : Int) := by unfold NonN; omega
    have l2 : i + 1 ≤ l.length := by omega
    have l3 : (hsS l s i).length ≤ 1000 := hsS_len (by omega)
    have b1 := rB_nn (s := s) (b := false) (hsS l s i)
    have b2 := tot_nn (b := false) (hsS l s i)
    have b3 := rB_res (s := s) (hsS l s i)
    have b4 := rB_els (s := s) (b := false) (hsS l s i)
    have b5 := els_nn (s := s) (b := false) (hsS l s i)
    have w3 := w64 (n := tot (hsS l s i) false) (by omega) (by omega)
    have w4 := w64 (n := tot (hsS l s i) false - rB (hsS l s i) s false + 1) (by omega) (by omega)
    have w5 : tot (hsS l s i) false - rB (hsS l s i) s false + rB (hsS l s i) s false = tot (hsS l s i) false := by omega
    obtain ⟨n1, n2, n3, n4⟩ := hT.now l3 s
    rw [n1] at n3; rw [n2] at n4
    simp only [e2, w2, hq, hnn, evR, prs_inj, List.getElem?_map, Option.map_some, Option.some.injEq, exists_eq_left', dn, db, List.getElem?_cons_zero, List.getElem?_cons_succ, D.val.injEq, D.sl.injEq, Value.int.injEq, Value.bool.injEq, true_and, beq_iff_eq, bne_iff_ne, ne_eq, beq_eq_false_iff_ne, bne_eq_false_iff_eq, Bool.and_eq_true, Bool.or_eq_true, Bool.not_eq_true', Bool.not_eq_false', Bool.and_eq_false_iff, Bool.or_eq_false_iff, decide_eq_true_eq, decide_eq_false_iff_not, ← phS.eq_1, ← atS.eq_1]
    refine ⟨fun hp => ⟨own, told, rfl, rfl, ?_⟩, fun hp => ?_⟩
    · rw [evS, if_pos hp] at ht
      have hB := hT.begun l3 s
      have t1 : tot (hsS l s (i + 1)) false = tot (hsS l s i) false := by rw [ht, tot_snoc]; simp [cntB]
      have r1 : rB (hsS l s (i + 1)) s false = 0 := by rw [ht, rB_snoc]; simp
      rw [← ht] at hB
      simp only [n1, n2, n3, n4, w5, w3]
      refine ⟨by omega, fun _ => ⟨fun h => h (by rw [hT.d]), fun _ => ?_⟩⟩
      refine Nx.mk' (Sum.inr ⟨((i + 1, d, r), own, pset told s (els (hsS l s i) s false) (els (hsS l s i) s true)), l2, hB⟩) ?_ (by show l.length - (i + 1) < l.length - i; omega)
      simp only [t1, r1, Int.sub_zero]; rfl
    · rw [evS, if_neg hp] at ht
      have hB := hT.done l3 (s := atS l[i].1) (p := phS l[i].2) (by rcases phS_ne l[i].2 with h | h <;> omega)
      rw [← ht] at hB
      have t1 : tot (hsS l s (i + 1)) false = tot (hsS l s i) false + 1 := by
        rw [ht, tot_snoc]
        rcases phS_ne l[i].2 with h | h <;> simp [cntB, h]
      have r1 : rB (hsS l s (i + 1)) s false = rB (hsS l s i) s false + if atS l[i].1 = s then 0 else 1 := by
        rw [ht, rB_snoc]
        rcases phS_ne l[i].2 with h | h <;> simp [cntB, h] <;> split <;> simp_all
      have t2 := tot_res (hsS l s (i + 1))
      rw [← hB.d, ← hB.r] at t2
      have t3 := hB.d
      rw [t1] at t3
      refine ⟨fun h1 => ⟨by omega, fun _ => ⟨by omega, fun _ => ?_⟩⟩, fun h1 => ⟨by omega, fun _ => ⟨by omega, fun _ => ?_⟩⟩⟩
      · rw [if_pos h1] at r1
        refine Nx.mk' (Sum.inr ⟨((i + 1, upD d (phS l[i].2), upR r (phS l[i].2)), pset own (atS l[i].1) (upD (pD own (atS l[i].1)) (phS l[i].2)) (upR (pR own (atS l[i].1)) (phS l[i].2)), told), l2, hB⟩) ?_ (by show l.length - (i + 1) < l.length - i; omega)
        simp only [t1, r1, w4]
        rw [show tot (hsS l s i) false + 1 - (rB (hsS l s i) s false + 0) = tot (hsS l s i) false - rB (hsS l s i) s false + 1 by omega]; rfl
      · rw [if_neg h1] at r1
        refine Nx.mk' (Sum.inr ⟨((i + 1, upD d (phS l[i].2), upR r (phS l[i].2)), pset own (atS l[i].1) (upD (pD own (atS l[i].1)) (phS l[i].2)) (upR (pR own (atS l[i].1)) (phS l[i].2)), told), l2, hB⟩) ?_ (by show l.length - (i + 1) < l.length - i; omega)
        simp only [t1, r1]
        rw [show tot (hsS l s i) false + 1 - (rB (hsS l s i) s false + 1) = tot (hsS l s i) false - rB (hsS l s i) s false by omega]; rfl

def evA (s : Int) (n : Int) : Ev := if n.tmod 3 = 0 then (s, 0) else (s, IntKind.i64.wrap (n.tmod 3))
def hsA (l : List Int) (s : Int) (i : Nat) : List Ev := (l.take i).map (evA s)
theorem hsA_step {l : List Int} {s : Int} {i : Nat} (h : i < l.length) : hsA l s (i + 1) = hsA l s i ++ [evA s l[i]] := by
  have hq : l[i]? = some l[i] := List.getElem?_eq_getElem h
  unfold hsA; rw [List.take_add_one, hq, List.map_append]; rfl
theorem hsA_len {l : List Int} {s : Int} {i : Nat} (h : l.length ≤ 100) : (hsA l s i).length ≤ 1000 := by unfold hsA; simp; omega
theorem hsA_els {l : List Int} {s : Int} {i : Nat} {b : Bool} : els (hsA l s i) s b = 0 := by
  unfold els
  rw [List.countP_eq_zero.2 (fun e he => ?_)]; · rfl
  obtain ⟨n, _, rfl⟩ := List.mem_map.1 he
  unfold evA; split <;> simp
theorem ph3 {n : Int} (h : (Lit.int .u8 n).wf = true) (h0 : ¬ n.tmod 3 = 0) : IntKind.i64.wrap (n.tmod 3) = 1 ∨ IntKind.i64.wrap (n.tmod 3) = 2 := by
  have := bounds_u8 h
  rw [Int.tmod_eq_emod_of_nonneg (by omega)] at h0 ⊢
  rw [w64 (by omega) (by omega)]; omega
theorem lawAlone (l : List Int) (s : Int) (hw : ∀ n ∈ l, (Lit.int .u8 n).wf = true) : X5 l s (hsA l s) 5 [.dat (.sl 1 (ints .u8 l)), .int .i64 s] [] KT := by
  refine vc5 l s (hsA l s) ⟨fun _ => rfl, fun hlen => ?_⟩
  simp only [ints_len, decide_eq_false_iff_not] at hlen
  refine ⟨At.mk' (.inl ⟨0, Nat.zero_le _, fun e he => by simp [hsA] at he⟩) rfl, ?_, ?_⟩
  · rintro ⟨i, hi, hN⟩
    refine ⟨fun hc => ?_, fun hc => ⟨fun _ => rfl, fun h => by cases h⟩⟩
    simp only [ints_len, decide_eq_true_eq] at hc
    have e2 : ((i : Nat) : Int).toNat = i := by omega
    have hq : l[i]? = some l[i] := List.getElem?_eq_getElem (by omega)
    have ht := hsA_step (s := s) (l := l) (i := i) (by omega)
    have w2 := w64 (n := (i : Int) + 1) (by omega) (by omega)
    have hnn : NonN (i : Int) := by unfold NonN; omega
    have l2 : i + 1 ≤ l.length := by omega
    have hwi := hw l[i] (List.getElem_mem _)
    obtain ⟨z1, z2, z3⟩ := hN.zero
    simp only [e2, w2, hq, hnn, ex_ints, List.getElem?_map, Option.map_some, Option.some.injEq, exists_eq_left', dn, db, List.getElem?_cons_zero, List.getElem?_cons_succ, D.val.injEq, D.sl.injEq, Value.int.injEq, Value.bool.injEq, true_and, beq_iff_eq, bne_iff_ne, ne_eq, beq_eq_false_iff_ne, bne_eq_false_iff_eq, Bool.and_eq_true, Bool.or_eq_true, Bool.not_eq_true', Bool.not_eq_false', Bool.and_eq_false_iff, Bool.or_eq_false_iff, decide_eq_true_eq, decide_eq_false_iff_not]
    simp only [true_implies, false_implies, Bool.false_eq_true, not_false_eq_true, true_and]
    refine ⟨fun hp => ?_, fun hp => ?_⟩
    · rw [evA, if_pos hp] at ht
      have hN' : TkN (hsA l s (i + 1)) := by rw [ht]; exact hN.snoc
      exact Nx.mk' (Sum.inl ⟨i + 1, l2, hN'⟩) rfl (by show l.length - (i + 1) < l.length - i; omega)
    · rw [evA, if_neg hp] at ht
      have hph := ph3 hwi hp
      generalize IntKind.i64.wrap (l[i].tmod 3) = q at *
      have hT := Tk.first (s := s) hN (p := q) (by omega)
      rw [← ht] at hT
      have t2 : tot (hsA l s (i + 1)) false = 1 := by
        rw [ht, tot_snoc, z1]
        rcases hph with h | h <;> simp [cntB, h]
      refine Nx.mk' (Sum.inr ⟨((i + 1, upD 0 q, upR 0 q), [(s, upD 0 q, upR 0 q)], []), l2, hT⟩) ?_ (by show l.length - (i + 1) < l.length - i; omega)
      simp only [t2]; rfl
  · rintro ⟨⟨⟨i, d, r⟩, own, told⟩, hi, hT⟩
    simp only at hi hT
    refine ⟨fun hc => ?_, fun hc => ⟨fun _ => rfl, fun h => ?_⟩⟩
    rotate_left
    · simp [hT.d] at h
    simp only [ints_len, decide_eq_true_eq] at hc
    have e2 : ((i : Nat) : Int).toNat = i := by omega
    have hq : l[i]? = some l[i] := List.getElem?_eq_getElem (by omega)
    have ht := hsA_step (s := s) (l := l) (i := i) (by omega)
    have w2 := w64 (n := (i : Int) + 1) (by omega) (by omega)
    have hnn : NonN (i : Int) := by unfold NonN; omega
    have l2 : i + 1 ≤ l.length := by omega
    have l3 : (hsA l s i).length ≤ 1000 := hsA_len (by omega)
    have hwi := hw l[i] (List.getElem_mem _)
    have b1 := rB_nn (s := s) (b := false) (hsA l s i)
    have b1' := rB_nn (s := s) (b := true) (hsA l s i)
    have b2 := tot_nn (b := false) (hsA l s i)
    have b4 := rB_els (s := s) (b := false) (hsA l s i)
    have b4' := rB_els (s := s) (b := true) (hsA l s i)
    rw [hsA_els] at b4 b4'
    have w4 := w64 (n := tot (hsA l s i) false + 1) (by omega) (by omega)
    obtain ⟨n1, n2, n3, n4⟩ := hT.now l3 s
    rw [n1] at n3; rw [n2] at n4
    simp only [e2, w2, hq, hnn, prs_inj, ex_ints, List.getElem?_map, Option.map_some, Option.some.injEq, exists_eq_left', dn, db, List.getElem?_cons_zero, List.getElem?_cons_succ, D.val.injEq, D.sl.injEq, Value.int.injEq, Value.bool.injEq, true_and, beq_iff_eq, bne_iff_ne, ne_eq, beq_eq_false_iff_ne, bne_eq_false_iff_eq, Bool.and_eq_true, Bool.or_eq_true, Bool.not_eq_true', Bool.not_eq_false', Bool.and_eq_false_iff, Bool.or_eq_false_iff, decide_eq_true_eq, decide_eq_false_iff_not]
    refine ⟨fun hp => ⟨own, told, rfl, rfl, ?_⟩, fun hp => ?_⟩
    · rw [evA, if_pos hp] at ht
      have hB := hT.begun l3 s
      have t1 : tot (hsA l s (i + 1)) false = tot (hsA l s i) false := by rw [ht, tot_snoc]; simp [cntB]
      rw [← ht] at hB
      simp only [n1, n2, n3, n4]
      refine ⟨fun h => h (by omega), fun _ => ⟨fun h => h (by omega), fun _ => ?_⟩⟩
      refine Nx.mk' (Sum.inr ⟨((i + 1, d, r), own, pset told s (els (hsA l s i) s false) (els (hsA l s i) s true)), l2, hB⟩) ?_ (by show l.length - (i + 1) < l.length - i; omega)
      simp only [t1]; rfl
    · rw [evA, if_neg hp] at ht
      have hph := ph3 hwi hp
      generalize IntKind.i64.wrap (l[i].tmod 3) = q at *
      have hB := hT.done l3 (s := s) (p := q) (by omega)
      rw [← ht] at hB
      have t1 : tot (hsA l s (i + 1)) false = tot (hsA l s i) false + 1 := by
        rw [ht, tot_snoc]
        rcases hph with h | h <;> simp [cntB, h]
      refine Nx.mk' (Sum.inr ⟨((i + 1, upD d q, upR r q), pset own s (upD (pD own s) q) (upR (pR own s) q), told), l2, hB⟩) ?_ (by show l.length - (i + 1) < l.length - i; omega)
      simp only [t1, w4]; rfl

def sT (n : Int) : Int := (IntKind.i64.wrap n).tmod 2
def pT (n : Int) : Int := IntKind.i64.wrap (1 + (IntKind.i64.wrap ((IntKind.i64.wrap n).tdiv 2)).tmod 2)
theorem pT_s {n : Int} : IntKind.i64.wrap (1 + sT ((IntKind.i64.wrap n).tdiv 2)) = pT n := rfl
theorem sT_pT {n : Int} (h : (Lit.int .u8 n).wf = true) : (sT n = 0 ∨ sT n = 1) ∧ (pT n = 1 ∨ pT n = 2) := by
  have := bounds_u8 h
  unfold sT pT
  rw [w64 (n := n) (by omega) (by omega), Int.tmod_eq_emod_of_nonneg (by omega), Int.tdiv_eq_ediv_of_nonneg (by omega), w64 (n := n / 2) (by omega) (by omega), Int.tmod_eq_emod_of_nonneg (by omega), w64 (by omega) (by omega)]
  omega
def hsT (l : List Int) (i : Nat) : List Ev := (l.take i).map fun n => (sT n, pT n)
theorem hsT_step {l : List Int} {i : Nat} (h : i < l.length) : hsT l (i + 1) = hsT l i ++ [(sT l[i], pT l[i])] := by
  have hq : l[i]? = some l[i] := List.getElem?_eq_getElem h
  unfold hsT; rw [List.take_add_one, hq, List.map_append]; rfl
theorem rBr_all {s : Int} {b : Bool} : ∀ l : List Ev, (∀ e ∈ l, e.1 ≠ s) → rBr s b l = (l.countP fun e => cntB e.2 b : Nat)
  | [], _ => rfl
  | e :: l, h => by
    have h1 := h e List.mem_cons_self
    have h2 := rBr_all (s := s) (b := b) l (fun e he => h e (List.mem_cons_of_mem _ he))
    rw [rBr, if_neg (fun k => h1 k.2), h2, List.countP_cons]
    simp [h1]
    split <;> simp
theorem rB_all {s : Int} {b : Bool} {l : List Ev} (h : ∀ e ∈ l, e.1 ≠ s) : rB l s b = tot l b := by
  unfold rB tot
  rw [rBr_all _ (fun e he => h e (by simpa using he)), List.countP_reverse]
theorem rB_five {l : List Ev} {b : Bool} : rB (l ++ [(5, 0)]) 0 b = rB l 0 b := by
  rw [rB_snoc]; simp [cntB]
theorem rB_zero {l : List Ev} {b : Bool} : rB (l ++ [(0, 0)]) 5 b = rB l 5 b := by
  rw [rB_snoc]; simp [cntB]
theorem lawThird (l : List Int) (hw : ∀ n ∈ l, (Lit.int .u8 n).wf = true) : X6 l (hsT l) 6 [.dat (.sl 1 (ints .u8 l))] [] KT := by
  refine vc6 l (hsT l) ⟨fun _ => rfl, fun hlen => ?_⟩
  simp only [ints_len, decide_eq_false_iff_not] at hlen
  refine ⟨At.mk' (.inl ()) rfl, ?_, ?_⟩
  · rintro ⟨⟩
    refine ⟨fun hc => ?_, fun hc => ⟨fun _ => ⟨fun _ => ⟨fun _ => ⟨fun _ => rfl, fun h => by cases h⟩, fun h => by cases h⟩, fun h => by cases h⟩, fun h => by cases h⟩⟩
    simp only [ints_len, decide_eq_true_eq] at hc
    have hl : 0 < l.length := by omega
    have hq : l[0]? = some l[0] := List.getElem?_eq_getElem hl
    have ht := hsT_step hl
    have hnn : NonN (0 : Int) := by unfold NonN; omega
    have hwi := hw l[0] (List.getElem_mem _)
    obtain ⟨hs, hp⟩ := sT_pT hwi
    have hT := Tk.first (l := []) (s := sT l[0]) (p := pT l[0]) (fun e he => by simp at he) (by omega)
    have ht' : hsT l 1 = [] ++ [(sT l[0], pT l[0])] := ht
    rw [← ht'] at hT
    have hlen1 : (hsT l 1).length = 1 := by rw [ht']; rfl
    simp only [hq, hnn, ex_ints, List.getElem?_map, Option.map_some, Option.some.injEq, exists_eq_left', dn, db, List.getElem?_cons_zero, List.getElem?_cons_succ, D.val.injEq, D.sl.injEq, Value.int.injEq, Value.bool.injEq, true_and, beq_iff_eq, bne_iff_ne, ne_eq, beq_eq_false_iff_ne, bne_eq_false_iff_eq, Bool.and_eq_true, Bool.or_eq_true, Bool.not_eq_true', Bool.not_eq_false', Bool.and_eq_false_iff, Bool.or_eq_false_iff, decide_eq_true_eq, decide_eq_false_iff_not, ← sT.eq_1, pT_s]
    generalize l[0] = x at *
    refine ⟨fun hc2 => ⟨[(sT x, upD 0 (pT x), upR 0 (pT x))], [], rfl, rfl, ?_⟩, fun hc2 => ?_⟩
    · have hB := hT.begun (by omega) 5
      obtain ⟨n1, n2, n3, n4⟩ := hT.now (by omega) 5
      rw [n1, n2]
      exact Nx.mk' (Sum.inr ⟨⟨1, hsT l 1 ++ [(5, 0)], upD 0 (pT x), upR 0 (pT x), [(sT x, upD 0 (pT x), upR 0 (pT x))], pset [] 5 (els (hsT l 1) 5 false) (els (hsT l 1) 5 true), upD 0 (pT x), upR 0 (pT x), [(sT x, upD 0 (pT x), upR 0 (pT x))], []⟩,
        Nat.le_refl 1, hl, by simp [hlen1], fun b => rB_five, hB, hT⟩) rfl (by show l.length - 1 < l.length; omega)
    · exact Nx.mk' (Sum.inr ⟨⟨1, hsT l 1, upD 0 (pT x), upR 0 (pT x), [(sT x, upD 0 (pT x), upR 0 (pT x))], [], upD 0 (pT x), upR 0 (pT x), [(sT x, upD 0 (pT x), upR 0 (pT x))], []⟩,
        Nat.le_refl 1, hl, by simp [hlen1], fun b => rfl, hT, hT⟩) rfl (by show l.length - 1 < l.length; omega)
  · rintro ⟨⟨i, ha, da, ra, oa, ta, dB, rB2, ob, tb⟩, hInv⟩
    obtain ⟨h1, hi, hal, hab, hA, hB⟩ := id hInv
    simp only at h1 hi hal hab hA hB
    have l3 : (hsT l i).length ≤ 1000 := by unfold hsT; simp; omega
    refine ⟨fun hc => ?_, fun hc => ⟨oa, ta, rfl, rfl, ob, tb, rfl, rfl, ob, _, rfl, rfl, ?_⟩⟩
    · simp only [ints_len, decide_eq_true_eq] at hc
      have e2 : ((i : Nat) : Int).toNat = i := by omega
      have hq : l[i]? = some l[i] := List.getElem?_eq_getElem (by omega)
      have ht := hsT_step (l := l) (i := i) (by omega)
      have w2 := w64 (n := (i : Int) + 1) (by omega) (by omega)
      have hnn : NonN (i : Int) := by unfold NonN; omega
      have l2 : i + 1 ≤ l.length := by omega
      have hwi := hw l[i] (List.getElem_mem _)
      obtain ⟨hs, hp⟩ := sT_pT hwi
      simp only [e2, w2, hq, hnn, ex_ints, prs_inj, List.getElem?_map, Option.map_some, Option.some.injEq, exists_eq_left', dn, db, List.getElem?_cons_zero, List.getElem?_cons_succ, D.val.injEq, D.sl.injEq, Value.int.injEq, Value.bool.injEq, true_and, beq_iff_eq, bne_iff_ne, ne_eq, beq_eq_false_iff_ne, bne_eq_false_iff_eq, Bool.and_eq_true, Bool.or_eq_true, Bool.not_eq_true', Bool.not_eq_false', Bool.and_eq_false_iff, Bool.or_eq_false_iff, decide_eq_true_eq, decide_eq_false_iff_not, ← sT.eq_1, pT_s]
      generalize l[i] = x at *
      have hA' := hA.done (by omega) (s := sT x) (p := pT x) (by omega)
      have hB' := hB.done l3 (s := sT x) (p := pT x) (by omega)
      rw [← ht] at hB'
      have hab' : ∀ b, rB (ha ++ [(sT x, pT x)]) 0 b = rB (hsT l (i + 1)) 0 b := fun b => by rw [ht, rB_snoc, rB_snoc, hab b]
      have hl4 : (ha ++ [(sT x, pT x)]).length = ha.length + 1 := by simp
      refine ⟨fun hc2 => ⟨_, ta, rfl, rfl, ?_⟩, fun hc2 => ?_⟩
      · have hA2 := hA'.begun (by omega) 5
        obtain ⟨n1, n2, n3, n4⟩ := hA'.now (by omega) 5
        rw [n1, n2]
        exact Nx.mk' (Sum.inr ⟨⟨i + 1, ha ++ [(sT x, pT x)] ++ [(5, 0)], upD da (pT x), upR ra (pT x), pset oa (sT x) (upD (pD oa (sT x)) (pT x)) (upR (pR oa (sT x)) (pT x)), pset ta 5 (els (ha ++ [(sT x, pT x)]) 5 false) (els (ha ++ [(sT x, pT x)]) 5 true), upD dB (pT x), upR rB2 (pT x), pset ob (sT x) (upD (pD ob (sT x)) (pT x)) (upR (pR ob (sT x)) (pT x)), tb⟩,
          by show 1 ≤ i + 1; omega, l2, by simp; omega, fun b => by show rB _ 0 b = _; rw [rB_five, hab' b], hA2, hB'⟩) rfl (by show l.length - (i + 1) < l.length - i; omega)
      · exact Nx.mk' (Sum.inr ⟨⟨i + 1, ha ++ [(sT x, pT x)], upD da (pT x), upR ra (pT x), pset oa (sT x) (upD (pD oa (sT x)) (pT x)) (upR (pR oa (sT x)) (pT x)), ta, upD dB (pT x), upR rB2 (pT x), pset ob (sT x) (upD (pD ob (sT x)) (pT x)) (upR (pR ob (sT x)) (pT x)), tb⟩,
          by show 1 ≤ i + 1; omega, l2, by simp; omega, hab', hA', hB'⟩) rfl (by show l.length - (i + 1) < l.length - i; omega)
    · obtain ⟨a1, a2, a3, a4⟩ := hA.now (by omega) 0
      obtain ⟨b1, b2, b3, b4⟩ := hB.now l3 0
      have hB2 := hB.begun l3 0
      obtain ⟨c1, c2, c3, c4⟩ := hB2.now (by simp [hsT]; omega) 5
      have hne : ∀ e ∈ hsT l i, e.1 ≠ 5 := fun e he => by
        obtain ⟨n, hn, rfl⟩ := List.mem_map.1 he
        have := (sT_pT (hw n (List.mem_of_mem_take hn))).1
        show sT n ≠ 5; omega
      rw [rB_zero, rB_all hne, ← hB.d] at c3
      rw [rB_zero, rB_all hne, ← hB.r] at c4
      rw [b1] at b3; rw [b2] at b4; rw [c1] at c3; rw [c2] at c4
      rw [a1] at a3; rw [a2] at a4
      simp only [a1, a2, a3, a4, b1, b2, b3, b4, c1, c2, c3, c4, hab, beq_self_eq_true, true_implies, Bool.true_eq_false, false_implies, and_self]
end Go.Proofs.Ytffbeiaokmopgaa
