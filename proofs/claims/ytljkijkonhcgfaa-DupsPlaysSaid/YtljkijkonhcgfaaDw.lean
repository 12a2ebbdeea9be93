import Derived.Test.YtljkijkonhcgfaaDv
import Derived.KernelRfl
namespace Go.Proofs.Ytljkijkonhcgfaa
open Vc Go
set_option linter.unusedVariables false
set_option linter.unusedSimpArgs false
set_option maxRecDepth 100000
def numSt (l : List Int) (p : Nat × Int) (most : Int) : Nat × Int := (p.1 + (rNum (l.drop p.1) p.2 most).2.1, (rNum (l.drop p.1) p.2 most).2.2)
def numAt (l : List Int) (p : Nat × Int) (most : Int) : Int := (rNum (l.drop p.1) p.2 most).1
def s1 (b : List Int) (p : Nat × Int) : Nat × Int := numSt b p 255
def s2 (b : List Int) (p : Nat × Int) : Nat × Int := numSt b (s1 b p) 1099511627776
def s3 (b : List Int) (p : Nat × Int) : Nat × Int := numSt b (s2 b p) 63
def v3 (b : List Int) (p : Nat × Int) : L3 := (numAt b p 255, numAt b (s1 b p) 1099511627776, numAt b (s2 b p) 63)
def lIt (b : List Int) : Nat → (Nat × Int) × List L3
  | 0 => (numSt b (0, 0) 32, [])
  | i + 1 => (s3 b (lIt b i).1, (lIt b i).2 ++ [v3 b (lIt b i).1])
def lc (b : List Int) : Nat := (numAt b (0, 0) 32).toNat
def lastC (x : List L3) : Int := match x.getLast? with | some p => p.1 | none => -1
structure LdI (b : List Int) (i : Nat) (M : ML) : Prop where
  i1 : 1 ≤ i
  i2 : i ≤ lc b
  e : (lIt b i).1.2 = 0
  tab : Tab M (lIt b i).2
  pos : (lIt b i).1.1 ≤ b.length
abbrev ldLI (b : List Int) : LI where
  α := {q : Nat // q = 0} ⊕ {p : Nat × ML // LdI b p.1 p.2}
  live := [2, 4, 5, 6, 13, 14]
  st := fun s => match s with
    | .inl _ => ([.ptr 0 0, .ptr 1 0, .int .i64 (-1), .ptr 2 0, .int .i64 (lc b : Int), .int .i64 0], [.cells [.any (.map none)], .cells [.sl 3 (lIt b 0).1.1 b.length, .int .i64 (lIt b 0).1.2], .cells [.any (.map none)], .row 5 1 (ints .u8 b)])
    | .inr p => ([.ptr 0 0, .ptr 1 0, .int .i64 (lastC (lIt b p.1.1).2), .ptr 2 0, .int .i64 (lc b : Int), .int .i64 (p.1.1 : Int)], [.cells [.any (.map none)], .cells [.sl 3 (lIt b p.1.1).1.1 b.length, .int .i64 0], .cells [.mp 4], .row 5 1 (ints .u8 b), mpT p.1.2])
  μ := fun s => match s with | .inl _ => lc b + 1 | .inr p => lc b - p.1.1
  all := fun Q => (∀ a, Q (.inl a)) ∧ ∀ a, Q (.inr a)
  all_ok := fun Q h i => by
    cases i with
    | inl a => exact h.1 a
    | inr a => exact h.2 a
def ldT (b : List Int) : FuncId → Nat → Option LI
  | 11, 4 => some (ldLI b)
  | _, _ => none
def SLoad : FSpec := fun args kb K => match args, kb with
  | [.dat (.sl 1 B)], [] => ∃ b : List Int, B = ints .u8 b ∧ Byt b ∧ b.length ≤ 2000 ∧ ((¬ ∃ x, OkX x ∧ b = tabW x) → K (.tup [.agg [.any (.map none)], .sb false]) []) ∧ (b = tabW [] → K (.tup [.agg [.any (.map none)], .sb true]) []) ∧
      ∀ x M, Tab M x → b = tabW x → K (.tup [.agg [.mp 0], .sb true]) [mpT M]
  | _, _ => False
theorem vcLoad (b : List Int) (K : V → KB → Prop) (hvc_ :
 (ints IntKind.u8 b).length ≤ 1000000 ∧
 ∃ (l : List Int),
 ints IntKind.u8 b = ints IntKind.u8 l ∧
 (ints IntKind.u8 b).length = l.length ∧
 0 ≤ l.length ∧
 (∀ (c : Int), List.Mem c l → 0 ≤ c ∧ c < 256) ∧
 l.length ≤ 10000000 ∧
 At (ldLI b) ([V.ptr 0 0, V.ptr 1 0, V.int IntKind.i64 (-1), V.ptr 2 0, V.int IntKind.i64 (rNum (List.drop 0 l) 0 32).fst, V.int IntKind.i64 0], [KO.cells [V.any (Value.map none)], KO.cells [V.sl 3 (0 + (rNum (List.drop 0 l) 0 32).snd.fst) l.length, V.int IntKind.i64 (rNum (List.drop 0 l) 0 32).snd.snd], KO.cells [V.any (Value.map none)], KO.row 5 1 (ints IntKind.u8 l)]) ∧
 (∀ (a : { q : Nat // q = 0 }),
 (decide (0 < (↑(lc b) : Int)) = true →
 ∃ (l : List Int),
 ints IntKind.u8 b = ints IntKind.u8 l ∧
 b.length = l.length ∧
 (lIt b 0).fst.fst ≤ l.length ∧
 (∀ (c : Int), List.Mem c l → 0 ≤ c ∧ c < 256) ∧
 l.length ≤ 10000000 ∧
 ∃ (l_1 : List Int),
 ints IntKind.u8 l = ints IntKind.u8 l_1 ∧
 l.length = l_1.length ∧
 (lIt b 0).fst.fst + (rNum (List.drop (lIt b 0).fst.fst l) (lIt b 0).fst.snd 255).snd.fst ≤ l_1.length ∧
 (∀ (c : Int), List.Mem c l_1 → 0 ≤ c ∧ c < 256) ∧
 l_1.length ≤ 10000000 ∧
 ∃ (l_2 : List Int),
 ints IntKind.u8 l_1 = ints IntKind.u8 l_2 ∧
 l_1.length = l_2.length ∧
 (lIt b 0).fst.fst + (rNum (List.drop (lIt b 0).fst.fst l) (lIt b 0).fst.snd 255).snd.fst + (rNum (List.drop ((lIt b 0).fst.fst + (rNum (List.drop (lIt b 0).fst.fst l) (lIt b 0).fst.snd 255).snd.fst) l_1) (rNum (List.drop (lIt b 0).fst.fst l) (lIt b 0).fst.snd 255).snd.snd 1099511627776).snd.fst ≤ l_2.length ∧
 (∀ (c : Int), List.Mem c l_2 → 0 ≤ c ∧ c < 256) ∧
 l_2.length ≤ 10000000 ∧
 (((rNum (List.drop ((lIt b 0).fst.fst + (rNum (List.drop (lIt b 0).fst.fst l) (lIt b 0).fst.snd 255).snd.fst + (rNum (List.drop ((lIt b 0).fst.fst + (rNum (List.drop (lIt b 0).fst.fst l) (lIt b 0).fst.snd 255).snd.fst) l_1) (rNum (List.drop (lIt b 0).fst.fst l) (lIt b 0).fst.snd 255).snd.snd 1099511627776).snd.fst) l_2)
 (rNum (List.drop ((lIt b 0).fst.fst + (rNum (List.drop (lIt b 0).fst.fst l) (lIt b 0).fst.snd 255).snd.fst) l_1) (rNum (List.drop (lIt b 0).fst.fst l) (lIt b 0).fst.snd 255).snd.snd 1099511627776).snd.snd 63).snd.snd !=
 0) =
 true →
 K (V.tup [V.agg [V.any (Value.map none)], V.sb false]) []) ∧
 (((rNum (List.drop ((lIt b 0).fst.fst + (rNum (List.drop (lIt b 0).fst.fst l) (lIt b 0).fst.snd 255).snd.fst + (rNum (List.drop ((lIt b 0).fst.fst + (rNum (List.drop (lIt b 0).fst.fst l) (lIt b 0).fst.snd 255).snd.fst) l_1) (rNum (List.drop (lIt b 0).fst.fst l) (lIt b 0).fst.snd 255).snd.snd 1099511627776).snd.fst) l_2)
 (rNum (List.drop ((lIt b 0).fst.fst + (rNum (List.drop (lIt b 0).fst.fst l) (lIt b 0).fst.snd 255).snd.fst) l_1) (rNum (List.drop (lIt b 0).fst.fst l) (lIt b 0).fst.snd 255).snd.snd 1099511627776).snd.snd 63).snd.snd !=
 0) =
 false →
 (decide ((rNum (List.drop (lIt b 0).fst.fst l) (lIt b 0).fst.snd 255).fst ≤ -1) = true → K (V.tup [V.agg [V.any (Value.map none)], V.sb false]) []) ∧
 (decide ((rNum (List.drop (lIt b 0).fst.fst l) (lIt b 0).fst.snd 255).fst ≤ -1) = false →
 (NeZ
 (putE [] (rNum (List.drop (lIt b 0).fst.fst l) (lIt b 0).fst.snd 255).fst (rNum (List.drop ((lIt b 0).fst.fst + (rNum (List.drop (lIt b 0).fst.fst l) (lIt b 0).fst.snd 255).snd.fst) l_1) (rNum (List.drop (lIt b 0).fst.fst l) (lIt b 0).fst.snd 255).snd.snd 1099511627776).fst
 (rNum (List.drop ((lIt b 0).fst.fst + (rNum (List.drop (lIt b 0).fst.fst l) (lIt b 0).fst.snd 255).snd.fst + (rNum (List.drop ((lIt b 0).fst.fst + (rNum (List.drop (lIt b 0).fst.fst l) (lIt b 0).fst.snd 255).snd.fst) l_1) (rNum (List.drop (lIt b 0).fst.fst l) (lIt b 0).fst.snd 255).snd.snd 1099511627776).snd.fst) l_2)
 (rNum (List.drop ((lIt b 0).fst.fst + (rNum (List.drop (lIt b 0).fst.fst l) (lIt b 0).fst.snd 255).snd.fst) l_1) (rNum (List.drop (lIt b 0).fst.fst l) (lIt b 0).fst.snd 255).snd.snd 1099511627776).snd.snd 63).fst) →
 ((putE [] (rNum (List.drop (lIt b 0).fst.fst l) (lIt b 0).fst.snd 255).fst (rNum (List.drop ((lIt b 0).fst.fst + (rNum (List.drop (lIt b 0).fst.fst l) (lIt b 0).fst.snd 255).snd.fst) l_1) (rNum (List.drop (lIt b 0).fst.fst l) (lIt b 0).fst.snd 255).snd.snd 1099511627776).fst
 (rNum
 (List.drop ((lIt b 0).fst.fst + (rNum (List.drop (lIt b 0).fst.fst l) (lIt b 0).fst.snd 255).snd.fst + (rNum (List.drop ((lIt b 0).fst.fst + (rNum (List.drop (lIt b 0).fst.fst l) (lIt b 0).fst.snd 255).snd.fst) l_1) (rNum (List.drop (lIt b 0).fst.fst l) (lIt b 0).fst.snd 255).snd.snd 1099511627776).snd.fst) l_2)
 (rNum (List.drop ((lIt b 0).fst.fst + (rNum (List.drop (lIt b 0).fst.fst l) (lIt b 0).fst.snd 255).snd.fst) l_1) (rNum (List.drop (lIt b 0).fst.fst l) (lIt b 0).fst.snd 255).snd.snd 1099511627776).snd.snd 63).fst !=
 0) =
 true →
 K (V.tup [V.agg [V.any (Value.map none)], V.sb false]) []) ∧
 ((putE [] (rNum (List.drop (lIt b 0).fst.fst l) (lIt b 0).fst.snd 255).fst (rNum (List.drop ((lIt b 0).fst.fst + (rNum (List.drop (lIt b 0).fst.fst l) (lIt b 0).fst.snd 255).snd.fst) l_1) (rNum (List.drop (lIt b 0).fst.fst l) (lIt b 0).fst.snd 255).snd.snd 1099511627776).fst
 (rNum
 (List.drop ((lIt b 0).fst.fst + (rNum (List.drop (lIt b 0).fst.fst l) (lIt b 0).fst.snd 255).snd.fst + (rNum (List.drop ((lIt b 0).fst.fst + (rNum (List.drop (lIt b 0).fst.fst l) (lIt b 0).fst.snd 255).snd.fst) l_1) (rNum (List.drop (lIt b 0).fst.fst l) (lIt b 0).fst.snd 255).snd.snd 1099511627776).snd.fst) l_2)
 (rNum (List.drop ((lIt b 0).fst.fst + (rNum (List.drop (lIt b 0).fst.fst l) (lIt b 0).fst.snd 255).snd.fst) l_1) (rNum (List.drop (lIt b 0).fst.fst l) (lIt b 0).fst.snd 255).snd.snd 1099511627776).snd.snd 63).fst !=
 0) =
 false →
 Nx (ldLI b) (Sum.inl a)
 ([V.ptr 0 0, V.ptr 1 0, V.int IntKind.i64 (rNum (List.drop (lIt b 0).fst.fst l) (lIt b 0).fst.snd 255).fst, V.ptr 2 0, V.int IntKind.i64 (↑(lc b) : Int), V.int IntKind.i64 1],
 [KO.cells [V.any (Value.map none)],
 KO.cells
 [V.sl 3
 ((lIt b 0).fst.fst + (rNum (List.drop (lIt b 0).fst.fst l) (lIt b 0).fst.snd 255).snd.fst + (rNum (List.drop ((lIt b 0).fst.fst + (rNum (List.drop (lIt b 0).fst.fst l) (lIt b 0).fst.snd 255).snd.fst) l_1) (rNum (List.drop (lIt b 0).fst.fst l) (lIt b 0).fst.snd 255).snd.snd 1099511627776).snd.fst +
 (rNum
 (List.drop
 ((lIt b 0).fst.fst + (rNum (List.drop (lIt b 0).fst.fst l) (lIt b 0).fst.snd 255).snd.fst + (rNum (List.drop ((lIt b 0).fst.fst + (rNum (List.drop (lIt b 0).fst.fst l) (lIt b 0).fst.snd 255).snd.fst) l_1) (rNum (List.drop (lIt b 0).fst.fst l) (lIt b 0).fst.snd 255).snd.snd 1099511627776).snd.fst) l_2)
 (rNum (List.drop ((lIt b 0).fst.fst + (rNum (List.drop (lIt b 0).fst.fst l) (lIt b 0).fst.snd 255).snd.fst) l_1) (rNum (List.drop (lIt b 0).fst.fst l) (lIt b 0).fst.snd 255).snd.snd 1099511627776).snd.snd 63).snd.fst)
 l_2.length,
 V.int IntKind.i64
 (rNum
 (List.drop
 ((lIt b 0).fst.fst + (rNum (List.drop (lIt b 0).fst.fst l) (lIt b 0).fst.snd 255).snd.fst + (rNum (List.drop ((lIt b 0).fst.fst + (rNum (List.drop (lIt b 0).fst.fst l) (lIt b 0).fst.snd 255).snd.fst) l_1) (rNum (List.drop (lIt b 0).fst.fst l) (lIt b 0).fst.snd 255).snd.snd 1099511627776).snd.fst) l_2)
 (rNum (List.drop ((lIt b 0).fst.fst + (rNum (List.drop (lIt b 0).fst.fst l) (lIt b 0).fst.snd 255).snd.fst) l_1) (rNum (List.drop (lIt b 0).fst.fst l) (lIt b 0).fst.snd 255).snd.snd 1099511627776).snd.snd 63).snd.snd],
 KO.cells [V.any (Value.map none)], KO.row 5 1 (ints IntKind.u8 l_2)]))) ∧
 (EqZ
 (putE [] (rNum (List.drop (lIt b 0).fst.fst l) (lIt b 0).fst.snd 255).fst (rNum (List.drop ((lIt b 0).fst.fst + (rNum (List.drop (lIt b 0).fst.fst l) (lIt b 0).fst.snd 255).snd.fst) l_1) (rNum (List.drop (lIt b 0).fst.fst l) (lIt b 0).fst.snd 255).snd.snd 1099511627776).fst
 (rNum (List.drop ((lIt b 0).fst.fst + (rNum (List.drop (lIt b 0).fst.fst l) (lIt b 0).fst.snd 255).snd.fst + (rNum (List.drop ((lIt b 0).fst.fst + (rNum (List.drop (lIt b 0).fst.fst l) (lIt b 0).fst.snd 255).snd.fst) l_1) (rNum (List.drop (lIt b 0).fst.fst l) (lIt b 0).fst.snd 255).snd.snd 1099511627776).snd.fst) l_2)
 (rNum (List.drop ((lIt b 0).fst.fst + (rNum (List.drop (lIt b 0).fst.fst l) (lIt b 0).fst.snd 255).snd.fst) l_1) (rNum (List.drop (lIt b 0).fst.fst l) (lIt b 0).fst.snd 255).snd.snd 1099511627776).snd.snd 63).fst) →
 (false = true → K (V.tup [V.agg [V.any (Value.map none)], V.sb false]) []) ∧
 (false = false →
 Nx (ldLI b) (Sum.inl a)
 ([V.ptr 0 0, V.ptr 1 0, V.int IntKind.i64 (rNum (List.drop (lIt b 0).fst.fst l) (lIt b 0).fst.snd 255).fst, V.ptr 2 0, V.int IntKind.i64 (↑(lc b) : Int), V.int IntKind.i64 1],
 [KO.cells [V.any (Value.map none)],
 KO.cells
 [V.sl 3
 ((lIt b 0).fst.fst + (rNum (List.drop (lIt b 0).fst.fst l) (lIt b 0).fst.snd 255).snd.fst + (rNum (List.drop ((lIt b 0).fst.fst + (rNum (List.drop (lIt b 0).fst.fst l) (lIt b 0).fst.snd 255).snd.fst) l_1) (rNum (List.drop (lIt b 0).fst.fst l) (lIt b 0).fst.snd 255).snd.snd 1099511627776).snd.fst +
 (rNum
 (List.drop
 ((lIt b 0).fst.fst + (rNum (List.drop (lIt b 0).fst.fst l) (lIt b 0).fst.snd 255).snd.fst + (rNum (List.drop ((lIt b 0).fst.fst + (rNum (List.drop (lIt b 0).fst.fst l) (lIt b 0).fst.snd 255).snd.fst) l_1) (rNum (List.drop (lIt b 0).fst.fst l) (lIt b 0).fst.snd 255).snd.snd 1099511627776).snd.fst) l_2)
 (rNum (List.drop ((lIt b 0).fst.fst + (rNum (List.drop (lIt b 0).fst.fst l) (lIt b 0).fst.snd 255).snd.fst) l_1) (rNum (List.drop (lIt b 0).fst.fst l) (lIt b 0).fst.snd 255).snd.snd 1099511627776).snd.snd 63).snd.fst)
 l_2.length,
 V.int IntKind.i64
 (rNum
 (List.drop
 ((lIt b 0).fst.fst + (rNum (List.drop (lIt b 0).fst.fst l) (lIt b 0).fst.snd 255).snd.fst + (rNum (List.drop ((lIt b 0).fst.fst + (rNum (List.drop (lIt b 0).fst.fst l) (lIt b 0).fst.snd 255).snd.fst) l_1) (rNum (List.drop (lIt b 0).fst.fst l) (lIt b 0).fst.snd 255).snd.snd 1099511627776).snd.fst) l_2)
 (rNum (List.drop ((lIt b 0).fst.fst + (rNum (List.drop (lIt b 0).fst.fst l) (lIt b 0).fst.snd 255).snd.fst) l_1) (rNum (List.drop (lIt b 0).fst.fst l) (lIt b 0).fst.snd 255).snd.snd 1099511627776).snd.snd 63).snd.snd],
 KO.cells [V.mp 4], KO.row 5 1 (ints IntKind.u8 l_2),
 KO.mp [IntKind.i64] false true 2
 [([(rNum (List.drop (lIt b 0).fst.fst l) (lIt b 0).fst.snd 255).fst],
 [dn IntKind.i64 (rNum (List.drop ((lIt b 0).fst.fst + (rNum (List.drop (lIt b 0).fst.fst l) (lIt b 0).fst.snd 255).snd.fst) l_1) (rNum (List.drop (lIt b 0).fst.fst l) (lIt b 0).fst.snd 255).snd.snd 1099511627776).fst,
 dn IntKind.i64
 (rNum
 (List.drop
 ((lIt b 0).fst.fst + (rNum (List.drop (lIt b 0).fst.fst l) (lIt b 0).fst.snd 255).snd.fst + (rNum (List.drop ((lIt b 0).fst.fst + (rNum (List.drop (lIt b 0).fst.fst l) (lIt b 0).fst.snd 255).snd.fst) l_1) (rNum (List.drop (lIt b 0).fst.fst l) (lIt b 0).fst.snd 255).snd.snd 1099511627776).snd.fst) l_2)
 (rNum (List.drop ((lIt b 0).fst.fst + (rNum (List.drop (lIt b 0).fst.fst l) (lIt b 0).fst.snd 255).snd.fst) l_1) (rNum (List.drop (lIt b 0).fst.fst l) (lIt b 0).fst.snd 255).snd.snd 1099511627776).snd.snd 63).fst])]])))))) ∧
 (decide (0 < (↑(lc b) : Int)) = false →
 ∃ (l : List Int), ints IntKind.u8 b = ints IntKind.u8 l ∧ b.length = l.length ∧ ((rEnd (List.drop (lIt b 0).fst.fst l) (lIt b 0).fst.snd != 0) = true → K (V.tup [V.agg [V.any (Value.map none)], V.sb false]) []) ∧ ((rEnd (List.drop (lIt b 0).fst.fst l) (lIt b 0).fst.snd != 0) = false → K (V.tup [V.agg [V.any (Value.map none)], V.sb true]) []))) ∧
 ∀ (a : { p : Nat × ML // LdI b p.fst p.snd }),
 (decide ((↑a.val.fst : Int) < (↑(lc b) : Int)) = true →
 ∃ (l : List Int),
 ints IntKind.u8 b = ints IntKind.u8 l ∧
 b.length = l.length ∧
 (lIt b a.val.fst).fst.fst ≤ l.length ∧
 (∀ (c : Int), List.Mem c l → 0 ≤ c ∧ c < 256) ∧
 l.length ≤ 10000000 ∧
 ∃ (l_1 : List Int),
 ints IntKind.u8 l = ints IntKind.u8 l_1 ∧
 l.length = l_1.length ∧
 (lIt b a.val.fst).fst.fst + (rNum (List.drop (lIt b a.val.fst).fst.fst l) 0 255).snd.fst ≤ l_1.length ∧
 (∀ (c : Int), List.Mem c l_1 → 0 ≤ c ∧ c < 256) ∧
 l_1.length ≤ 10000000 ∧
 ∃ (l_2 : List Int),
 ints IntKind.u8 l_1 = ints IntKind.u8 l_2 ∧
 l_1.length = l_2.length ∧
 (lIt b a.val.fst).fst.fst + (rNum (List.drop (lIt b a.val.fst).fst.fst l) 0 255).snd.fst + (rNum (List.drop ((lIt b a.val.fst).fst.fst + (rNum (List.drop (lIt b a.val.fst).fst.fst l) 0 255).snd.fst) l_1) (rNum (List.drop (lIt b a.val.fst).fst.fst l) 0 255).snd.snd 1099511627776).snd.fst ≤ l_2.length ∧
 (∀ (c : Int), List.Mem c l_2 → 0 ≤ c ∧ c < 256) ∧
 l_2.length ≤ 10000000 ∧
 (((rNum (List.drop ((lIt b a.val.fst).fst.fst + (rNum (List.drop (lIt b a.val.fst).fst.fst l) 0 255).snd.fst + (rNum (List.drop ((lIt b a.val.fst).fst.fst + (rNum (List.drop (lIt b a.val.fst).fst.fst l) 0 255).snd.fst) l_1) (rNum (List.drop (lIt b a.val.fst).fst.fst l) 0 255).snd.snd 1099511627776).snd.fst) l_2)
 (rNum (List.drop ((lIt b a.val.fst).fst.fst + (rNum (List.drop (lIt b a.val.fst).fst.fst l) 0 255).snd.fst) l_1) (rNum (List.drop (lIt b a.val.fst).fst.fst l) 0 255).snd.snd 1099511627776).snd.snd 63).snd.snd !=
 0) =
 true →
 K (V.tup [V.agg [V.any (Value.map none)], V.sb false]) []) ∧
 (((rNum (List.drop ((lIt b a.val.fst).fst.fst + (rNum (List.drop (lIt b a.val.fst).fst.fst l) 0 255).snd.fst + (rNum (List.drop ((lIt b a.val.fst).fst.fst + (rNum (List.drop (lIt b a.val.fst).fst.fst l) 0 255).snd.fst) l_1) (rNum (List.drop (lIt b a.val.fst).fst.fst l) 0 255).snd.snd 1099511627776).snd.fst) l_2)
 (rNum (List.drop ((lIt b a.val.fst).fst.fst + (rNum (List.drop (lIt b a.val.fst).fst.fst l) 0 255).snd.fst) l_1) (rNum (List.drop (lIt b a.val.fst).fst.fst l) 0 255).snd.snd 1099511627776).snd.snd 63).snd.snd !=
 0) =
 false →
 (decide ((rNum (List.drop (lIt b a.val.fst).fst.fst l) 0 255).fst ≤ lastC (lIt b a.val.fst).snd) = true → K (V.tup [V.agg [V.any (Value.map none)], V.sb false]) []) ∧
 (decide ((rNum (List.drop (lIt b a.val.fst).fst.fst l) 0 255).fst ≤ lastC (lIt b a.val.fst).snd) = false →
 ∃ (x : List L3),
 Tab a.val.snd x ∧
 (NeZ
 (putE x (rNum (List.drop (lIt b a.val.fst).fst.fst l) 0 255).fst (rNum (List.drop ((lIt b a.val.fst).fst.fst + (rNum (List.drop (lIt b a.val.fst).fst.fst l) 0 255).snd.fst) l_1) (rNum (List.drop (lIt b a.val.fst).fst.fst l) 0 255).snd.snd 1099511627776).fst
 (rNum (List.drop ((lIt b a.val.fst).fst.fst + (rNum (List.drop (lIt b a.val.fst).fst.fst l) 0 255).snd.fst + (rNum (List.drop ((lIt b a.val.fst).fst.fst + (rNum (List.drop (lIt b a.val.fst).fst.fst l) 0 255).snd.fst) l_1) (rNum (List.drop (lIt b a.val.fst).fst.fst l) 0 255).snd.snd 1099511627776).snd.fst) l_2)
 (rNum (List.drop ((lIt b a.val.fst).fst.fst + (rNum (List.drop (lIt b a.val.fst).fst.fst l) 0 255).snd.fst) l_1) (rNum (List.drop (lIt b a.val.fst).fst.fst l) 0 255).snd.snd 1099511627776).snd.snd 63).fst) →
 ((putE x (rNum (List.drop (lIt b a.val.fst).fst.fst l) 0 255).fst (rNum (List.drop ((lIt b a.val.fst).fst.fst + (rNum (List.drop (lIt b a.val.fst).fst.fst l) 0 255).snd.fst) l_1) (rNum (List.drop (lIt b a.val.fst).fst.fst l) 0 255).snd.snd 1099511627776).fst
 (rNum (List.drop ((lIt b a.val.fst).fst.fst + (rNum (List.drop (lIt b a.val.fst).fst.fst l) 0 255).snd.fst + (rNum (List.drop ((lIt b a.val.fst).fst.fst + (rNum (List.drop (lIt b a.val.fst).fst.fst l) 0 255).snd.fst) l_1) (rNum (List.drop (lIt b a.val.fst).fst.fst l) 0 255).snd.snd 1099511627776).snd.fst) l_2)
 (rNum (List.drop ((lIt b a.val.fst).fst.fst + (rNum (List.drop (lIt b a.val.fst).fst.fst l) 0 255).snd.fst) l_1) (rNum (List.drop (lIt b a.val.fst).fst.fst l) 0 255).snd.snd 1099511627776).snd.snd 63).fst !=
 0) =
 true →
 K (V.tup [V.agg [V.any (Value.map none)], V.sb false]) []) ∧
 ((putE x (rNum (List.drop (lIt b a.val.fst).fst.fst l) 0 255).fst (rNum (List.drop ((lIt b a.val.fst).fst.fst + (rNum (List.drop (lIt b a.val.fst).fst.fst l) 0 255).snd.fst) l_1) (rNum (List.drop (lIt b a.val.fst).fst.fst l) 0 255).snd.snd 1099511627776).fst
 (rNum (List.drop ((lIt b a.val.fst).fst.fst + (rNum (List.drop (lIt b a.val.fst).fst.fst l) 0 255).snd.fst + (rNum (List.drop ((lIt b a.val.fst).fst.fst + (rNum (List.drop (lIt b a.val.fst).fst.fst l) 0 255).snd.fst) l_1) (rNum (List.drop (lIt b a.val.fst).fst.fst l) 0 255).snd.snd 1099511627776).snd.fst) l_2)
 (rNum (List.drop ((lIt b a.val.fst).fst.fst + (rNum (List.drop (lIt b a.val.fst).fst.fst l) 0 255).snd.fst) l_1) (rNum (List.drop (lIt b a.val.fst).fst.fst l) 0 255).snd.snd 1099511627776).snd.snd 63).fst !=
 0) =
 false →
 Nx (ldLI b) (Sum.inr a)
 ([V.ptr 0 0, V.ptr 1 0, V.int IntKind.i64 (rNum (List.drop (lIt b a.val.fst).fst.fst l) 0 255).fst, V.ptr 2 0, V.int IntKind.i64 (↑(lc b) : Int), V.int IntKind.i64 (IntKind.i64.wrap ((↑a.val.fst : Int) + 1))],
 [KO.cells [V.any (Value.map none)],
 KO.cells
 [V.sl 3
 ((lIt b a.val.fst).fst.fst + (rNum (List.drop (lIt b a.val.fst).fst.fst l) 0 255).snd.fst + (rNum (List.drop ((lIt b a.val.fst).fst.fst + (rNum (List.drop (lIt b a.val.fst).fst.fst l) 0 255).snd.fst) l_1) (rNum (List.drop (lIt b a.val.fst).fst.fst l) 0 255).snd.snd 1099511627776).snd.fst +
 (rNum
 (List.drop ((lIt b a.val.fst).fst.fst + (rNum (List.drop (lIt b a.val.fst).fst.fst l) 0 255).snd.fst + (rNum (List.drop ((lIt b a.val.fst).fst.fst + (rNum (List.drop (lIt b a.val.fst).fst.fst l) 0 255).snd.fst) l_1) (rNum (List.drop (lIt b a.val.fst).fst.fst l) 0 255).snd.snd 1099511627776).snd.fst)
 l_2)
 (rNum (List.drop ((lIt b a.val.fst).fst.fst + (rNum (List.drop (lIt b a.val.fst).fst.fst l) 0 255).snd.fst) l_1) (rNum (List.drop (lIt b a.val.fst).fst.fst l) 0 255).snd.snd 1099511627776).snd.snd 63).snd.fst)
 l_2.length,
 V.int IntKind.i64
 (rNum
 (List.drop ((lIt b a.val.fst).fst.fst + (rNum (List.drop (lIt b a.val.fst).fst.fst l) 0 255).snd.fst + (rNum (List.drop ((lIt b a.val.fst).fst.fst + (rNum (List.drop (lIt b a.val.fst).fst.fst l) 0 255).snd.fst) l_1) (rNum (List.drop (lIt b a.val.fst).fst.fst l) 0 255).snd.snd 1099511627776).snd.fst)
 l_2)
 (rNum (List.drop ((lIt b a.val.fst).fst.fst + (rNum (List.drop (lIt b a.val.fst).fst.fst l) 0 255).snd.fst) l_1) (rNum (List.drop (lIt b a.val.fst).fst.fst l) 0 255).snd.snd 1099511627776).snd.snd 63).snd.snd],
 KO.cells [V.mp 4], KO.row 5 1 (ints IntKind.u8 l_2), KO.mp [IntKind.i64] false true 2 a.val.snd]))) ∧
 (EqZ
 (putE x (rNum (List.drop (lIt b a.val.fst).fst.fst l) 0 255).fst (rNum (List.drop ((lIt b a.val.fst).fst.fst + (rNum (List.drop (lIt b a.val.fst).fst.fst l) 0 255).snd.fst) l_1) (rNum (List.drop (lIt b a.val.fst).fst.fst l) 0 255).snd.snd 1099511627776).fst
 (rNum (List.drop ((lIt b a.val.fst).fst.fst + (rNum (List.drop (lIt b a.val.fst).fst.fst l) 0 255).snd.fst + (rNum (List.drop ((lIt b a.val.fst).fst.fst + (rNum (List.drop (lIt b a.val.fst).fst.fst l) 0 255).snd.fst) l_1) (rNum (List.drop (lIt b a.val.fst).fst.fst l) 0 255).snd.snd 1099511627776).snd.fst) l_2)
 (rNum (List.drop ((lIt b a.val.fst).fst.fst + (rNum (List.drop (lIt b a.val.fst).fst.fst l) 0 255).snd.fst) l_1) (rNum (List.drop (lIt b a.val.fst).fst.fst l) 0 255).snd.snd 1099511627776).snd.snd 63).fst) →
 (false = true → K (V.tup [V.agg [V.any (Value.map none)], V.sb false]) []) ∧
 (false = false →
 Nx (ldLI b) (Sum.inr a)
 ([V.ptr 0 0, V.ptr 1 0, V.int IntKind.i64 (rNum (List.drop (lIt b a.val.fst).fst.fst l) 0 255).fst, V.ptr 2 0, V.int IntKind.i64 (↑(lc b) : Int), V.int IntKind.i64 (IntKind.i64.wrap ((↑a.val.fst : Int) + 1))],
 [KO.cells [V.any (Value.map none)],
 KO.cells
 [V.sl 3
 ((lIt b a.val.fst).fst.fst + (rNum (List.drop (lIt b a.val.fst).fst.fst l) 0 255).snd.fst + (rNum (List.drop ((lIt b a.val.fst).fst.fst + (rNum (List.drop (lIt b a.val.fst).fst.fst l) 0 255).snd.fst) l_1) (rNum (List.drop (lIt b a.val.fst).fst.fst l) 0 255).snd.snd 1099511627776).snd.fst +
 (rNum
 (List.drop ((lIt b a.val.fst).fst.fst + (rNum (List.drop (lIt b a.val.fst).fst.fst l) 0 255).snd.fst + (rNum (List.drop ((lIt b a.val.fst).fst.fst + (rNum (List.drop (lIt b a.val.fst).fst.fst l) 0 255).snd.fst) l_1) (rNum (List.drop (lIt b a.val.fst).fst.fst l) 0 255).snd.snd 1099511627776).snd.fst)
 l_2)
 (rNum (List.drop ((lIt b a.val.fst).fst.fst + (rNum (List.drop (lIt b a.val.fst).fst.fst l) 0 255).snd.fst) l_1) (rNum (List.drop (lIt b a.val.fst).fst.fst l) 0 255).snd.snd 1099511627776).snd.snd 63).snd.fst)
 l_2.length,
 V.int IntKind.i64
 (rNum
 (List.drop ((lIt b a.val.fst).fst.fst + (rNum (List.drop (lIt b a.val.fst).fst.fst l) 0 255).snd.fst + (rNum (List.drop ((lIt b a.val.fst).fst.fst + (rNum (List.drop (lIt b a.val.fst).fst.fst l) 0 255).snd.fst) l_1) (rNum (List.drop (lIt b a.val.fst).fst.fst l) 0 255).snd.snd 1099511627776).snd.fst)
 l_2)
 (rNum (List.drop ((lIt b a.val.fst).fst.fst + (rNum (List.drop (lIt b a.val.fst).fst.fst l) 0 255).snd.fst) l_1) (rNum (List.drop (lIt b a.val.fst).fst.fst l) 0 255).snd.snd 1099511627776).snd.snd 63).snd.snd],
 KO.cells [V.mp 4], KO.row 5 1 (ints IntKind.u8 l_2),
 KO.mp [IntKind.i64] false true 2
 (mset a.val.snd [(rNum (List.drop (lIt b a.val.fst).fst.fst l) 0 255).fst]
 [dn IntKind.i64 (rNum (List.drop ((lIt b a.val.fst).fst.fst + (rNum (List.drop (lIt b a.val.fst).fst.fst l) 0 255).snd.fst) l_1) (rNum (List.drop (lIt b a.val.fst).fst.fst l) 0 255).snd.snd 1099511627776).fst,
 dn IntKind.i64
 (rNum
 (List.drop ((lIt b a.val.fst).fst.fst + (rNum (List.drop (lIt b a.val.fst).fst.fst l) 0 255).snd.fst + (rNum (List.drop ((lIt b a.val.fst).fst.fst + (rNum (List.drop (lIt b a.val.fst).fst.fst l) 0 255).snd.fst) l_1) (rNum (List.drop (lIt b a.val.fst).fst.fst l) 0 255).snd.snd 1099511627776).snd.fst)
 l_2)
 (rNum (List.drop ((lIt b a.val.fst).fst.fst + (rNum (List.drop (lIt b a.val.fst).fst.fst l) 0 255).snd.fst) l_1) (rNum (List.drop (lIt b a.val.fst).fst.fst l) 0 255).snd.snd 1099511627776).snd.snd 63).fst])])))))) ∧
 (decide ((↑a.val.fst : Int) < (↑(lc b) : Int)) = false →
 ∃ (l : List Int), ints IntKind.u8 b = ints IntKind.u8 l ∧ b.length = l.length ∧ ((rEnd (List.drop (lIt b a.val.fst).fst.fst l) 0 != 0) = true → K (V.tup [V.agg [V.any (Value.map none)], V.sb false]) []) ∧ ((rEnd (List.drop (lIt b a.val.fst).fst.fst l) 0 != 0) = false → K (V.tup [V.agg [V.mp 0], V.sb true]) [KO.mp [IntKind.i64] false true 2 a.val.snd]))
 ) : runSpec Try.prog XDv (ldT b 11) 11 [.dat (.sl 1 (ints .u8 b))] [] (tidyRes 0 K) := Eq.mp (by kernel_rfl) hvc_
/-! Putting into a table. -/
theorem mset_perm : ∀ {M : ML} {k : List Int} {v : List D}, (M.map (·.1)).Nodup → (mset M k v).Perm ((k, v) :: M.filter (fun e => decide (e.1 ≠ k)))
  | [], k, v, _ => by simp [mset]
  | (a, c) :: M, k, v, hn => by
    simp only [List.map_cons, List.nodup_cons] at hn
    simp only [mset]
    by_cases h : k = a
    · subst h
      rw [if_pos rfl]
      have : M.filter (fun e => decide (e.1 ≠ k)) = M := by
        rw [List.filter_eq_self]
        intro e he
        simp only [decide_eq_true_eq]
        exact fun e1 => hn.1 (List.mem_map.2 ⟨e, he, e1⟩)
      rw [List.filter_cons_of_neg (by simp), this]
    · rw [if_neg h, List.filter_cons_of_pos (by simpa using Ne.symm h)]
      exact ((mset_perm hn.2).cons (a, c)).trans (List.Perm.swap _ _ _)
theorem putL_perm {x : List L3} {c n e : Int} : (putL x c n e).Perm ((c, n, e) :: x.filter (fun p => decide (p.1 ≠ c))) := by
  have h1 := List.filter_append_perm (fun p : L3 => decide (p.1 < c)) (x.filter (fun p => decide (p.1 ≠ c)))
  have e1 : (x.filter (fun p => decide (p.1 ≠ c))).filter (fun p : L3 => decide (p.1 < c)) = x.filter (fun p => decide (p.1 < c)) := by
    rw [List.filter_filter]
    apply List.filter_congr
    intro p _
    by_cases h : p.1 < c
    · have : p.1 ≠ c := by omega
      simp [h, this]
    · simp [h]
  have e2 : (x.filter (fun p => decide (p.1 ≠ c))).filter (fun p : L3 => !decide (p.1 < c)) = x.filter (fun p => decide (c < p.1)) := by
    rw [List.filter_filter]
    apply List.filter_congr
    intro p _
    by_cases h : c < p.1
    · have h1 : p.1 ≠ c := by omega
      have h2 : ¬ p.1 < c := by omega
      simp [h, h1, h2]
    · by_cases h2 : p.1 = c
      · simp [h2]
      · have h3 : p.1 < c := by omega
        simp [h, h3]
  rw [e1, e2] at h1
  unfold putL
  exact (List.perm_middle).trans (h1.cons _)
theorem putE_0 {x : List L3} {c n e : Int} (h : putE x c n e = 0) : (0 ≤ c ∧ c ≤ 255 ∧ 1 ≤ n ∧ n ≤ 1099511627776 ∧ 0 ≤ e ∧ e ≤ 63) ∧ (numA x c = none → x.length < 32) := by
  unfold putE at h
  split at h
  · cases h
  · rename_i hg
    refine ⟨by omega, fun hn => ?_⟩
    rw [hn] at h
    simp only at h
    split at h
    · cases h
    · omega
theorem numA_none {x : List L3} {c : Int} (h : ∀ p ∈ x, p.1 ≠ c) : numA x c = none := by
  unfold numA
  rw [at_non (fun j hj => h _ (g3_mem hj))]; rfl
theorem tab_put {M : ML} {x : List L3} {c n e : Int} (h : Tab M x) (h0 : putE x c n e = 0) : Tab (mset M [c] [dn .i64 n, dn .i64 e]) (putL x c n e) := by
  obtain ⟨hr, hn⟩ := putE_0 h0
  have hp : (putL x c n e).Perm ((c, n, e) :: x.filter (fun p => decide (p.1 ≠ c))) := putL_perm
  refine ⟨?_, ?_, fun p hpm => ?_, ?_⟩
  · have h1 := mset_perm (M := M) (k := [c]) (v := [dn .i64 n, dn .i64 e]) (tab_nd h)
    have h2 : (M.filter (fun q => decide (q.1 ≠ [c]))).Perm ((x.map ent).filter (fun q => decide (q.1 ≠ [c]))) := h.perm.filter _
    have h3 : (x.map ent).filter (fun q => decide (q.1 ≠ [c])) = (x.filter (fun p => decide (p.1 ≠ c))).map ent := by
      rw [List.filter_map]
      congr 1
      apply List.filter_congr
      intro p _
      simp [ent]
    rw [h3] at h2
    have h4 := (hp.map ent).symm
    exact (h1.trans (h2.cons _)).trans h4
  · unfold putL
    refine List.pairwise_append.2 ⟨h.inc.filter _, List.pairwise_cons.2 ⟨fun q hq => ?_, h.inc.filter _⟩, fun a ha b hb => ?_⟩
    · have := (List.mem_filter.1 hq).2
      simp only [decide_eq_true_eq] at this
      exact this
    · have h1 := (List.mem_filter.1 ha).2
      simp only [decide_eq_true_eq] at h1
      rcases List.mem_cons.1 hb with rfl | hb
      · exact h1
      · have h2 := (List.mem_filter.1 hb).2
        simp only [decide_eq_true_eq] at h2
        omega
  · rcases List.mem_cons.1 (hp.mem_iff.1 hpm) with rfl | h1
    · exact hr
    · exact h.rg p (List.mem_filter.1 h1).1
  · rw [hp.length_eq, List.length_cons]
    have h1 := List.length_filter_le (fun p : L3 => decide (p.1 ≠ c)) x
    cases hq : numA x c with
    | none => have := hn hq; omega
    | some q =>
      have h2 : ∃ p ∈ x, p.1 = c := by
        unfold numA at hq
        cases hc : atI x c with
        | none => rw [hc] at hq; cases hq
        | some i => obtain ⟨k1, k2, _⟩ := at_some hc; exact ⟨_, g3_mem k1, k2⟩
      obtain ⟨p, hpx, hpc⟩ := h2
      have h3 : (x.filter (fun p : L3 => decide (p.1 ≠ c))).length < x.length := List.length_filter_lt_length_iff_exists.2 ⟨p, hpx, by simp [hpc]⟩
      have := h.len
      omega
theorem putL_snoc {x : List L3} {c n e : Int} (h : ∀ p ∈ x, p.1 < c) : putL x c n e = x ++ [(c, n, e)] := by
  unfold putL
  have e1 : x.filter (fun p => decide (p.1 < c)) = x := by
    rw [List.filter_eq_self]; intro p hp; simpa using h p hp
  have e2 : x.filter (fun p => decide (c < p.1)) = [] := by
    rw [List.filter_eq_nil_iff]; intro p hp; have := h p hp; simp; omega
  rw [e1, e2]
theorem lastC_all {x : List L3} {c : Int} (hi : x.Pairwise (fun a b => a.1 < b.1)) (h : lastC x < c) : ∀ p ∈ x, p.1 < c := fun p hp => by
  unfold lastC at h
  cases hl : x.getLast? with
  | none => rw [List.getLast?_eq_none_iff] at hl; subst hl; cases hp
  | some q =>
    rw [hl] at h
    simp only at h
    obtain ⟨y, rfl⟩ := List.getLast?_eq_some_iff.1 hl
    rcases List.mem_append.1 hp with h1 | h1
    · have := (List.pairwise_append.1 hi).2.2 p h1 q (List.mem_singleton.2 rfl); omega
    · rw [List.mem_singleton] at h1; subst h1; exact h
theorem lastC_lt {x : List L3} {c : Int} (h0 : 0 ≤ c) (h : ∀ p ∈ x, p.1 < c) : lastC x < c := by
  unfold lastC
  cases hl : x.getLast? with
  | none => simp only; omega
  | some q => exact h q (List.mem_of_getLast? hl)
theorem lastC_snoc {x : List L3} {p : L3} : lastC (x ++ [p]) = p.1 := by unfold lastC; simp
/-! Reading. -/
theorem rNum_most {l : List Int} {most : Int} (h0 : 0 ≤ most) (e : Int) : (rNum l e most).1 ≤ most ∧ 0 ≤ (rNum l e most).1 := by
  unfold rNum
  split
  · split
    · split
      · exact ⟨h0, Int.le_refl _⟩
      · exact ⟨by simp only; omega, by simp only; omega⟩
    · exact ⟨h0, Int.le_refl _⟩
    · exact ⟨h0, Int.le_refl _⟩
  · exact ⟨h0, Int.le_refl _⟩
theorem rNum0 {b : List Int} {v : Int} {u : Nat} {most : Int} (hb : Byt b) (h : rNum b 0 most = (v, u, 0)) : b = numW v ++ b.drop u ∧ u = (numW v).length ∧ 0 ≤ v ∧ v ≤ 9223372036854775807 := by
  unfold rNum at h
  rw [if_pos rfl] at h
  split at h
  · rename_i w n hn
    split at h
    · simp at h
    · simp only [Prod.mk.injEq, and_true] at h
      obtain ⟨rfl, rfl⟩ := h
      obtain ⟨h1, h2, r, h3⟩ := numR_got hb hn
      refine ⟨?_, h2, by omega, h1⟩
      have : b.drop n = r := by rw [h3, h2, List.drop_left]
      rw [this]; exact h3
  · simp at h
  · simp at h
theorem rNum_e {l : List Int} {e most : Int} (h : e ≠ 0) : rNum l e most = (0, 0, e) := by unfold rNum; rw [if_neg h]
theorem num_sk {b : List Int} {p : Nat × Int} {m : Int} (h : (numSt b p m).2 = 0) : p.2 = 0 := Classical.byContradiction fun f => by
  unfold numSt at h
  rw [rNum_e f] at h
  exact f h
theorem num_b {b : List Int} (hb : Byt b) {p : Nat × Int} (h : p.1 ≤ b.length) (m : Int) : (numSt b p m).1 ≤ b.length := by
  have := (rNum_val (byt_drop hb p.1) p.2 m).2.2
  rw [List.length_drop] at this
  unfold numSt; simp only; omega
theorem num_ok {b : List Int} (hb : Byt b) {p : Nat × Int} {m : Int} (h : (numSt b p m).2 = 0) : b.drop p.1 = numW (numAt b p m) ++ b.drop (numSt b p m).1 := by
  have hp := num_sk h
  unfold numSt at h
  simp only at h
  rw [hp] at h
  have := rNum0 (b := b.drop p.1) (v := (rNum (b.drop p.1) 0 m).1) (u := (rNum (b.drop p.1) 0 m).2.1) (most := m) (byt_drop hb _) (Prod.ext rfl (Prod.ext rfl h))
  unfold numAt numSt
  simp only
  rw [hp, ← List.drop_drop]
  exact this.1
theorem num_app {pre rest : List Int} {v m : Int} (h0 : 0 ≤ v) (h : v ≤ 9223372036854775807) (hm : v ≤ m) : numSt (pre ++ (numW v ++ rest)) (pre.length, 0) m = ((pre ++ numW v).length, 0) ∧ numAt (pre ++ (numW v ++ rest)) (pre.length, 0) m = v := by
  unfold numSt numAt
  simp only
  rw [List.drop_left, rNum_app h0 h hm, List.length_append]
  exact ⟨rfl, rfl⟩
theorem lc_i {b : List Int} : numAt b (0, 0) 32 = (lc b : Int) ∧ lc b ≤ 32 := by
  have := rNum_most (l := b.drop 0) (most := 32) (by omega) 0
  unfold lc numAt
  simp only at this ⊢
  omega
theorem lIt_b {b : List Int} (hb : Byt b) : ∀ i, (lIt b i).1.1 ≤ b.length ∧ (lIt b i).2.length = i
  | 0 => ⟨num_b hb (Nat.zero_le _) _, rfl⟩
  | i + 1 => by
    obtain ⟨h1, h2⟩ := lIt_b hb i
    exact ⟨num_b hb (num_b hb (num_b hb h1 _) _) _, by simp only [lIt, List.length_append, List.length_singleton, h2]⟩
theorem lIt_back {b : List Int} (hb : Byt b) : ∀ i, (lIt b i).1.2 = 0 → b = numW (lc b : Int) ++ (catP (lIt b i).2 ++ b.drop (lIt b i).1.1)
  | 0, h => by
    have := num_ok (p := (0, 0)) (m := 32) hb h
    rw [lc_i.1] at this
    exact this
  | i + 1, h => by
    have h3 : (s3 b (lIt b i).1).2 = 0 := h
    have h2 : (s2 b (lIt b i).1).2 = 0 := num_sk h3
    have h1 : (s1 b (lIt b i).1).2 = 0 := num_sk h2
    have h0 : (lIt b i).1.2 = 0 := num_sk h1
    have ih := lIt_back hb i h0
    have a1 := num_ok (p := (lIt b i).1) (m := 255) hb h1
    have a2 := num_ok (p := s1 b (lIt b i).1) (m := 1099511627776) hb h2
    have a3 := num_ok (p := s2 b (lIt b i).1) (m := 63) hb h3
    have e : b.drop (lIt b i).1.1 = trW (v3 b (lIt b i).1) ++ b.drop (s3 b (lIt b i).1).1 := by
      rw [a1]
      show _ ++ b.drop (s1 b (lIt b i).1).1 = _
      rw [a2]
      show _ ++ (_ ++ b.drop (s2 b (lIt b i).1).1) = _
      rw [a3]
      unfold trW v3
      simp only [List.append_assoc]
      rfl
    rw [e] at ih
    show b = numW (lc b : Int) ++ (catP ((lIt b i).2 ++ [v3 b (lIt b i).1]) ++ b.drop (s3 b (lIt b i).1).1)
    rw [catP_app, List.append_assoc]
    have e1 : catP [v3 b (lIt b i).1] = trW (v3 b (lIt b i).1) := by simp [catP]
    rw [e1]
    exact ih
theorem g3_drop {x : List L3} {i : Nat} (h : i < x.length) : x.drop i = g3 x i :: x.drop (i + 1) := by
  have h1 := List.drop_eq_getElem_cons h
  have h2 := g3_get h
  rw [List.getElem?_eq_getElem h, Option.some.injEq] at h2
  rw [h1, h2]
theorem lIt_of {x : List L3} (hx : OkX x) : lc (tabW x) = x.length ∧ ∀ i, i ≤ x.length → lIt (tabW x) i = (((tabI x i).length, 0), x.take i) := by
  have hl := hx.len
  have e0 := num_app (pre := []) (rest := catP x) (v := (x.length : Int)) (m := 32) (by omega) (by omega) (by omega)
  simp only [List.nil_append, List.length_nil] at e0
  have hc : lc (tabW x) = x.length := by
    unfold lc tabW
    rw [e0.2]; exact Int.toNat_natCast _
  refine ⟨hc, fun i => ?_⟩
  induction i with
  | zero =>
    intro _
    show (numSt (tabW x) (0, 0) 32, []) = _
    unfold tabW
    rw [e0.1, tabI_0]; rfl
  | succ i ih =>
    intro hi
    have ih := ih (by omega)
    have hr := hx.rg _ (g3_mem (show i < x.length by omega))
    have esp : tabW x = tabI x i ++ (trW (g3 x i) ++ catP (x.drop (i + 1))) := by
      have e1 : x = x.take i ++ g3 x i :: x.drop (i + 1) := by rw [← g3_drop (by omega), List.take_append_drop]
      have e2 : catP x = catP (x.take i) ++ (trW (g3 x i) ++ catP (x.drop (i + 1))) := by
        conv => lhs; rw [e1]
        rw [catP_app]; simp [catP]
      unfold tabW tabI
      rw [e2, List.append_assoc]
    have a1 := num_app (pre := tabI x i) (rest := numW (g3 x i).2.1 ++ numW (g3 x i).2.2 ++ catP (x.drop (i + 1))) (v := (g3 x i).1) (m := 255) (by omega) (by omega) (by omega)
    have a2 := num_app (pre := tabI x i ++ numW (g3 x i).1) (rest := numW (g3 x i).2.2 ++ catP (x.drop (i + 1))) (v := (g3 x i).2.1) (m := 1099511627776) (by omega) (by omega) (by omega)
    have a3 := num_app (pre := tabI x i ++ numW (g3 x i).1 ++ numW (g3 x i).2.1) (rest := catP (x.drop (i + 1))) (v := (g3 x i).2.2) (m := 63) (by omega) (by omega) (by omega)
    have f1 : tabI x i ++ (numW (g3 x i).1 ++ (numW (g3 x i).2.1 ++ numW (g3 x i).2.2 ++ catP (x.drop (i + 1)))) = tabW x := by rw [esp]; unfold trW; simp only [List.append_assoc]
    have f2 : tabI x i ++ numW (g3 x i).1 ++ (numW (g3 x i).2.1 ++ (numW (g3 x i).2.2 ++ catP (x.drop (i + 1)))) = tabW x := by rw [esp]; unfold trW; simp only [List.append_assoc]
    have f3 : tabI x i ++ numW (g3 x i).1 ++ numW (g3 x i).2.1 ++ (numW (g3 x i).2.2 ++ catP (x.drop (i + 1))) = tabW x := by rw [esp]; unfold trW; simp only [List.append_assoc]
    rw [f1] at a1
    rw [f2] at a2
    rw [f3] at a3
    have b1 : s1 (tabW x) ((tabI x i).length, 0) = ((tabI x i ++ numW (g3 x i).1).length, 0) := a1.1
    have b2 : s2 (tabW x) ((tabI x i).length, 0) = ((tabI x i ++ numW (g3 x i).1 ++ numW (g3 x i).2.1).length, 0) := by unfold s2; rw [b1]; exact a2.1
    have b3 : s3 (tabW x) ((tabI x i).length, 0) = ((tabI x (i + 1)).length, 0) := by
      unfold s3
      rw [b2, a3.1, tabI_s (by omega)]
      unfold trW
      simp only [List.append_assoc]
    have bv : v3 (tabW x) ((tabI x i).length, 0) = g3 x i := by
      unfold v3
      rw [b1, b2, a1.2, a2.2, a3.2]
    show (s3 (tabW x) (lIt (tabW x) i).1, (lIt (tabW x) i).2 ++ [v3 (tabW x) (lIt (tabW x) i).1]) = _
    rw [ih]
    simp only
    rw [b3, bv, ← g3_take (by omega)]
/-- What the next entry is, where the bytes are a table's. -/
theorem next_ok {x : List L3} (hx : OkX x) {i : Nat} (hi : i < lc (tabW x)) : (s3 (tabW x) (lIt (tabW x) i).1).2 = 0 ∧ lastC (lIt (tabW x) i).2 < (v3 (tabW x) (lIt (tabW x) i).1).1 ∧
    putE (lIt (tabW x) i).2 (v3 (tabW x) (lIt (tabW x) i).1).1 (v3 (tabW x) (lIt (tabW x) i).1).2.1 (v3 (tabW x) (lIt (tabW x) i).1).2.2 = 0 := by
  obtain ⟨h1, h2⟩ := lIt_of hx
  rw [h1] at hi
  have e1 := h2 (i + 1) (by omega)
  have e0 := h2 i (by omega)
  have e2 : (s3 (tabW x) (lIt (tabW x) i).1, (lIt (tabW x) i).2 ++ [v3 (tabW x) (lIt (tabW x) i).1]) = (((tabI x (i + 1)).length, (0 : Int)), x.take (i + 1)) := e1
  rw [Prod.mk.injEq] at e2
  have ev : v3 (tabW x) (lIt (tabW x) i).1 = g3 x i := by
    have e3 := e2.2
    rw [e0, g3_take hi] at e3
    simp only at e3
    have e4 := List.append_cancel_left e3
    simp only [List.cons.injEq, and_true] at e4
    rw [e0]; exact e4
  have hr := hx.rg _ (g3_mem hi)
  have hlt : ∀ p ∈ x.take i, p.1 < (g3 x i).1 := fun p hp => by
    obtain ⟨j, hj, rfl⟩ := List.getElem_of_mem hp
    rw [List.length_take] at hj
    have e5 := g3_get (show j < x.length by omega)
    rw [List.getElem?_eq_getElem (show j < x.length by omega), Option.some.injEq] at e5
    rw [List.getElem_take, e5]
    exact inc_lt hx.inc (by omega) hi
  refine ⟨by rw [e2.1], ?_, ?_⟩
  · rw [ev, e0]
    exact lastC_lt hr.1 hlt
  · rw [ev, e0]
    simp only
    unfold putE
    rw [if_neg (by omega), numA_none (fun p hp => by have := hlt p hp; omega)]
    simp only
    rw [if_neg (by rw [List.length_take]; have := hx.len; omega)]
theorem bne_t {a : Int} (h : (a != 0) = true) : a ≠ 0 := by simpa using h
theorem bne_f {a : Int} (h : (a != 0) = false) : a = 0 := by simpa using h
theorem rEnd_0 {l : List Int} {e : Int} (h : rEnd l e = 0) : e = 0 ∧ l = [] := by
  unfold rEnd at h
  split at h
  · omega
  · rename_i hh
    refine ⟨h, ?_⟩
    by_cases hd : l = []
    · exact hd
    · exact absurd ⟨hd, h⟩ hh
theorem fin_ok {x : List L3} (hx : OkX x) : rEnd ((tabW x).drop (lIt (tabW x) (lc (tabW x))).1.1) (lIt (tabW x) (lc (tabW x))).1.2 = 0 := by
  obtain ⟨h1, h2⟩ := lIt_of hx
  rw [h1, h2 _ (Nat.le_refl _), tabI_all]
  show rEnd ((tabW x).drop (tabW x).length) 0 = 0
  rw [List.drop_length]; rfl
theorem fin_back {b : List Int} (hb : Byt b) (h : rEnd (b.drop (lIt b (lc b)).1.1) (lIt b (lc b)).1.2 = 0) : b = tabW (lIt b (lc b)).2 := by
  obtain ⟨h1, h2⟩ := rEnd_0 h
  have := lIt_back hb _ h1
  rw [h2, List.append_nil] at this
  unfold tabW
  rw [(lIt_b hb (lc b)).2]
  exact this
theorem okLoad : SpecOk Try.prog 11 SLoad := specOk_tidy XDv_ok mixed (fun args kb K h => by
  unfold SLoad at h; split at h <;> try exact h.elim
  obtain ⟨b, rfl, hb, hl, hno, hnil, hyes⟩ := h
  obtain ⟨c1, c2⟩ := lc_i (b := b)
  have bad : ∀ i, i < lc b → ¬ ((s3 b (lIt b i).1).2 = 0 ∧ lastC (lIt b i).2 < (v3 b (lIt b i).1).1 ∧ putE (lIt b i).2 (v3 b (lIt b i).1).1 (v3 b (lIt b i).1).2.1 (v3 b (lIt b i).1).2.2 = 0) → K (.tup [.agg [.any (.map none)], .sb false]) [] := fun i hi hn => hno (by
    rintro ⟨x, hx, rfl⟩
    exact hn (next_ok hx hi))
  have badE : rEnd (b.drop (lIt b (lc b)).1.1) (lIt b (lc b)).1.2 ≠ 0 → K (.tup [.agg [.any (.map none)], .sb false]) [] := fun hn => hno (by
    rintro ⟨x, hx, rfl⟩
    exact hn (fin_ok hx))
  have step : ∀ i M, i < lc b → Tab M (lIt b i).2 → (s3 b (lIt b i).1).2 = 0 → lastC (lIt b i).2 < (v3 b (lIt b i).1).1 → putE (lIt b i).2 (v3 b (lIt b i).1).1 (v3 b (lIt b i).1).2.1 (v3 b (lIt b i).1).2.2 = 0 →
      LdI b (i + 1) (mset M [(v3 b (lIt b i).1).1] [dn .i64 (v3 b (lIt b i).1).2.1, dn .i64 (v3 b (lIt b i).1).2.2]) := fun i M hi ht he hc hp => by
    have h1 := tab_put ht hp
    rw [putL_snoc (lastC_all ht.inc hc)] at h1
    exact ⟨by omega, by omega, he, h1, (lIt_b hb (i + 1)).1⟩
  refine ⟨ldT b 11, vcLoad b K ⟨by rw [ints_len]; omega, b, rfl, ints_len, Nat.zero_le _, hb, by omega, ?_, ?_, ?_⟩⟩
  · have e1 : (rNum (List.drop 0 b) 0 32).1 = (lc b : Int) := c1
    rw [e1]
    exact At.mk' (.inl ⟨0, rfl⟩) rfl
  · rintro ⟨_, _⟩
    refine ⟨fun hc => ?_, fun hc => ?_⟩
    · have hi : 0 < lc b := by simpa using hc
      have p0 := (lIt_b hb 0).1
      have p1 := num_b hb p0 255
      have p2 := num_b hb p1 1099511627776
      refine ⟨b, rfl, rfl, p0, hb, by omega, b, rfl, rfl, p1, hb, by omega, b, rfl, rfl, p2, hb, by omega, fun h1 => ?_, fun h1 => ⟨fun h2 => ?_, fun h2 => ⟨fun h3 => ⟨fun h4 => ?_, fun h4 => absurd (bne_f h4) h3.h⟩, fun h3 => ⟨fun f => (by cases f), fun _ => ?_⟩⟩⟩⟩
      · have he : (s3 b (lIt b 0).1).2 ≠ 0 := bne_t h1
        exact bad 0 hi fun w => he w.1
      · have hc2 : (v3 b (lIt b 0).1).1 ≤ -1 := of_decide_eq_true h2
        refine bad 0 hi fun w => ?_
        have w2 : (-1 : Int) < (v3 b (lIt b 0).1).1 := w.2.1
        omega
      · exact bad 0 hi fun w => h3.h w.2.2
      · have he : (s3 b (lIt b 0).1).2 = 0 := bne_f h1
        have hc2 : ¬ (v3 b (lIt b 0).1).1 ≤ -1 := of_decide_eq_false h2
        have hL := step 0 [] hi tab_nil he (show (-1 : Int) < _ by omega) h3.h
        have key : ∀ (e' : Int), e' = 0 → (([.ptr 0 0, .ptr 1 0, .int .i64 (v3 b (lIt b 0).1).1, .ptr 2 0, .int .i64 (lc b : Int), .int .i64 1], [.cells [.any (.map none)], .cells [.sl 3 (s3 b (lIt b 0).1).1 b.length, .int .i64 e'], .cells [.mp 4], .row 5 1 (ints .u8 b), mpT (mset [] [(v3 b (lIt b 0).1).1] [dn .i64 (v3 b (lIt b 0).1).2.1, dn .i64 (v3 b (lIt b 0).1).2.2])]) : List V × KB) = (ldLI b).st (.inr ⟨(0 + 1, _), hL⟩) := by
          rintro _ rfl; rfl
        exact Nx.mk' (.inr ⟨(0 + 1, _), hL⟩) (key _ he) (by show lc b - 1 < lc b + 1; omega)
    · have h0 : lc b = 0 := by
        have : ¬ (0 : Int) < (lc b : Int) := of_decide_eq_false hc
        omega
      refine ⟨b, rfl, rfl, fun h1 => ?_, fun h1 => ?_⟩
      · rw [h0] at badE
        exact badE (bne_t h1)
      · have h2 : rEnd (b.drop (lIt b (lc b)).1.1) (lIt b (lc b)).1.2 = 0 := by rw [h0]; exact bne_f h1
        have := fin_back hb h2
        rw [h0] at this
        exact hnil this
  · rintro ⟨⟨i, M⟩, hL⟩
    obtain ⟨i1, i2, he0, ht, hpos⟩ := hL
    dsimp only at i1 i2 he0 ht hpos ⊢
    refine ⟨fun hc => ?_, fun hc => ?_⟩
    · have hi : i < lc b := by have : (i : Int) < (lc b : Int) := of_decide_eq_true hc; omega
      have p1 := num_b hb hpos 255
      have p2 := num_b hb p1 1099511627776
      have es : ∀ m, numSt b (lIt b i).1 m = ((lIt b i).1.1 + (rNum (b.drop (lIt b i).1.1) 0 m).2.1, (rNum (b.drop (lIt b i).1.1) 0 m).2.2) := fun m => by unfold numSt; rw [he0]
      have ea : ∀ m, numAt b (lIt b i).1 m = (rNum (b.drop (lIt b i).1.1) 0 m).1 := fun m => by unfold numAt; rw [he0]
      have q1 : ((lIt b i).1.1 + (rNum (b.drop (lIt b i).1.1) 0 255).2.1, (rNum (b.drop (lIt b i).1.1) 0 255).2.2) = s1 b (lIt b i).1 := (es 255).symm
      have g1 : (lIt b i).1.1 + (rNum (b.drop (lIt b i).1.1) 0 255).2.1 = (s1 b (lIt b i).1).1 := congrArg (·.1) q1
      have g2 : (rNum (b.drop (lIt b i).1.1) 0 255).2.2 = (s1 b (lIt b i).1).2 := congrArg (·.2) q1
      have g3' : (rNum (b.drop (lIt b i).1.1) 0 255).1 = (v3 b (lIt b i).1).1 := (ea 255).symm
      refine ⟨b, rfl, rfl, hpos, hb, by omega, ?_⟩
      rw [g1, g2, g3']
      refine ⟨b, rfl, rfl, p1, hb, by omega, ?_⟩
      refine ⟨b, rfl, rfl, p2, hb, by omega, fun h1 => ?_, fun h1 => ⟨fun h2 => ?_, fun h2 => ⟨(lIt b i).2, ht, fun h3 => ⟨fun h4 => ?_, fun h4 => absurd (bne_f h4) h3.h⟩, fun h3 => ⟨fun f => (by cases f), fun _ => ?_⟩⟩⟩⟩
      · have he : (s3 b (lIt b i).1).2 ≠ 0 := bne_t h1
        exact bad i hi fun w => he w.1
      · have hc2 : (v3 b (lIt b i).1).1 ≤ lastC (lIt b i).2 := of_decide_eq_true h2
        exact bad i hi fun w => by have := w.2.1; omega
      · exact bad i hi fun w => h3.h w.2.2
      · have he : (s3 b (lIt b i).1).2 = 0 := bne_f h1
        have hc2 : ¬ (v3 b (lIt b i).1).1 ≤ lastC (lIt b i).2 := of_decide_eq_false h2
        have hL := step i M hi ht he (by omega) h3.h
        have hlast : (v3 b (lIt b i).1).1 = lastC (lIt b (i + 1)).2 := lastC_snoc.symm
        have e1 : IntKind.i64.wrap ((i : Int) + 1) = ((i + 1 : Nat) : Int) := by rw [w64 (by omega) (by omega)]; rfl
        have key : ∀ (e' c' w' : Int), e' = 0 → c' = lastC (lIt b (i + 1)).2 → w' = ((i + 1 : Nat) : Int) → (([.ptr 0 0, .ptr 1 0, .int .i64 c', .ptr 2 0, .int .i64 (lc b : Int), .int .i64 w'], [.cells [.any (.map none)], .cells [.sl 3 (s3 b (lIt b i).1).1 b.length, .int .i64 e'], .cells [.mp 4], .row 5 1 (ints .u8 b), mpT (mset M [(v3 b (lIt b i).1).1] [dn .i64 (v3 b (lIt b i).1).2.1, dn .i64 (v3 b (lIt b i).1).2.2])]) : List V × KB) = (ldLI b).st (.inr ⟨(i + 1, _), hL⟩) := by
          rintro _ _ _ rfl rfl rfl; rfl
        exact Nx.mk' (.inr ⟨(i + 1, _), hL⟩) (key _ _ _ he hlast e1) (by show lc b - (i + 1) < lc b - i; omega)
    · have hi : i = lc b := by
        have : ¬ (i : Int) < (lc b : Int) := of_decide_eq_false hc
        omega
      subst hi
      refine ⟨b, rfl, rfl, fun h1 => ?_, fun h1 => ?_⟩
      · have := bne_t h1
        rw [← he0] at this
        exact badE (by rw [he0] at this ⊢; exact this)
      · have h2 := bne_f h1
        refine hyes _ M ht (fin_back hb ?_)
        rw [he0]; exact h2)
end Go.Proofs.Ytljkijkonhcgfaa
