import Derived.Test.YtljkijkonhcgfaaPkC
import Derived.Test.YtljkijkonhcgfaaMp
import Derived.Test.YtljkijkonhcgfaaVdW
import Derived.KernelRfl
namespace Go.Proofs.Ytljkijkonhcgfaa
open Vc Go
set_option linter.unusedVariables false
set_option linter.unusedSimpArgs false
set_option maxRecDepth 100000
abbrev L3 := Int × Int × Int
def ent (p : L3) : List Int × List D := ([p.1], [dn .i64 p.2.1, dn .i64 p.2.2])
def en3 (p : L3) : List D := [dn .i64 p.1, dn .i64 p.2.1, dn .i64 p.2.2]
structure Tab (M : ML) (x : List L3) : Prop where
  perm : M.Perm (x.map ent)
  inc : x.Pairwise (fun a b => a.1 < b.1)
  rg : ∀ p ∈ x, 0 ≤ p.1 ∧ p.1 ≤ 255 ∧ 1 ≤ p.2.1 ∧ p.2.1 ≤ 1099511627776 ∧ 0 ≤ p.2.2 ∧ p.2.2 ≤ 63
  len : x.length ≤ 32
/-- Where a client stands. -/
def atI : List L3 → Int → Option Nat
  | [], _ => none
  | p :: l, c => if p.1 = c then some 0 else (atI l c).map (· + 1)
def g3 (x : List L3) (i : Nat) : L3 := x.getD i (0, 0, 0)
def numA (x : List L3) (c : Int) : Option (Int × Int) := (atI x c).map fun i => (g3 x i).2
def putE (x : List L3) (c n e : Int) : Int :=
  if c < 0 ∨ 255 < c ∨ n < 1 ∨ 1099511627776 < n ∨ e < 0 ∨ 63 < e then 1 else match numA x c with
  | some q => if n ≤ q.1 then 13 else 0
  | none => if 32 ≤ x.length then 6 else 0
def putL (x : List L3) (c n e : Int) : List L3 := x.filter (fun p => decide (p.1 < c)) ++ (c, n, e) :: x.filter (fun p => decide (c < p.1))
def chkK (x : List L3) (c n : Int) : Int := match numA x c with
  | none => 0
  | some q => if q.1 < n then 0 else if n = q.1 then 1 else 2
def chkE (x : List L3) (c n : Int) : Int := match numA x c with
  | none => 0
  | some q => if n = q.1 then q.2 else 0
structure NeZ (n : Int) : Prop where
  h : n ≠ 0
structure EqZ (n : Int) : Prop where
  h : n = 0
abbrev mpT (M : ML) : KO := .mp [.i64] false true 2 M
def Sput : FSpec := fun args kb K => match args, kb with
  | [.ptr 0 0, .int .i64 c, .int .i64 n, .int .i64 e], [.cells [.mp 1], .mp [.i64] false true 2 M] => ∃ x, Tab M x ∧
      (NeZ (putE x c n e) → K (.int .i64 (putE x c n e)) [.cells [.mp 1], mpT M]) ∧ (EqZ (putE x c n e) → K (.int .i64 0) [.cells [.mp 2], mpT M, mpT (mset M [c] [dn .i64 n, dn .i64 e])])
  | [.ptr 0 0, .int .i64 c, .int .i64 n, .int .i64 e], [.cells [.any (.map none)]] =>
      (NeZ (putE [] c n e) → K (.int .i64 (putE [] c n e)) [.cells [.any (.map none)]]) ∧ (EqZ (putE [] c n e) → K (.int .i64 0) [.cells [.mp 1], mpT (mset [] [c] [dn .i64 n, dn .i64 e])])
  | _, _ => False
def Scheck : FSpec := fun args kb K => match args, kb with
  | [.ptr 0 0, .int .i64 c, .int .i64 n], [.cells [.mp 1], .mp [.i64] false true 2 M] => ∃ x, Tab M x ∧ K (.tup [.int .i64 (chkK x c n), .int .i64 (chkE x c n)]) [.cells [.mp 1], mpT M]
  | [.ptr 0 0, .int .i64 c, .int .i64 n], [.cells [.any (.map none)]] => K (.tup [.int .i64 0, .int .i64 0]) [.cells [.any (.map none)]]
  | _, _ => False
/-- The clients, none being an empty row. -/
def Sclients : FSpec := fun args kb K => match args, kb with
  | [.ptr 0 0], [.cells [.mp 1], .mp [.i64] false true 2 M] => ∃ x, Tab M x ∧ K (.sl 2 0 x.length) [.cells [.mp 1], mpT M, .row 3 1 (ints .i64 (x.map (·.1)))]
  | [.ptr 0 0], [.cells [.any (.map none)]] => K (.sl 1 0 0) [.cells [.any (.map none)], .row 3 1 []]
  | _, _ => False
def clS : FuncId → Option Known
  | 16 => some ⟨[], SmapClone⟩
  | 18 => some ⟨[], SmapKeys 30⟩
  | 17 => some ⟨[], Ssorted 30 3⟩
  | _ => none
noncomputable def XCl : CallT := callS Try.prog clS noT 10
abbrev atLI (x : List L3) (c : Int) : LI where
  α := {i : Nat // i ≤ x.length ∧ ∀ j, j < i → (g3 x j).1 ≠ c}
  live := [0, 1, 5]
  st i := ([.dat (.sl 3 (x.map en3)), .int .i64 c, .int .i64 (i.1 : Int)], [])
  μ i := x.length - i.1
def atT (x : List L3) (c : Int) : FuncId → Nat → Option LI
  | 19, 2 => some (atLI x c)
  | _, _ => none
def atV (x : List L3) (c : Int) : Int := match atI x c with | some i => (i : Int) | none => -1
def Sat : FSpec := fun args kb K => match args, kb with
  | [.dat (.sl 3 L), .int .i64 c], [] => ∃ x : List L3, L = x.map en3 ∧ x.length ≤ 32 ∧ K (.int .i64 (atV x c)) []
  | _, _ => False
def SrCheck : FSpec := fun args kb K => match args, kb with
  | [.dat (.sl 3 L), .int .i64 c, .int .i64 n], [] => ∃ x : List L3, L = x.map en3 ∧ x.length ≤ 32 ∧ K (.tup [.int .i64 (chkK x c n), .int .i64 (chkE x c n)]) []
  | _, _ => False
def rcS : FuncId → Option Known
  | 19 => some ⟨[.lend 3], Sat⟩
  | _ => none
noncomputable def XRc : CallT := callS Try.prog rcS noT 10
theorem vcPut (M : ML) (c n e : Int) (K : V → KB → Prop) (hvc_ :
 (∀ (cs : List D), mget M [c] = some cs → ConfK ([CK.int IntKind.i64] ++ ([CK.int IntKind.i64] ++ [])) cs) ∧
 (decide (c < 0) = true → K (V.int IntKind.i64 1) [KO.cells [V.mp 1], KO.mp [IntKind.i64] false true 2 M]) ∧
 (decide (c < 0) = false →
 (decide (c > 255) = true → K (V.int IntKind.i64 1) [KO.cells [V.mp 1], KO.mp [IntKind.i64] false true 2 M]) ∧
 (decide (c > 255) = false →
 (decide (n < 1) = true → K (V.int IntKind.i64 1) [KO.cells [V.mp 1], KO.mp [IntKind.i64] false true 2 M]) ∧
 (decide (n < 1) = false →
 (decide (n > 1099511627776) = true → K (V.int IntKind.i64 1) [KO.cells [V.mp 1], KO.mp [IntKind.i64] false true 2 M]) ∧
 (decide (n > 1099511627776) = false →
 (decide (e < 0) = true → K (V.int IntKind.i64 1) [KO.cells [V.mp 1], KO.mp [IntKind.i64] false true 2 M]) ∧
 (decide (e < 0) = false →
 (decide (e > 63) = true → K (V.int IntKind.i64 1) [KO.cells [V.mp 1], KO.mp [IntKind.i64] false true 2 M]) ∧
 (decide (e > 63) = false →
 (mhas M [c] = true →
 (decide (n ≤ mgetI M [c] 0) = true → K (V.int IntKind.i64 13) [KO.cells [V.mp 1], KO.mp [IntKind.i64] false true 2 M]) ∧
 (decide (n ≤ mgetI M [c] 0) = false →
 ((!mhas M [c]) = true →
 (((↑(List.length M) : Int) == 32) = true → K (V.int IntKind.i64 6) [KO.cells [V.mp 1], KO.mp [IntKind.i64] false true 2 M]) ∧
 (((↑(List.length M) : Int) == 32) = false → K (V.int IntKind.i64 0) [KO.cells [V.mp 2], KO.mp [IntKind.i64] false true 2 M, KO.mp [IntKind.i64] false true 2 (mset M [c] [D.val (Value.int IntKind.i64 n), D.val (Value.int IntKind.i64 e)])])) ∧
 ((!mhas M [c]) = false → K (V.int IntKind.i64 0) [KO.cells [V.mp 2], KO.mp [IntKind.i64] false true 2 M, KO.mp [IntKind.i64] false true 2 (mset M [c] [D.val (Value.int IntKind.i64 n), D.val (Value.int IntKind.i64 e)])]))) ∧
 (mhas M [c] = false →
 ((!mhas M [c]) = true →
 (((↑(List.length M) : Int) == 32) = true → K (V.int IntKind.i64 6) [KO.cells [V.mp 1], KO.mp [IntKind.i64] false true 2 M]) ∧
 (((↑(List.length M) : Int) == 32) = false → K (V.int IntKind.i64 0) [KO.cells [V.mp 2], KO.mp [IntKind.i64] false true 2 M, KO.mp [IntKind.i64] false true 2 (mset M [c] [D.val (Value.int IntKind.i64 n), D.val (Value.int IntKind.i64 e)])])) ∧
 ((!mhas M [c]) = false → K (V.int IntKind.i64 0) [KO.cells [V.mp 2], KO.mp [IntKind.i64] false true 2 M, KO.mp [IntKind.i64] false true 2 (mset M [c] [D.val (Value.int IntKind.i64 n), D.val (Value.int IntKind.i64 e)])]))))))))
 ) : runSpec Try.prog XCl (noT 7) 7 [.ptr 0 0, .int .i64 c, .int .i64 n, .int .i64 e] [.cells [.mp 1], mpT M] (tidyRes 2 K) := Eq.mp (by kernel_rfl) hvc_
theorem vcPut0 (c n e : Int) (K : V → KB → Prop) (hvc_ :
 (decide (c < 0) = true → K (V.int IntKind.i64 1) [KO.cells [V.any (Value.map none)]]) ∧
 (decide (c < 0) = false →
 (decide (c > 255) = true → K (V.int IntKind.i64 1) [KO.cells [V.any (Value.map none)]]) ∧
 (decide (c > 255) = false →
 (decide (n < 1) = true → K (V.int IntKind.i64 1) [KO.cells [V.any (Value.map none)]]) ∧
 (decide (n < 1) = false →
 (decide (n > 1099511627776) = true → K (V.int IntKind.i64 1) [KO.cells [V.any (Value.map none)]]) ∧
 (decide (n > 1099511627776) = false →
 (decide (e < 0) = true → K (V.int IntKind.i64 1) [KO.cells [V.any (Value.map none)]]) ∧
 (decide (e < 0) = false → (decide (e > 63) = true → K (V.int IntKind.i64 1) [KO.cells [V.any (Value.map none)]]) ∧ (decide (e > 63) = false → K (V.int IntKind.i64 0) [KO.cells [V.mp 1], KO.mp [IntKind.i64] false true 2 [([c], [D.val (Value.int IntKind.i64 n), D.val (Value.int IntKind.i64 e)])]]))))))
 ) : runSpec Try.prog XCl (noT 7) 7 [.ptr 0 0, .int .i64 c, .int .i64 n, .int .i64 e] [.cells [.any (.map none)]] (tidyRes 1 K) := Eq.mp (by kernel_rfl) hvc_
theorem vcCheck (M : ML) (c n : Int) (K : V → KB → Prop) (hvc_ :
 (∀ (cs : List D), mget M [c] = some cs → ConfK ([CK.int IntKind.i64] ++ ([CK.int IntKind.i64] ++ [])) cs) ∧
 ((!mhas M [c]) = true → K (V.tup [V.int IntKind.i64 0, V.int IntKind.i64 0]) [KO.cells [V.mp 1], KO.mp [IntKind.i64] false true 2 M]) ∧
 ((!mhas M [c]) = false →
 (decide (n > mgetI M [c] 0) = true → K (V.tup [V.int IntKind.i64 0, V.int IntKind.i64 0]) [KO.cells [V.mp 1], KO.mp [IntKind.i64] false true 2 M]) ∧
 (decide (n > mgetI M [c] 0) = false → ((n == mgetI M [c] 0) = true → K (V.tup [V.int IntKind.i64 1, V.int IntKind.i64 (mgetI M [c] 1)]) [KO.cells [V.mp 1], KO.mp [IntKind.i64] false true 2 M]) ∧ ((n == mgetI M [c] 0) = false → K (V.tup [V.int IntKind.i64 2, V.int IntKind.i64 0]) [KO.cells [V.mp 1], KO.mp [IntKind.i64] false true 2 M])))
 ) : runSpec Try.prog XCl (noT 8) 8 [.ptr 0 0, .int .i64 c, .int .i64 n] [.cells [.mp 1], mpT M] (tidyRes 2 K) := Eq.mp (by kernel_rfl) hvc_
theorem vcCheck0 (c n : Int) (K : V → KB → Prop) (hvc_ :
 K (V.tup [V.int IntKind.i64 0, V.int IntKind.i64 0]) [KO.cells [V.any (Value.map none)]]
 ) : runSpec Try.prog XCl (noT 8) 8 [.ptr 0 0, .int .i64 c, .int .i64 n] [.cells [.any (.map none)]] (tidyRes 1 K) := Eq.mp (by kernel_rfl) hvc_
theorem vcClients (M : ML) (K : V → KB → Prop) (hvc_ :
 30 = 30 ∧ [IntKind.i64] = [IntKind.i64] ∧ false = false ∧ KeysOk M ∧ (M = [] → K (V.sl 2 0 0) [KO.cells [V.mp 1], KO.mp [IntKind.i64] false true 2 M, KO.row 3 1 []]) ∧ K (V.sl 2 0 (List.length M)) [KO.cells [V.mp 1], KO.mp [IntKind.i64] false true 2 M, KO.row 3 1 (ints IntKind.i64 (sortI (Vc.keysM M)))]
 ) : runSpec Try.prog XCl (noT 9) 9 [.ptr 0 0] [.cells [.mp 1], mpT M] (nilRes [.slot 0 3 1] (tidyRes 2 K)) := Eq.mp (by kernel_rfl) hvc_
theorem vcClients0  (K : V → KB → Prop) (hvc_ :
 30 = 30 ∧ K (V.sl 1 0 0) [KO.cells [V.any (Value.map none)], KO.row 3 1 []]
 ) : runSpec Try.prog XCl (noT 9) 9 [.ptr 0 0] [.cells [.any (.map none)]] (nilRes [.slot 0 3 1] (tidyRes 1 K)) := Eq.mp (by kernel_rfl) hvc_
theorem vcAt (x : List L3) (c : Int) (K : V → KB → Prop) (hvc_ :
 At (atLI x c) ([V.dat (D.sl 3 (List.map en3 x)), V.int IntKind.i64 c, V.int IntKind.i64 0], []) ∧
 ∀ (i : { i : Nat // i ≤ x.length ∧ ∀ (j : Nat), j < i → (g3 x j).fst ≠ c }),
 (decide ((↑i.val : Int) < (↑(List.map en3 x).length : Int)) = true →
 NonN (↑i.val : Int) ∧ ∃ (e : List D), (List.map en3 x)[(↑i.val : Int).toNat]? = some e ∧ ∃ (n : Int), e[0]? = some (D.val (Value.int IntKind.i64 n)) ∧ ((n == c) = true → K (V.int IntKind.i64 (↑i.val : Int)) []) ∧ ((n == c) = false → Nx (atLI x c) i ([V.dat (D.sl 3 (List.map en3 x)), V.int IntKind.i64 c, V.int IntKind.i64 (IntKind.i64.wrap ((↑i.val : Int) + 1))], []))) ∧
 (decide ((↑i.val : Int) < (↑(List.map en3 x).length : Int)) = false → K (V.int IntKind.i64 (-1)) [])
 ) : runSpec Try.prog X0 (atT x c 19) 19 [.dat (.sl 3 (x.map en3)), .int .i64 c] [] K := Eq.mp (by kernel_rfl) hvc_
theorem vcRCheck (x : List L3) (c n : Int) (K : V → KB → Prop) (hvc_ :
 ∃ (x_1 : List L3),
 List.map en3 x = List.map en3 x_1 ∧
 x_1.length ≤ 32 ∧
 (decide (atV x_1 c < 0) = true → K (V.tup [V.int IntKind.i64 0, V.int IntKind.i64 0]) []) ∧
 (decide (atV x_1 c < 0) = false →
 NonN (atV x_1 c) ∧
 ∃ (e : List D),
 (List.map en3 x)[(atV x_1 c).toNat]? = some e ∧
 ∃ (n_1 : Int),
 e[1]? = some (D.val (Value.int IntKind.i64 n_1)) ∧
 (decide (n > n_1) = true → K (V.tup [V.int IntKind.i64 0, V.int IntKind.i64 0]) []) ∧
 (decide (n > n_1) = false →
 NonN (atV x_1 c) ∧
 ∃ (e : List D),
 (List.map en3 x)[(atV x_1 c).toNat]? = some e ∧
 ∃ (n_2 : Int),
 e[1]? = some (D.val (Value.int IntKind.i64 n_2)) ∧ ((n == n_2) = true → NonN (atV x_1 c) ∧ ∃ (e : List D), (List.map en3 x)[(atV x_1 c).toNat]? = some e ∧ ∃ (n : Int), e[2]? = some (D.val (Value.int IntKind.i64 n)) ∧ K (V.tup [V.int IntKind.i64 1, V.int IntKind.i64 n]) []) ∧ ((n == n_2) = false → K (V.tup [V.int IntKind.i64 2, V.int IntKind.i64 0]) [])))
 ) : runSpec Try.prog XRc (noT 13) 13 [.dat (.sl 3 (x.map en3)), .int .i64 c, .int .i64 n] [] K := Eq.mp (by kernel_rfl) hvc_
theorem mget_mem' : ∀ {M : ML} {k : List Int} {v : List D}, (M.map (·.1)).Nodup → (k, v) ∈ M → mget M k = some v
  | (a, c) :: M, k, v, hn, h => by
    simp only [List.map_cons, List.nodup_cons] at hn
    simp only [mget]
    rcases List.mem_cons.1 h with h | h
    · cases h; rw [if_pos rfl]
    · have hne : k ≠ a := fun e => hn.1 (List.mem_map.2 ⟨_, h, e⟩)
      rw [if_neg hne]
      exact mget_mem' hn.2 h
theorem mget_non : ∀ {M : ML} {k : List Int}, (∀ e ∈ M, e.1 ≠ k) → mget M k = none
  | [], _, _ => rfl
  | (a, c) :: M, k, h => by
    simp only [mget]
    rw [if_neg (fun e => h _ List.mem_cons_self e.symm)]
    exact mget_non fun e he => h e (List.mem_cons_of_mem _ he)
theorem at_some : ∀ {x : List L3} {c : Int} {i : Nat}, atI x c = some i → i < x.length ∧ (g3 x i).1 = c ∧ ∀ j, j < i → (g3 x j).1 ≠ c
  | p :: l, c, i, h => by
    simp only [atI] at h
    split at h
    · rename_i hp
      cases h
      exact ⟨by simp, by simp [g3, hp], fun j hj => absurd hj (Nat.not_lt_zero _)⟩
    · rename_i hp
      simp only [Option.map_eq_some_iff] at h
      obtain ⟨k, hk, rfl⟩ := h
      obtain ⟨h1, h2, h3⟩ := at_some hk
      refine ⟨by simp; omega, by simpa [g3] using h2, fun j hj => ?_⟩
      cases j with
      | zero => simpa [g3] using hp
      | succ j => have := h3 j (by omega); simpa [g3] using this
theorem at_none : ∀ {x : List L3} {c : Int}, atI x c = none → ∀ p ∈ x, p.1 ≠ c
  | [], _, _, p, hp => by cases hp
  | q :: l, c, h, p, hp => by
    simp only [atI] at h
    split at h
    · cases h
    · rename_i hq
      simp only [Option.map_eq_none_iff] at h
      rcases List.mem_cons.1 hp with rfl | hp
      · exact hq
      · exact at_none h p hp
theorem g3_get {x : List L3} {i : Nat} (h : i < x.length) : x[i]? = some (g3 x i) := by
  unfold g3; rw [List.getD_eq_getElem?_getD, List.getElem?_eq_getElem h]; rfl
theorem g3_mem {x : List L3} {i : Nat} (h : i < x.length) : g3 x i ∈ x := List.mem_of_getElem? (g3_get h)
theorem at_uniq {x : List L3} {c : Int} {i : Nat} (hi : i < x.length) (h1 : (g3 x i).1 = c) (h2 : ∀ j, j < i → (g3 x j).1 ≠ c) : atI x c = some i := by
  cases h : atI x c with
  | none => exact absurd h1 (at_none h _ (g3_mem hi))
  | some k =>
    obtain ⟨k1, k2, k3⟩ := at_some h
    have : k = i := by
      rcases Nat.lt_trichotomy k i with h4 | h4 | h4
      · exact absurd k2 (h2 k h4)
      · exact h4
      · exact absurd h1 (k3 i h4)
    rw [this]
theorem at_non {x : List L3} {c : Int} (h : ∀ j, j < x.length → (g3 x j).1 ≠ c) : atI x c = none := by
  cases h1 : atI x c with
  | none => rfl
  | some k => obtain ⟨k1, k2, _⟩ := at_some h1; exact absurd k2 (h k k1)
theorem tab_nd {M : ML} {x : List L3} (h : Tab M x) : (M.map (·.1)).Nodup := by
  have h1 : (M.map (·.1)).Perm ((x.map ent).map (·.1)) := h.perm.map _
  refine h1.nodup_iff.2 ?_
  rw [List.map_map]
  exact List.pairwise_map.2 (h.inc.imp fun hlt e => by simp [ent] at e; omega)
theorem tab_get {M : ML} {x : List L3} (h : Tab M x) (c : Int) : mget M [c] = (numA x c).map fun q => [dn .i64 q.1, dn .i64 q.2] := by
  unfold numA
  cases hc : atI x c with
  | none =>
    refine mget_non fun e he e1 => ?_
    obtain ⟨p, hp, rfl⟩ := List.mem_map.1 (h.perm.mem_iff.1 he)
    simp only [ent, List.cons.injEq, and_true] at e1
    exact at_none hc p hp e1
  | some i =>
    obtain ⟨h1, h2, _⟩ := at_some hc
    refine mget_mem' (tab_nd h) (h.perm.mem_iff.2 (List.mem_map.2 ⟨g3 x i, g3_mem h1, ?_⟩))
    simp only [ent, h2, Option.map_some]
theorem tab_keys {M : ML} {x : List L3} (h : Tab M x) : KeysOk M ∧ sortI (Vc.keysM M) = x.map (·.1) ∧ M.length = x.length := by
  have hl : M.length = x.length := by rw [h.perm.length_eq, List.length_map]
  refine ⟨⟨fun e he => ?_, tab_nd h, by have := h.len; omega⟩, ?_, hl⟩
  · obtain ⟨p, hp, rfl⟩ := List.mem_map.1 (h.perm.mem_iff.1 he)
    have := h.rg p hp
    exact ⟨p.1, rfl, by omega, by omega⟩
  · have h1 : (Vc.keysM M).Perm (x.map (·.1)) := by
      unfold Vc.keysM
      have := h.perm.map (fun e : List Int × List D => e.1.headD 0)
      rw [List.map_map] at this
      exact this
    rw [sortI_perm h1]
    unfold sortI
    exact List.mergeSort_of_pairwise (List.pairwise_map.2 (h.inc.imp fun hlt => by simp only [decide_eq_true_eq]; omega))
theorem tab_nil : Tab [] [] := ⟨List.Perm.refl _, List.Pairwise.nil, fun p hp => (by cases hp), by simp⟩
theorem conf2 {M : ML} {x : List L3} (h : Tab M x) (c : Int) : ∀ cs, mget M [c] = some cs → ConfK ([CK.int .i64] ++ ([CK.int .i64] ++ [])) cs := fun cs hc => by
  rw [tab_get h] at hc
  simp only [Option.map_eq_some_iff] at hc
  obtain ⟨q, _, rfl⟩ := hc
  exact ⟨_, _, rfl, _, _, rfl, rfl⟩
theorem tab_has {M : ML} {x : List L3} (h : Tab M x) (c : Int) : mhas M [c] = (numA x c).isSome ∧ (∀ q, numA x c = some q → mgetI M [c] 0 = q.1 ∧ mgetI M [c] 1 = q.2) := by
  refine ⟨?_, fun q hq => ?_⟩
  · unfold mhas; rw [tab_get h]; cases numA x c <;> rfl
  · unfold mgetI; rw [tab_get h, hq]; exact ⟨rfl, rfl⟩
theorem clS_ok : AllOk Try.prog clS := fun f k h => by
  unfold clS at h
  split at h <;> first | (cases h; first | exact okMapClone | exact okMapKeys | exact okSorted) | cases h
theorem XCl_ok : CallOk Try.prog XCl := callS_ok mixed clS_ok noT 10
theorem okPut : SpecOk Try.prog 7 Sput := specOk_tidy XCl_ok mixed (fun args kb K h => by
  unfold Sput at h; split at h <;> try exact h.elim
  · rename_i c n e M
    obtain ⟨x, ht, hno, hy⟩ := h
    obtain ⟨t1, t2⟩ := tab_has ht c
    have hl := (tab_keys ht).2.2
    have hle := ht.len
    unfold putE at hno hy
    refine ⟨noT 7, vcPut M c n e K ⟨conf2 ht c, ?_⟩⟩
    simp only [decide_eq_true_eq, decide_eq_false_iff_not]
    have bad : (c < 0 ∨ 255 < c ∨ n < 1 ∨ 1099511627776 < n ∨ e < 0 ∨ 63 < e) → K (V.int .i64 1) [KO.cells [V.mp 1], mpT M] := fun hb => by
      simp only [if_pos hb] at hno
      exact hno ⟨by decide⟩
    refine ⟨fun h1 => bad (.inl h1), fun h1 => ⟨fun h2 => bad (.inr (.inl h2)), fun h2 => ⟨fun h3 => bad (.inr (.inr (.inl h3))), fun h3 => ⟨fun h4 => bad (.inr (.inr (.inr (.inl h4)))), fun h4 => ⟨fun h5 => bad (.inr (.inr (.inr (.inr (.inl h5))))), fun h5 => ⟨fun h6 => bad (.inr (.inr (.inr (.inr (.inr h6))))), fun h6 => ?_⟩⟩⟩⟩⟩⟩
    have hg : ¬ (c < 0 ∨ 255 < c ∨ n < 1 ∨ 1099511627776 < n ∨ e < 0 ∨ 63 < e) := by omega
    simp only [if_neg hg] at hno hy
    cases hq : numA x c with
    | some q =>
      rw [hq] at t1 hno hy
      simp only [Option.isSome_some] at t1
      simp only at hno hy
      have t3 := (t2 q hq).1
      rw [t1, t3]
      refine ⟨fun _ => ⟨fun h7 => ?_, fun h7 => ⟨fun f => (by cases f), fun _ => ?_⟩⟩, fun f => (by cases f)⟩
      · rw [if_pos h7] at hno; exact hno ⟨by decide⟩
      · rw [if_neg h7] at hy; exact hy ⟨rfl⟩
    | none =>
      rw [hq] at t1 hno hy
      simp only [Option.isSome_none] at t1
      simp only at hno hy
      rw [t1]
      refine ⟨fun f => (by cases f), fun _ => ⟨fun _ => ⟨fun h7 => ?_, fun h7 => ?_⟩, fun f => (by cases f)⟩⟩
      · simp only [beq_iff_eq] at h7
        rw [if_pos (by omega)] at hno; exact hno ⟨by decide⟩
      · simp only [beq_eq_false_iff_ne, ne_eq] at h7
        rw [if_neg (by omega)] at hy; exact hy ⟨rfl⟩
  · rename_i c n e
    obtain ⟨hno, hy⟩ := h
    unfold putE at hno hy
    refine ⟨noT 7, vcPut0 c n e K ?_⟩
    simp only [decide_eq_true_eq, decide_eq_false_iff_not]
    have bad : (c < 0 ∨ 255 < c ∨ n < 1 ∨ 1099511627776 < n ∨ e < 0 ∨ 63 < e) → K (V.int .i64 1) [KO.cells [V.any (Value.map none)]] := fun hb => by
      simp only [if_pos hb] at hno
      exact hno ⟨by decide⟩
    refine ⟨fun h1 => bad (.inl h1), fun h1 => ⟨fun h2 => bad (.inr (.inl h2)), fun h2 => ⟨fun h3 => bad (.inr (.inr (.inl h3))), fun h3 => ⟨fun h4 => bad (.inr (.inr (.inr (.inl h4)))), fun h4 => ⟨fun h5 => bad (.inr (.inr (.inr (.inr (.inl h5))))), fun h5 => ⟨fun h6 => bad (.inr (.inr (.inr (.inr (.inr h6))))), fun h6 => ?_⟩⟩⟩⟩⟩⟩
    have hg : ¬ (c < 0 ∨ 255 < c ∨ n < 1 ∨ 1099511627776 < n ∨ e < 0 ∨ 63 < e) := by omega
    simp only [if_neg hg] at hy
    exact hy ⟨rfl⟩)
theorem okCheckT : SpecOk Try.prog 8 Scheck := specOk_tidy XCl_ok mixed (fun args kb K h => by
  unfold Scheck at h; split at h <;> try exact h.elim
  · rename_i c n M
    obtain ⟨x, ht, h⟩ := h
    obtain ⟨t1, t2⟩ := tab_has ht c
    unfold chkK chkE at h
    refine ⟨noT 8, vcCheck M c n K ⟨conf2 ht c, ?_⟩⟩
    simp only [decide_eq_true_eq, decide_eq_false_iff_not]
    cases hq : numA x c with
    | none =>
      rw [hq] at t1 h
      simp only [Option.isSome_none] at t1
      rw [t1]
      exact ⟨fun _ => h, fun f => (by cases f)⟩
    | some q =>
      rw [hq] at t1 h
      simp only [Option.isSome_some] at t1
      simp only at h
      obtain ⟨t3, t4⟩ := t2 q hq
      rw [t1, t3, t4]
      refine ⟨fun f => (by cases f), fun _ => ⟨fun h7 => ?_, fun h7 => ⟨fun h8 => ?_, fun h8 => ?_⟩⟩⟩
      · rw [if_pos (by omega), if_neg (by omega)] at h; exact h
      · simp only [beq_iff_eq] at h8
        rw [if_neg (by omega), if_pos h8, if_pos h8] at h; exact h
      · simp only [beq_eq_false_iff_ne, ne_eq] at h8
        rw [if_neg (by omega), if_neg h8, if_neg h8] at h; exact h
  · exact ⟨noT 8, vcCheck0 _ _ K h⟩)
theorem okClients : SpecOk Try.prog 9 Sclients := specOk_nt XCl_ok mixed [.slot 0 3 1] (fun args kb K h => by
  unfold Sclients at h; split at h <;> try exact h.elim
  · rename_i M
    obtain ⟨x, ht, h⟩ := h
    obtain ⟨k1, k2, k3⟩ := tab_keys ht
    refine ⟨noT 9, vcClients M K ⟨rfl, rfl, rfl, k1, fun hM => ?_, ?_⟩⟩
    · subst hM
      have hx : x = [] := List.eq_nil_of_length_eq_zero (by rw [← k3]; rfl)
      subst hx
      exact h
    · rw [k2, k3]; exact h
  · exact ⟨noT 9, vcClients0 K ⟨rfl, h⟩⟩)
theorem en3_len {x : List L3} : (x.map en3).length = x.length := List.length_map ..
theorem el3 {x : List L3} {i : Nat} {k : Nat} {v : Int} {Q : Int → Prop} (hi : i < x.length) (hk : (en3 (g3 x i))[k]? = some (D.val (.int .i64 v))) (q : Q v) : NonN (i : Int) ∧ ∃ e, (x.map en3)[(i : Int).toNat]? = some e ∧ ∃ n, e[k]? = some (D.val (.int .i64 n)) ∧ Q n :=
  ⟨by unfold NonN; omega, en3 (g3 x i), by rw [Int.toNat_natCast, List.getElem?_map, g3_get hi]; rfl, v, hk, q⟩
theorem okAt : SpecOk Try.prog 19 Sat := specOk_of' X0_ok mixed (fun args kb K h => by
  unfold Sat at h; split at h <;> try exact h.elim
  rename_i c
  obtain ⟨x, rfl, hl, h⟩ := h
  unfold atV at h
  refine ⟨atT x c 19, vcAt x c K ⟨At.mk' ⟨0, Nat.zero_le _, fun j hj => absurd hj (Nat.not_lt_zero _)⟩ rfl, ?_⟩⟩
  rintro ⟨i, hi, ht⟩
  dsimp only
  simp only [decide_eq_true_eq, decide_eq_false_iff_not, en3_len]
  refine ⟨fun hc => el3 (v := (g3 x i).1) (by omega) rfl ⟨fun h1 => ?_, fun h1 => ?_⟩, fun hc => ?_⟩
  · simp only [beq_iff_eq] at h1
    rw [at_uniq (by omega) h1 ht] at h
    exact h
  · simp only [beq_eq_false_iff_ne, ne_eq] at h1
    rw [w64 (by omega) (by omega)]
    refine Nx.mk' (⟨i + 1, by omega, fun j hj => ?_⟩ : {i : Nat // i ≤ x.length ∧ ∀ j, j < i → (g3 x j).1 ≠ c}) rfl (by show x.length - (i + 1) < x.length - i; omega)
    by_cases hji : j = i
    · subst hji; exact h1
    · exact ht j (by omega)
  · have : i = x.length := by omega
    subst this
    rw [at_non ht] at h
    exact h)
theorem en3_inj : ∀ {a b : List L3}, a.map en3 = b.map en3 → a = b
  | [], [], _ => rfl
  | [], _ :: _, h => by cases h
  | _ :: _, [], h => by cases h
  | p :: a, q :: b, h => by
    simp only [List.map_cons, List.cons.injEq] at h
    obtain ⟨h1, h2⟩ := h
    simp only [en3, List.cons.injEq, D.val.injEq, Value.int.injEq, true_and, and_true] at h1
    rw [en3_inj h2]
    have : p = q := Prod.ext h1.1 (Prod.ext h1.2.1 h1.2.2)
    rw [this]
theorem rcS_ok : AllOk Try.prog rcS := fun f k h => by
  unfold rcS at h
  split at h <;> first | (cases h; exact okAt) | cases h
theorem XRc_ok : CallOk Try.prog XRc := callS_ok mixed rcS_ok noT 10
theorem okRCheck : SpecOk Try.prog 13 SrCheck := specOk_of' XRc_ok mixed (fun args kb K h => by
  unfold SrCheck at h; split at h <;> try exact h.elim
  rename_i c n
  obtain ⟨x, rfl, hl, h⟩ := h
  unfold chkK chkE numA at h
  refine ⟨noT 13, vcRCheck x c n K ⟨x, rfl, hl, ?_⟩⟩
  unfold atV
  simp only [decide_eq_true_eq, decide_eq_false_iff_not]
  cases hc : atI x c with
  | none =>
    rw [hc] at h
    refine ⟨fun _ => h, fun f => ?_⟩
    simp only at f; omega
  | some i =>
    rw [hc] at h
    simp only [Option.map_some] at h
    obtain ⟨h1, _, _⟩ := at_some hc
    refine ⟨fun f => ?_, fun _ => el3 (v := (g3 x i).2.1) h1 rfl ⟨fun h2 => ?_, fun h2 => el3 (v := (g3 x i).2.1) h1 rfl ⟨fun h3 => el3 (v := (g3 x i).2.2) h1 rfl ?_, fun h3 => ?_⟩⟩⟩
    · simp only at f; omega
    · rw [if_pos (by omega), if_neg (by omega)] at h; exact h
    · simp only [beq_iff_eq] at h3
      rw [if_neg (by omega), if_pos h3, if_pos h3] at h; exact h
    · simp only [beq_eq_false_iff_ne, ne_eq] at h3
      rw [if_neg (by omega), if_neg h3, if_neg h3] at h; exact h)
end Go.Proofs.Ytljkijkonhcgfaa
