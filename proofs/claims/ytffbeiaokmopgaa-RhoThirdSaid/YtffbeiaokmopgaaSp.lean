import Derived.Test.YtffbeiaokmopgaaRows
import Derived.KernelRfl
import Derived.Test.YtffbeiaokmopgaaVdP
namespace Go.Proofs.Ytffbeiaokmopgaa
open Vc Go
set_option linter.unusedVariables false
set_option linter.unusedSimpArgs false
set_option maxRecDepth 100000
abbrev PL := List (Int × Int × Int)
def prs (l : PL) : ML := l.map fun p => ([p.1], [dn .i64 p.2.1, dn .i64 p.2.2])
def pfind : PL → Int → Option (Int × Int)
  | [], _ => none
  | (a, c) :: l, n => if n = a then some c else pfind l n
def pset : PL → Int → Int → Int → PL
  | [], n, d, r => [(n, d, r)]
  | (a, c) :: l, n, d, r => if n = a then (a, d, r) :: l else (a, c) :: pset l n d r
def pD (l : PL) (n : Int) : Int := ((pfind l n).getD (0, 0)).1
def pR (l : PL) (n : Int) : Int := ((pfind l n).getD (0, 0)).2
theorem mget_prs {n : Int} : ∀ {l : PL}, mget (prs l) [n] = (pfind l n).map fun c => [dn .i64 c.1, dn .i64 c.2]
  | [] => rfl
  | (a, c) :: l => by
    show (if [n] = [a] then some [dn .i64 c.1, dn .i64 c.2] else mget (prs l) [n]) = _
    unfold pfind
    by_cases h : n = a
    · simp [h]
    · simp only [List.cons.injEq, and_true, h, if_false]
      exact mget_prs
theorem mset_prs {n d r : Int} : ∀ {l : PL}, mset (prs l) [n] [dn .i64 d, dn .i64 r] = prs (pset l n d r)
  | [] => rfl
  | (a, c) :: l => by
    show (if [n] = [a] then ([a], _) :: prs l else ([a], _) :: mset (prs l) [n] _) = _
    unfold pset
    by_cases h : n = a
    · simp [h, prs]
    · simp only [List.cons.injEq, and_true, h, if_false]
      rw [mset_prs]; rfl
theorem pfind_set {n d r j : Int} : ∀ {l : PL}, pfind (pset l n d r) j = if j = n then some (d, r) else pfind l j
  | [] => by simp [pset, pfind]
  | (a, c) :: l => by
    unfold pset
    by_cases h : n = a
    · simp only [h, if_true, pfind]
      split <;> rfl
    · simp only [h, if_false, pfind, pfind_set]
      by_cases h1 : j = a
      · simp only [h1, if_true]
        rw [if_neg (fun e => h e.symm)]
      · simp [h1]
theorem pD_set {n d r j : Int} {l : PL} : pD (pset l n d r) j = if j = n then d else pD l j := by
  unfold pD; rw [pfind_set]; split <;> rfl
theorem pR_set {n d r j : Int} {l : PL} : pR (pset l n d r) j = if j = n then r else pR l j := by
  unfold pR; rw [pfind_set]; split <;> rfl
def upD (d p : Int) : Int := if p = 1 ∨ p = 2 then IntKind.i64.wrap (d + 1) else d
def upR (r p : Int) : Int := if p = 1 then IntKind.i64.wrap (r + 1) else r
def S10 : FSpec := fun args kb K => match args, kb with
  | [.ptr 0 0, .int .i64 s, .int .i64 p], [.cells [.int .i64 d, .int .i64 r, .any (.map none), .any (.map none)]] =>
    K (.tup []) [.cells [.int .i64 (upD d p), .int .i64 (upR r p), .mp 1, .mp 2], .mp [.i64] false true 2 (prs [(s, upD 0 p, upR 0 p)]), .mp [.i64] false true 2 (prs [])]
  | [.ptr 0 0, .int .i64 s, .int .i64 p], [.cells [.int .i64 d, .int .i64 r, .mp 1, .mp 2], .mp [.i64] false true 2 own, .mp [.i64] false true 2 told] =>
    ∃ l, own = prs l ∧ K (.tup []) [.cells [.int .i64 (upD d p), .int .i64 (upR r p), .mp 1, .mp 2], .mp [.i64] false true 2 (prs (pset l s (upD (pD l s) p) (upR (pR l s) p))), .mp [.i64] false true 2 told]
  | _, _ => False
def S8 : FSpec := fun args kb K => match args, kb with
  | [.ptr 0 0, .int .i64 s], [.cells [.int .i64 d, .int .i64 r, .any (.map none), .any (.map none)]] => K (.tup [.int .i64 0, .int .i64 0]) [.cells [.int .i64 d, .int .i64 r, .any (.map none), .any (.map none)]]
  | [.ptr 0 0, .int .i64 s], [.cells [.int .i64 d, .int .i64 r, .mp 1, .mp 2], .mp [.i64] false true 2 own, .mp [.i64] false true 2 told] =>
    ∃ lo lt, own = prs lo ∧ told = prs lt ∧ K (.tup [.int .i64 (IntKind.i64.wrap (IntKind.i64.wrap (d - pD lo s) - pD lt s)), .int .i64 (IntKind.i64.wrap (IntKind.i64.wrap (r - pR lo s) - pR lt s))])
      [.cells [.int .i64 d, .int .i64 r, .mp 1, .mp 2], .mp [.i64] false true 2 (prs lo), .mp [.i64] false true 2 (prs (pset lt s (IntKind.i64.wrap (d - pD lo s)) (IntKind.i64.wrap (r - pR lo s))))]
  | _, _ => False
def S11 : FSpec := fun args kb K => match args, kb with
  | [.ptr 0 0], [.cells [.int .i64 d, .int .i64 r, .any (.map none), .any (.map none)]] => K (.tup [.int .i64 d, .int .i64 r]) [.cells [.int .i64 d, .int .i64 r, .any (.map none), .any (.map none)]]
  | [.ptr 0 0], [.cells [.int .i64 d, .int .i64 r, .mp 1, .mp 2], .mp [.i64] false true 2 own, .mp [.i64] false true 2 told] => K (.tup [.int .i64 d, .int .i64 r]) [.cells [.int .i64 d, .int .i64 r, .mp 1, .mp 2], .mp [.i64] false true 2 own, .mp [.i64] false true 2 told]
  | _, _ => False
def noT : FuncId → Nat → Option LI := fun _ _ => none
def noS : FuncId → Option Known := fun _ => none
noncomputable def X0 : CallT := callS Try.prog noS noT 10
theorem vc10a (d r s p : Int) (K : V → KB → Prop) (h :
 (∀ (cs : List D), mget [] [s] = some cs → ConfK ([CK.int IntKind.i64] ++ ([CK.int IntKind.i64] ++ [])) cs) ∧
 ((p == 1) = true → K (V.tup []) [KO.cells [V.int IntKind.i64 (IntKind.i64.wrap (d + 1)), V.int IntKind.i64 (IntKind.i64.wrap (r + 1)), V.mp 1, V.mp 2], KO.mp [IntKind.i64] false true 2 [([s], [D.val (Value.int IntKind.i64 (IntKind.i64.wrap (mgetI [] [s] 0 + 1))), D.val (Value.int IntKind.i64 (IntKind.i64.wrap (mgetI [] [s] 1 + 1)))])], KO.mp [IntKind.i64] false true 2 []]) ∧
 ((p == 1) = false →
 ((p == 2) = true → K (V.tup []) [KO.cells [V.int IntKind.i64 (IntKind.i64.wrap (d + 1)), V.int IntKind.i64 r, V.mp 1, V.mp 2], KO.mp [IntKind.i64] false true 2 [([s], [D.val (Value.int IntKind.i64 (IntKind.i64.wrap (mgetI [] [s] 0 + 1))), D.val (Value.int IntKind.i64 (mgetI [] [s] 1))])], KO.mp [IntKind.i64] false true 2 []]) ∧
 ((p == 2) = false → K (V.tup []) [KO.cells [V.int IntKind.i64 d, V.int IntKind.i64 r, V.mp 1, V.mp 2], KO.mp [IntKind.i64] false true 2 [([s], [D.val (Value.int IntKind.i64 (mgetI [] [s] 0)), D.val (Value.int IntKind.i64 (mgetI [] [s] 1))])], KO.mp [IntKind.i64] false true 2 []]))
 ) : runSpec Try.prog X0 (noT 10) 10 [.ptr 0 0, .int .i64 s, .int .i64 p] [.cells [.int .i64 d, .int .i64 r, .any (.map none), .any (.map none)]] K := Eq.mp (by kernel_rfl) h
theorem vc10b (d r s p : Int) (own told : ML) (K : V → KB → Prop) (h :
 (∀ (cs : List D), mget own [s] = some cs → ConfK ([CK.int IntKind.i64] ++ ([CK.int IntKind.i64] ++ [])) cs) ∧
 ((p == 1) = true → K (V.tup []) [KO.cells [V.int IntKind.i64 (IntKind.i64.wrap (d + 1)), V.int IntKind.i64 (IntKind.i64.wrap (r + 1)), V.mp 1, V.mp 2], KO.mp [IntKind.i64] false true 2 (mset own [s] [D.val (Value.int IntKind.i64 (IntKind.i64.wrap (mgetI own [s] 0 + 1))), D.val (Value.int IntKind.i64 (IntKind.i64.wrap (mgetI own [s] 1 + 1)))]), KO.mp [IntKind.i64] false true 2 told]) ∧
 ((p == 1) = false →
 ((p == 2) = true → K (V.tup []) [KO.cells [V.int IntKind.i64 (IntKind.i64.wrap (d + 1)), V.int IntKind.i64 r, V.mp 1, V.mp 2], KO.mp [IntKind.i64] false true 2 (mset own [s] [D.val (Value.int IntKind.i64 (IntKind.i64.wrap (mgetI own [s] 0 + 1))), D.val (Value.int IntKind.i64 (mgetI own [s] 1))]), KO.mp [IntKind.i64] false true 2 told]) ∧
 ((p == 2) = false → K (V.tup []) [KO.cells [V.int IntKind.i64 d, V.int IntKind.i64 r, V.mp 1, V.mp 2], KO.mp [IntKind.i64] false true 2 (mset own [s] [D.val (Value.int IntKind.i64 (mgetI own [s] 0)), D.val (Value.int IntKind.i64 (mgetI own [s] 1))]), KO.mp [IntKind.i64] false true 2 told]))
 ) : runSpec Try.prog X0 (noT 10) 10 [.ptr 0 0, .int .i64 s, .int .i64 p] [.cells [.int .i64 d, .int .i64 r, .mp 1, .mp 2], .mp [.i64] false true 2 own, .mp [.i64] false true 2 told] K := Eq.mp (by kernel_rfl) h
theorem vc8a (d r s : Int) (K : V → KB → Prop) (h :
 K (V.tup [V.int IntKind.i64 0, V.int IntKind.i64 0]) [KO.cells [V.int IntKind.i64 d, V.int IntKind.i64 r, V.any (Value.map none), V.any (Value.map none)]]
 ) : runSpec Try.prog X0 (noT 8) 8 [.ptr 0 0, .int .i64 s] [.cells [.int .i64 d, .int .i64 r, .any (.map none), .any (.map none)]] K := Eq.mp (by kernel_rfl) h
theorem vc8b (d r s : Int) (own told : ML) (K : V → KB → Prop) (h :
 (∀ (cs : List D), mget own [s] = some cs → ConfK ([CK.int IntKind.i64] ++ ([CK.int IntKind.i64] ++ [])) cs) ∧
 (V.mp 1 = V.mp 1 ∧
 V.mp 1 = V.mp 1 ∧
 (∀ (cs : List D), mget told [s] = some cs → ConfK ([CK.int IntKind.i64] ++ ([CK.int IntKind.i64] ++ [])) cs) ∧
 (V.mp 2 = V.mp 2 ∧
 V.mp 2 = V.mp 2 ∧
 K (V.tup [V.int IntKind.i64 (IntKind.i64.wrap (IntKind.i64.wrap (d - mgetI own [s] 0) - mgetI told [s] 0)), V.int IntKind.i64 (IntKind.i64.wrap (IntKind.i64.wrap (r - mgetI own [s] 1) - mgetI told [s] 1))])
 [KO.cells [V.int IntKind.i64 d, V.int IntKind.i64 r, V.mp 1, V.mp 2], KO.mp [IntKind.i64] false true 2 own, KO.mp [IntKind.i64] false true 2 (mset told [s] [D.val (Value.int IntKind.i64 (IntKind.i64.wrap (d - mgetI own [s] 0))), D.val (Value.int IntKind.i64 (IntKind.i64.wrap (r - mgetI own [s] 1)))])]) ∧
 ((∀ (cs : List D), mget told [s] = some cs → ConfK ([CK.int IntKind.i64] ++ ([CK.int IntKind.i64] ++ [])) cs) ∧ mgetI told [s] 0 = mgetI told [s] 0 ∧ mgetI told [s] 1 = mgetI told [s] 1) ∧
 V.mp 2 = V.mp 2 ∧
 (IntKind.i64.wrap (d - mgetI own [s] 0) = IntKind.i64.wrap (d - mgetI own [s] 0) ∧ IntKind.i64.wrap (r - mgetI own [s] 1) = IntKind.i64.wrap (r - mgetI own [s] 1)) ∧
 V.mp 2 = V.mp 2 ∧
 K (V.tup [V.int IntKind.i64 (IntKind.i64.wrap (IntKind.i64.wrap (d - mgetI own [s] 0) - mgetI told [s] 0)), V.int IntKind.i64 (IntKind.i64.wrap (IntKind.i64.wrap (r - mgetI own [s] 1) - mgetI told [s] 1))])
 [KO.cells [V.int IntKind.i64 d, V.int IntKind.i64 r, V.mp 1, V.mp 2], KO.mp [IntKind.i64] false true 2 own, KO.mp [IntKind.i64] false true 2 (mset told [s] [D.val (Value.int IntKind.i64 (IntKind.i64.wrap (d - mgetI own [s] 0))), D.val (Value.int IntKind.i64 (IntKind.i64.wrap (r - mgetI own [s] 1)))])]) ∧
 ((∀ (cs : List D), mget own [s] = some cs → ConfK ([CK.int IntKind.i64] ++ ([CK.int IntKind.i64] ++ [])) cs) ∧ mgetI own [s] 0 = mgetI own [s] 0 ∧ mgetI own [s] 1 = mgetI own [s] 1) ∧
 V.mp 1 = V.mp 1 ∧
 (d = d ∧ r = r) ∧
 V.mp 1 = V.mp 1 ∧
 (∀ (cs : List D), mget told [s] = some cs → ConfK ([CK.int IntKind.i64] ++ ([CK.int IntKind.i64] ++ [])) cs) ∧
 (V.mp 2 = V.mp 2 ∧
 V.mp 2 = V.mp 2 ∧
 K (V.tup [V.int IntKind.i64 (IntKind.i64.wrap (IntKind.i64.wrap (d - mgetI own [s] 0) - mgetI told [s] 0)), V.int IntKind.i64 (IntKind.i64.wrap (IntKind.i64.wrap (r - mgetI own [s] 1) - mgetI told [s] 1))])
 [KO.cells [V.int IntKind.i64 d, V.int IntKind.i64 r, V.mp 1, V.mp 2], KO.mp [IntKind.i64] false true 2 own, KO.mp [IntKind.i64] false true 2 (mset told [s] [D.val (Value.int IntKind.i64 (IntKind.i64.wrap (d - mgetI own [s] 0))), D.val (Value.int IntKind.i64 (IntKind.i64.wrap (r - mgetI own [s] 1)))])]) ∧
 ((∀ (cs : List D), mget told [s] = some cs → ConfK ([CK.int IntKind.i64] ++ ([CK.int IntKind.i64] ++ [])) cs) ∧ mgetI told [s] 0 = mgetI told [s] 0 ∧ mgetI told [s] 1 = mgetI told [s] 1) ∧
 V.mp 2 = V.mp 2 ∧
 (IntKind.i64.wrap (d - mgetI own [s] 0) = IntKind.i64.wrap (d - mgetI own [s] 0) ∧ IntKind.i64.wrap (r - mgetI own [s] 1) = IntKind.i64.wrap (r - mgetI own [s] 1)) ∧
 V.mp 2 = V.mp 2 ∧
 K (V.tup [V.int IntKind.i64 (IntKind.i64.wrap (IntKind.i64.wrap (d - mgetI own [s] 0) - mgetI told [s] 0)), V.int IntKind.i64 (IntKind.i64.wrap (IntKind.i64.wrap (r - mgetI own [s] 1) - mgetI told [s] 1))])
 [KO.cells [V.int IntKind.i64 d, V.int IntKind.i64 r, V.mp 1, V.mp 2], KO.mp [IntKind.i64] false true 2 own, KO.mp [IntKind.i64] false true 2 (mset told [s] [D.val (Value.int IntKind.i64 (IntKind.i64.wrap (d - mgetI own [s] 0))), D.val (Value.int IntKind.i64 (IntKind.i64.wrap (r - mgetI own [s] 1)))])]
 ) : runSpec Try.prog X0 (noT 8) 8 [.ptr 0 0, .int .i64 s] [.cells [.int .i64 d, .int .i64 r, .mp 1, .mp 2], .mp [.i64] false true 2 own, .mp [.i64] false true 2 told] K := Eq.mp (by kernel_rfl) h
theorem vc11a (d r : Int) (K : V → KB → Prop) (h :
 K (V.tup [V.int IntKind.i64 d, V.int IntKind.i64 r]) [KO.cells [V.int IntKind.i64 d, V.int IntKind.i64 r, V.any (Value.map none), V.any (Value.map none)]]
 ) : runSpec Try.prog X0 (noT 11) 11 [.ptr 0 0] [.cells [.int .i64 d, .int .i64 r, .any (.map none), .any (.map none)]] K := Eq.mp (by kernel_rfl) h
theorem vc11b (d r : Int) (own told : ML) (K : V → KB → Prop) (h :
 K (V.tup [V.int IntKind.i64 d, V.int IntKind.i64 r]) [KO.cells [V.int IntKind.i64 d, V.int IntKind.i64 r, V.mp 1, V.mp 2], KO.mp [IntKind.i64] false true 2 own, KO.mp [IntKind.i64] false true 2 told]
 ) : runSpec Try.prog X0 (noT 11) 11 [.ptr 0 0] [.cells [.int .i64 d, .int .i64 r, .mp 1, .mp 2], .mp [.i64] false true 2 own, .mp [.i64] false true 2 told] K := Eq.mp (by kernel_rfl) h
theorem mixed : Try.prog.follows .mixedOrders = true := by kernel_rfl
theorem noS_ok : AllOk Try.prog noS := fun f k h => by cases h
theorem X0_ok : CallOk Try.prog X0 := callS_ok mixed noS_ok noT 10
theorem ok11 : SpecOk Try.prog 11 S11 := specOk_of X0_ok mixed (noT 11) (fun args kb K h => by
  unfold S11 at h; split at h <;> try exact h.elim
  · rename_i d r; exact vc11a d r K h
  · rename_i d r own told; exact vc11b d r own told K h)
theorem conf_prs {l : PL} {n : Int} : ∀ cs, mget (prs l) [n] = some cs → ConfK [.int .i64, .int .i64] cs := fun cs h => by
  rw [mget_prs] at h
  simp only [Option.map_eq_some_iff] at h
  obtain ⟨c, _, rfl⟩ := h
  simp only [ConfK]
  exact ⟨_, _, rfl, _, _, rfl, rfl⟩
theorem mgetI0 {l : PL} {n : Int} : mgetI (prs l) [n] 0 = pD l n := by
  unfold mgetI pD; rw [mget_prs]; cases pfind l n <;> rfl
theorem mgetI1 {l : PL} {n : Int} : mgetI (prs l) [n] 1 = pR l n := by
  unfold mgetI pR; rw [mget_prs]; cases pfind l n <;> rfl
theorem prs_nil : prs [] = [] := rfl
theorem mset_dn {l : PL} {n d r : Int} : mset (prs l) [n] [D.val (.int .i64 d), D.val (.int .i64 r)] = prs (pset l n d r) := mset_prs
theorem ok10 : SpecOk Try.prog 10 S10 := specOk_of X0_ok mixed (noT 10) (fun args kb K h => by
  have e0 : IntKind.i64.wrap (0 + 1) = 1 := IntWalk.i64_in _ (by omega)
  unfold S10 at h; split at h <;> try exact h.elim
  · rename_i s p d r
    refine vc10a d r s p K ?_
    have z0 : mgetI [] [s] 0 = 0 := rfl
    have z1 : mgetI [] [s] 1 = 0 := rfl
    refine ⟨fun cs hc => (by cases hc), ?_⟩
    simp only [z0, z1, prs, List.map_cons, List.map_nil, dn, e0, upD, upR] at h ⊢
    refine ⟨fun h1 => ?_, fun h1 => ⟨fun h2 => ?_, fun h2 => ?_⟩⟩
    · have : p = 1 := by simpa using h1
      simpa [this] using h
    · have h2 : p = 2 := by simpa using h2
      simpa [h2] using h
    · have h1 : ¬ p = 1 := by simpa using h1
      have h2 : ¬ p = 2 := by simpa using h2
      simpa [h1, h2] using h
  · rename_i s p d r own told
    obtain ⟨l, rfl, h⟩ := h
    refine vc10b d r s p _ told K ?_
    simp only [mgetI0, mgetI1, mset_dn]
    refine ⟨conf_prs, ?_⟩
    simp only [upD, upR] at h
    grind)
theorem ok8 : SpecOk Try.prog 8 S8 := specOk_of X0_ok mixed (noT 8) (fun args kb K h => by
  unfold S8 at h; split at h <;> try exact h.elim
  · rename_i s d r; exact vc8a d r s K h
  · rename_i s d r own told
    obtain ⟨lo, lt, rfl, rfl, h⟩ := h
    refine vc8b d r s _ _ K ?_
    simp only [mgetI0, mgetI1, mset_dn]
    have c1 := @conf_prs lo s
    have c2 := @conf_prs lt s
    grind)
def rhoS : FuncId → Option Known
  | 8 => some ⟨[], S8⟩
  | 10 => some ⟨[], S10⟩
  | 11 => some ⟨[], S11⟩
  | _ => none
theorem rhoS_ok : AllOk Try.prog rhoS := fun f k h => by
  unfold rhoS at h
  split at h <;> first | (cases h; first | exact ok8 | exact ok10 | exact ok11) | cases h
end Go.Proofs.Ytffbeiaokmopgaa
