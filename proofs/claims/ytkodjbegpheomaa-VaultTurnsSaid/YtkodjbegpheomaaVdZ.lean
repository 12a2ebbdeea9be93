/- The library's maps.Clone, maps.Keys and slices.Sorted of it, as specifications. -/
import Derived.Test.YtkodjbegpheomaaVdS
import Derived.Test.YtkodjbegpheomaaVdQ
import Derived.Shelf.SlMaps.Clone
import Derived.Shelf.SlIterI.Nil
import Derived.Shelf.SlIterI.Sorted
set_option linter.unusedSimpArgs false
set_option linter.unusedVariables false
namespace Vc
open Go Go.Shelf Go.Sort Go.RowKit Go.Proofs Go.Maps

/-- A map's copy. -/
def SmapClone : FSpec := fun args kb K => match args, kb with
  | [.mp 0], [.mp kks kagg agg sz M] => K (.mp 1) [.mp kks kagg agg sz M, .mp kks kagg agg sz M]
  | [.any (.map none)], [] => K (.any (.map none)) []
  | _, _ => False
theorem okMapClone_of {P : Program} {ρ : Ren} (L : SlLaysW.n5 P ρ) : SpecOk P (ρ.f 5) SmapClone := fun args kb K h σ E W xs hi hd => by
  unfold SmapClone at h
  split at h <;> try exact h.elim
  · rename_i kks kagg agg sz M
    simp only [DenL, Den] at hd
    obtain ⟨x, xs', rfl, ⟨r, hr, rfl⟩, rfl⟩ := hd
    obtain ⟨h1, es, clock, h2, h3, h4⟩ := hi.obj 0 r _ hr rfl
    refine (AnyW.maps_Clone L r.blk es clock W h2).mono ?_
    rintro e W' ⟨rfl, rfl⟩
    have hlen : σ.length = 1 := hi.len
    have ho : HoldsO (σ ++ [⟨W.heap.size, 0, 0⟩]) E (W.alloc (.map es clock)) ⟨W.heap.size, 0, 0⟩ (.mp kks kagg agg sz M) :=
      ⟨h1, es, clock, (MapKept.heap_alloc W _).1, h3, h4⟩
    have hst := hi.alloc (.map es clock) ⟨W.heap.size, 0, 0⟩ (.mp kks kagg agg sz M) (fun b hb => hb) ho
    refine ⟨_, .mp 1, _, E, _, rfl, hst, ?_, h⟩
    simp only [Den]
    exact ⟨⟨W.heap.size, 0, 0⟩, by rw [List.getElem?_append_right (by omega), hlen]; rfl, rfl⟩
  · simp only [DenL, Den] at hd
    obtain ⟨x, xs', rfl, rfl, rfl⟩ := hd
    refine (AnyW.maps_Clone_nil L W).mono ?_
    rintro e W' ⟨rfl, rfl⟩
    exact ⟨_, .any (.map none), σ, E, _, rfl, Step.refl hi, by simp only [Den], h⟩

/-- The iterator over a map's keys. -/
def SmapKeys (g : FuncId) : FSpec := fun args kb K => match args, kb with
  | [.mp 0], [.mp kks kagg agg sz M] => K (.fn g [.ptr 1 0]) [.mp kks kagg agg sz M, .cells [.mp 0]]
  | [.any (.map none)], [] => K (.fn g [.ptr 0 0]) [.cells [.any (.map none)]]
  | _, _ => False
theorem okMapKeys_of {P : Program} {ρ : Ren} (L : SlLaysZI.n7 P ρ) : SpecOk P (ρ.f 7) (SmapKeys (ρ.f 10)) := fun args kb K h σ E W xs hi hd => by
  unfold SmapKeys at h
  split at h <;> try exact h.elim
  · rename_i kks kagg agg sz M
    simp only [DenL, Den] at hd
    obtain ⟨x, xs', rfl, ⟨r, hr, rfl⟩, rfl⟩ := hd
    refine (callsIn_wide.1 (AnyZI.keys_in L Fence.wide 5 trivial rfl (some r.blk) W)).mono ?_
    rintro e W' ⟨rfl, rfl⟩
    have hlen : σ.length = 1 := hi.len
    have hD : DenC (σ ++ [⟨W.heap.size, 0, 0⟩]) E [V.mp 0] [Value.map (some r.blk)] :=
      DenC.cons1 (by simp only [Den]; exact ⟨r, by rw [List.getElem?_append_left (by omega)]; exact hr, rfl⟩) rfl DenC.nil
    have hst := hi.alloc (.cells #[.map (some r.blk)] (ρ.t 23)) ⟨W.heap.size, 0, 0⟩ (.cells [.mp 0]) (fun b hb => hb) ⟨_, _, (MapKept.heap_alloc W _).1, hD⟩
    refine ⟨_, .fn (ρ.f 10) [.ptr 1 0], _, E, _, rfl, hst, ?_, h⟩
    simp only [Den, DenL]
    exact ⟨_, rfl, _, _, rfl, ⟨⟨W.heap.size, 0, 0⟩, by rw [List.getElem?_append_right (by omega), hlen]; rfl, rfl⟩, rfl⟩
  · simp only [DenL, Den] at hd
    obtain ⟨x, xs', rfl, rfl, rfl⟩ := hd
    refine (callsIn_wide.1 (AnyZI.keys_in L Fence.wide 5 trivial rfl none W)).mono ?_
    rintro e W' ⟨rfl, rfl⟩
    have hlen : σ.length = 0 := hi.len
    have hD : DenC (σ ++ [⟨W.heap.size, 0, 0⟩]) E [V.any (.map none)] [Value.map none] :=
      DenC.cons1 (by simp only [Den]) rfl DenC.nil
    have hst := hi.alloc (.cells #[.map none] (ρ.t 23)) ⟨W.heap.size, 0, 0⟩ (.cells [.any (.map none)]) (fun b hb => hb) ⟨_, _, (MapKept.heap_alloc W _).1, hD⟩
    refine ⟨_, .fn (ρ.f 10) [.ptr 0 0], _, E, _, rfl, hst, ?_, h⟩
    simp only [Den, DenL]
    exact ⟨_, rfl, _, _, rfl, ⟨⟨W.heap.size, 0, 0⟩, by rw [List.getElem?_append_right (by omega), hlen]; rfl, rfl⟩, rfl⟩

/-- Maps whose keys are numbers, each once. -/
structure KeysOk (M : ML) : Prop where
  one : ∀ e ∈ M, ∃ n, e.1 = [n] ∧ -9223372036854775808 ≤ n ∧ n ≤ 9223372036854775807
  nd : (M.map (·.1)).Nodup
  len : M.length ≤ 1000000
def keysM (M : ML) : List Int := M.map fun e => e.1.headD 0
theorem keysM_nodup {M : ML} (h : KeysOk M) : (keysM M).Nodup := by
  unfold keysM
  have h1 := h.nd
  have h2 := h.one
  clear h
  induction M with
  | nil => simp
  | cons e M ih =>
    simp only [List.map_cons, List.nodup_cons] at h1 ⊢
    refine ⟨fun hm => h1.1 ?_, ih h1.2 (fun x hx => h2 x (List.mem_cons_of_mem _ hx))⟩
    obtain ⟨x, hx, he⟩ := List.mem_map.1 hm
    obtain ⟨n, hn, _⟩ := h2 e List.mem_cons_self
    obtain ⟨m, hm', _⟩ := h2 x (List.mem_cons_of_mem _ hx)
    rw [hn, hm'] at he
    simp only [List.headD_cons] at he
    exact List.mem_map.2 ⟨x, hx, by rw [hn, hm', he]⟩
/-- The reader that takes whatever a value is. -/
def anyR : Value → Option (DataW Unit × List MemPlace) := fun _ => some (.nil, [])
theorem ent_keys {E : EH} {agg : Bool} : ∀ {es : List MapEntry} {M : ML}, EntL E [.i64] false agg es M → (∀ e ∈ M, ∃ n, e.1 = [n] ∧ -9223372036854775808 ≤ n ∧ n ≤ 9223372036854775807) →
    es.map (·.key) = (keysM M).map (Value.int .i64) ∧ es.length = M.length
  | [], M, h, _ => by simp only [EntL] at h; subst h; exact ⟨rfl, rfl⟩
  | e :: es, M, h, hk => by
    simp only [EntL] at h
    obtain ⟨k, c, l', rfl, ⟨_, h2, _⟩, h4⟩ := h
    obtain ⟨ih1, ih2⟩ := ent_keys h4 (fun x hx => hk x (List.mem_cons_of_mem _ hx))
    obtain ⟨n, hn, _⟩ := hk _ List.mem_cons_self
    simp only at hn
    subst hn
    refine ⟨?_, by simp [ih2]⟩
    simp only [List.map_cons, keysM, ih1, h2]
    rfl
theorem wf_of {n : Int} (h1 : -9223372036854775808 ≤ n) (h2 : n ≤ 9223372036854775807) : (Lit.int .i64 n).wf = true := by
  have e1 : IntKind.i64.min = -9223372036854775808 := by decide
  have e2 : IntKind.i64.max = 9223372036854775807 := by decide
  simp only [Lit.wf, Bool.and_eq_true, decide_eq_true_eq, e1, e2]
  exact ⟨h1, h2⟩
theorem insert_perm {x : Lit × DataW Unit} : ∀ (l : List (Lit × DataW Unit)), (DataW.insert x l).Perm (x :: l)
  | [] => List.Perm.refl _
  | y :: r => by
    simp only [DataW.insert]
    split
    · exact List.Perm.refl _
    · exact ((insert_perm r).cons y).trans (List.Perm.swap x y r)
theorem foldr_perm (l : List (Lit × DataW Unit)) : (l.foldr DataW.insert []).Perm l := by
  induction l with
  | nil => exact List.Perm.refl _
  | cons x l ih => exact (insert_perm _).trans (ih.cons x)
/-- A map of ours in the contracts' words. -/
theorem owns_of {P : Program} {k : TypeId} (hk : P.underlying k = some (.int .i64)) {E : EH} {agg : Bool} {es : Array MapEntry} {clock : Nat} {M : ML} (h : EntL E [.i64] false agg es.toList M) (hb : BornOk es.toList clock) (hM : KeysOk M) {w : World} {b : Nat} (hw : w.heap[b]? = some (.map es clock)) :
    ∃ D0 : DataW Unit, w.ownsMap P k anyR b es.size D0 ∧ (intKeys D0).Perm (keysM M) ∧ Maps.size D0 = M.length := by
  obtain ⟨h1, h2⟩ := ent_keys h hM.one
  have hread : ∀ x ∈ es.toList, ∃ n : Int, x.key = .int .i64 n ∧ Go.WideElems.rd P k anyR x = some (.int .i64 n, .nil) := fun x hx => by
    have hx' : x.key ∈ es.toList.map (·.key) := List.mem_map.2 ⟨x, hx, rfl⟩
    rw [h1] at hx'
    obtain ⟨n, hn, he⟩ := List.mem_map.1 hx'
    obtain ⟨e, heM, hen⟩ := List.mem_map.1 hn
    obtain ⟨m, hm, b1, b2⟩ := hM.one e heM
    rw [hm] at hen
    simp only [List.headD_cons] at hen
    subst hen
    refine ⟨m, he.symm, ?_⟩
    have hkey : keyOf P k x.key = some (.int .i64 m) := by
      rw [← he]
      simp [keyOf, hk, mapKey, wf_of b1 b2]
    simp [Go.WideElems.rd, hkey, anyR]
  have hnd : (es.toList.map (·.key)).Nodup := by
    rw [h1]
    exact List.pairwise_map.2 ((keysM_nodup hM).imp fun hne e => hne (by simpa using e))
  have hF : Go.WideElems.Fit P k anyR es clock := ⟨by
    have := hM.len
    simp only [maxLen]
    simp only [Array.length_toList] at h2
    omega, ⟨fun x hx => hb.2 x hx, hb.1, hnd⟩, fun x hx => by obtain ⟨n, _, h3⟩ := hread x hx; exact ⟨_, h3⟩⟩
  refine ⟨.map ((es.toList.map (Go.WideElems.rg P k anyR)).foldr DataW.insert []), ⟨es, clock, hw, hF, Nat.le_refl _, rfl⟩, ?_, ?_⟩
  · show ((List.foldr DataW.insert [] (es.toList.map (Go.WideElems.rg P k anyR))).map fun p => Go.intOf p.1).Perm _
    refine ((foldr_perm _).map _).trans ?_
    have e2 : (es.toList.map (Go.WideElems.rg P k anyR)).map (fun p => Go.intOf p.1) = keysM M := by
      have e3 : (es.toList.map (Go.WideElems.rg P k anyR)).map (fun p => Value.int .i64 (Go.intOf p.1)) = es.toList.map (·.key) := by
        rw [List.map_map]
        refine List.map_congr_left fun x hx => ?_
        obtain ⟨n, h3, h4⟩ := hread x hx
        simp only [Function.comp, Go.WideElems.rg, h4, Option.getD_some, Go.intOf, h3]
      rw [h1] at e3
      have e4 : ((es.toList.map (Go.WideElems.rg P k anyR)).map (fun p => Go.intOf p.1)).map (Value.int .i64) = (keysM M).map (Value.int .i64) := by rw [List.map_map]; exact e3
      exact (List.map_inj_right (fun a b e => by simpa using e)).1 e4
    rw [e2]
  · show (List.foldr DataW.insert [] (es.toList.map (Go.WideElems.rg P k anyR))).length = _
    rw [(foldr_perm _).length_eq, List.length_map]
    exact h2
/-- Sorting what comes of a map's keys. -/
def Ssorted (g : FuncId) (ty : TypeId) : FSpec := fun args kb K => match args, kb with
  | [.fn g' [.ptr 0 0]], [.cells [.mp 1], .mp kks kagg agg sz M] => g' = g ∧ kks = [.i64] ∧ kagg = false ∧ KeysOk M ∧ (M = [] → K (.any (.slice none 0 0)) [.cells [.mp 1], .mp kks kagg agg sz M]) ∧
      K (.sl 2 0 M.length) [.cells [.mp 1], .mp kks kagg agg sz M, .row ty 1 (ints .i64 (sortI (keysM M)))]
  | [.fn g' [.ptr 0 0]], [.cells [.any (.map none)]] => g' = g ∧ K (.any (.slice none 0 0)) [.cells [.any (.map none)]]
  | _, _ => False
theorem sortI_perm {a b : List Int} (h : a.Perm b) : sortI a = sortI b := mergeSort_of_perm_i h
theorem okSorted_of {P : Program} {ρk ρs : Ren} (Lk : SlLaysZI.n10 P ρk) (Ls : SlLaysZI.n6 P ρs) (hs : ∀ m, AnyZI.SortsIn P ρs Fence.wide m)
    (e9 : ∀ args w, (callFunc (ρs.f 9) args).run P w = .ok (.enter (ρs.f 9) args) w) (eg : ∀ args w, (callFunc (ρk.f 10) args).run P w = .ok (.enter (ρk.f 10) args) w) :
    SpecOk P (ρs.f 6) (Ssorted (ρk.f 10) (ρs.t 26)) := fun args kb K h σ E W xs hi hd => by
  unfold Ssorted at h
  split at h <;> try exact h.elim
  · rename_i g' kks kagg agg sz M
    obtain ⟨rfl, rfl, rfl, hM, hnil, h⟩ := h
    simp only [DenL, Den] at hd
    obtain ⟨x, xs', rfl, ⟨vs, rfl, y, ys, rfl, ⟨r, hr, rfl⟩, rfl⟩, rfl⟩ := hd
    obtain ⟨arr, ty', k1, k2⟩ := hi.obj 0 r _ hr rfl
    obtain ⟨zs, zs', k3, k4, k5⟩ := k2.uncons
    simp only [DenC] at k5
    subst k5
    rcases k4 with ⟨y, rfl, _, k4⟩ | ⟨m, cs, e, _, _⟩
    case inr => cases e
    simp only [Den] at k4
    obtain ⟨r1, hr1, rfl⟩ := k4
    obtain ⟨m1, es, clock, m2, m3, m4⟩ := hi.obj 1 r1 _ hr1 rfl
    obtain ⟨D0, o1, o2, o3⟩ := owns_of Lk.t26 m3 m4 hM m2
    have hcell : W.cell? ⟨r.blk, 0, none⟩ = some (.map (some r1.blk)) := by
      have : arr = #[Value.map (some r1.blk)] := by apply Array.ext'; rw [k3]; rfl
      rw [cell_of_heap k1, this]; rfl
    have hlt : r.blk < W.heap.size := (Array.getElem?_eq_some_iff.1 k1).1
    have hseq : SeqGives Fence.wide 2 P (ρk.f 10) #[.pointer (some ⟨r.blk, 0, none⟩)] encZ (fun ss => ss.Perm (intKeys D0)) (Maps.size D0) W :=
      AnyZI.keys_gives Lk Fence.wide _ trivial rfl (by omega) r.blk r1.blk es.size D0 W hlt hcell o1
    have hlen := hM.len
    have cS := AnyZI.sorted_in Ls Fence.wide 5 trivial trivial trivial trivial rfl (by omega) (hs _) e9 (ρk.f 10) #[.pointer (some ⟨r.blk, 0, none⟩)] trivial eg _ _ (by rw [o3]; simp only [maxLen]; omega) (by rw [o3]; omega) W hseq
    refine (callsIn_wide.1 cS).mono ?_
    rintro e W' ⟨v, ss, rfl, hS, hrow, hvn, hbl⟩
    have hp : ss.Perm (keysM M) := hS.trans o2
    have hsl : ss.length = M.length := by rw [hp.length_eq]; unfold keysM; rw [List.length_map]
    have hmore := hi.more hbl.os hbl.tape hbl.output hbl.size hbl.block
    rcases hrow.2 with ⟨rfl, hz⟩ | ⟨gb, cap, cur, rfl, hbase, hgb, c1, c2, c3, c4⟩
    · have hM0 : M = [] := List.eq_nil_of_length_eq_zero (by omega)
      exact ⟨_, .any (.slice none 0 0), σ, E, _, rfl, hmore, by simp only [Den], hnil hM0⟩
    · have hss : ss.mergeSort (fun x y => decide (x ≤ y)) = sortI (keysM M) := sortI_perm hp
      have hslen : (sortI (keysM M)).length = M.length := by rw [sortI_len]; unfold keysM; rw [List.length_map]
      have hgrow := hi.grow (W' := W') ⟨gb, cap, 1⟩ (.row (ρs.t 26) 1 (ints .i64 (sortI (keysM M)))) hbl.os hbl.tape hbl.output hbl.size hbl.block (fun b hb => by have := hb.2; simp only at this; omega)
        ⟨rfl, fun e he => by simp only [ints, List.mem_map] at he; obtain ⟨_, _, rfl⟩ := he; rfl, by rw [ints_len, hslen]; simp only; omega, c2, .inr ⟨cur, hgb, by simp only; omega, by
          rw [ints_len, hslen, ← hsl]
          simp only [Nat.mul_one] at c4 ⊢
          rw [c4, hss]
          exact ints_den _⟩⟩
      refine ⟨_, .sl 2 0 M.length, _, E, _, rfl, hgrow, ?_, h⟩
      simp only [Den]
      refine ⟨⟨gb, cap, 1⟩, some ⟨gb, 0, none⟩, by rw [List.getElem?_append_right (by rw [hi.len]; exact Nat.le_refl _), hi.len]; rfl, by rw [hsl]; rfl, Nat.zero_le _, by simp only; omega, fun _ => by simp⟩
  · rename_i g'
    obtain ⟨rfl, h⟩ := h
    simp only [DenL, Den] at hd
    obtain ⟨x, xs', rfl, ⟨vs, rfl, y, ys, rfl, ⟨r, hr, rfl⟩, rfl⟩, rfl⟩ := hd
    obtain ⟨arr, ty', k1, k2⟩ := hi.obj 0 r _ hr rfl
    obtain ⟨zs, zs', k3, k4, k5⟩ := k2.uncons
    simp only [DenC] at k5
    subst k5
    rcases k4 with ⟨y, rfl, _, k4⟩ | ⟨m, cs, e, _, _⟩
    case inr => cases e
    simp only [Den] at k4
    subst k4
    have hcell : W.cell? ⟨r.blk, 0, none⟩ = some (.map none) := by
      have : arr = #[Value.map none] := by apply Array.ext'; rw [k3]; rfl
      rw [cell_of_heap k1, this]; rfl
    have hlt : r.blk < W.heap.size := (Array.getElem?_eq_some_iff.1 k1).1
    have hseq : SeqGives Fence.wide 2 P (ρk.f 10) #[.pointer (some ⟨r.blk, 0, none⟩)] encZ (fun ss : List Int => ss = []) 0 W :=
      AnyZI.keys_gives_nil Lk Fence.wide _ trivial rfl r.blk W hlt hcell
    have cS := AnyZI.sorted_in Ls Fence.wide 5 trivial trivial trivial trivial rfl (by omega) (hs _) e9 (ρk.f 10) #[.pointer (some ⟨r.blk, 0, none⟩)] trivial eg _ 0 (Nat.zero_le _) (by omega) W hseq
    refine (callsIn_wide.1 cS).mono ?_
    rintro e W' ⟨v, ss, rfl, hS, hrow, hvn, hbl⟩
    have hmore := hi.more hbl.os hbl.tape hbl.output hbl.size hbl.block
    exact ⟨_, .any (.slice none 0 0), σ, E, _, rfl, hmore, by simp only [Den]; exact hvn.2 hS, h⟩
end Vc
