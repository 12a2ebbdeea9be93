import Derived.Test.YtfcjngcnifdmnaaQc
import Derived.Below
import Derived.ProofKit
import Derived.OpenShut
import Derived.Carry
import Derived.IntWalk
import Derived.Test.YtfcjngcnifdmnaaRows
import Derived.KernelRfl
import Derived.Shelf.Sort.Plain
import Derived.Shelf.Slices.In.SortNone
import Derived.Shelf.SlMaps.Clone
import Derived.Shelf.SlIterI.Nil
import Derived.Shelf.SlIterI.Sorted
set_option linter.unusedSimpArgs false
set_option linter.unusedVariables false
namespace Vc
open Go
abbrev FSpec:=List V→KB→(V→KB→Prop)→Prop
def SpecOk (P : Program) (f : FuncId) (S : FSpec) : Prop:=∀ args kb K,S args kb K→∀ σ E W xs,Inv σ E kb W→DenL σ E args xs →
  Calls P f xs.toArray W (fun e W' => ∃ v r σ' E' kb',e = .returned v∧Step σ E kb W σ' E' kb' W'∧Den σ' E' r v∧K r kb')
def backIx (o : List Nat) (n : Nat) (k : Nat) : Option Nat :=
  match o[k]? with
  | some i => some i
  | none => some (n + (k - o.length))
def renAll (ρ : Nat→Option Nat) : KB→Option KB
  | [] => some []
  | x :: xs => match KO.ren ρ x,renAll ρ xs with
    | some y,some ys => some (y :: ys)
    | _,_ => none
theorem renAll_ok {ρ : Nat→Option Nat} : ∀ {l r : KB},renAll ρ l = some r→r.length = l.length∧∀ (m : Nat) (b : KO),r[m]? = some b→∃ a,l[m]? = some a∧KO.ren ρ a = some b
  | [],r,h => by simp only [renAll,Option.some.injEq] at h; subst h; simp
  | x :: xs,r,h => by
    simp only [renAll] at h
    split at h <;> try (cases h; done)
    rename_i y ys h1 h2
    cases h
    obtain ⟨h3,h4⟩:=renAll_ok h2
    refine ⟨by simp [h3],fun m b hb => ?_⟩
    cases m with
    | zero => simp at hb; subst hb; exact ⟨x,rfl,h1⟩
    | succ m => simpa using h4 m b (by simpa using hb)
def backKB (kb2 : KB) (o : List Nat) (ρ : Nat→Option Nat) : Nat→KB→Option KB
  | _,[] => renAll ρ (kb2.drop o.length)
  | i,x :: r => match idx o i with
    | some k => match kb2[k]? with
      | some a => match KO.ren ρ a,backKB kb2 o ρ (i + 1) r with
        | some b,some t => some (b :: t)
        | _,_ => none
      | none => none
    | none => match backKB kb2 o ρ (i + 1) r with
      | some t => some (x :: t)
      | none => none
theorem backKB_ok {kb2 : KB} {o : List Nat} {ρ : Nat→Option Nat} : ∀ {r : KB} {i0 : Nat} {out : KB},backKB kb2 o ρ i0 r = some out →
    out.length = r.length + (kb2.length - o.length)∧∀ (j : Nat) (b : KO),out[j]? = some b →
      (j < r.length∧idx o (i0 + j) = none∧r[j]? = some b)∨(j < r.length∧∃ k a,idx o (i0 + j) = some k∧kb2[k]? = some a∧KO.ren ρ a = some b) ∨
      (r.length ≤ j∧∃ a,kb2[o.length + (j - r.length)]? = some a∧KO.ren ρ a = some b)
  | [],i0,out,h => by
    simp only [backKB] at h
    obtain ⟨h1,h2⟩:=renAll_ok h
    refine ⟨by simp [h1],fun j b hb => .inr (.inr ⟨by simp,?_⟩)⟩
    obtain ⟨a,ha,hr⟩:=h2 j b hb
    exact ⟨a,by simpa using ha,hr⟩
  | x :: r,i0,out,h => by
    simp only [backKB] at h
    have step : ∀ {t : KB},backKB kb2 o ρ (i0 + 1) r = some t→∀ (y : KO),((idx o i0 = none∧y = x)∨∃ k a,idx o i0 = some k∧kb2[k]? = some a∧KO.ren ρ a = some y) →
        (y :: t).length = (x :: r).length + (kb2.length - o.length)∧∀ (j : Nat) (b : KO),(y :: t)[j]? = some b →
        (j < (x :: r).length∧idx o (i0 + j) = none∧(x :: r)[j]? = some b)∨(j < (x :: r).length∧∃ k a,idx o (i0 + j) = some k∧kb2[k]? = some a∧KO.ren ρ a = some b) ∨
        ((x :: r).length ≤ j∧∃ a,kb2[o.length + (j - (x :: r).length)]? = some a∧KO.ren ρ a = some b):=by
      intro t ht y hy
      obtain ⟨h1,h2⟩:=backKB_ok ht
      refine ⟨by simp [h1]; omega,fun j b hb => ?_⟩
      cases j with
      | zero =>
        simp at hb; subst hb
        rcases hy with ⟨h3,rfl⟩ | ⟨k,a,h3,h4,h5⟩
        · exact .inl ⟨by simp,by simpa using h3,rfl⟩
        · exact .inr (.inl ⟨by simp,k,a,by simpa using h3,h4,h5⟩)
      | succ j =>
        rcases h2 j b (by simpa using hb) with ⟨k1,k2,k3⟩ | ⟨k1,k,a,k2,k3,k4⟩ | ⟨k1,a,k2,k3⟩
        · exact .inl ⟨by simpa using k1,by rw [show i0 + (j + 1) = i0 + 1 + j by omega]; exact k2,by simpa using k3⟩
        · exact .inr (.inl ⟨by simpa using k1,k,a,by rw [show i0 + (j + 1) = i0 + 1 + j by omega]; exact k2,k3,k4⟩)
        · exact .inr (.inr ⟨by simpa using k1,a,by rw [show o.length + (j + 1 - (x :: r).length) = o.length + (j - r.length) by simp]; exact k2,k3⟩)
    split at h
    · rename_i k hk
      split at h <;> try (cases h; done)
      rename_i a ha
      split at h <;> try (cases h; done)
      rename_i b t hb ht
      cases h
      exact step ht b (.inr ⟨k,a,hk,ha,hb⟩)
    · rename_i hk
      split at h <;> try (cases h; done)
      rename_i t ht
      cases h
      exact step ht x (.inl ⟨hk,rfl⟩)
def specG (pl : Bool) (S : FSpec) (args : List V) (kb : KB) (K : V→KB→Prop) : Prop :=
  match canonP pl 0 args kb with
  | some (args',sub,o) => S args' sub (fun r kb2 => match Nat.ble o.length kb2.length,V.ren (backIx o kb.length) r,backKB kb2 o (backIx o kb.length) 0 kb with
    | true,some r',some kb' => K r' kb'
    | _,_,_ => False)
  | none => False
def specK (S : FSpec) (args : List V) (kb : KB) (K : V→KB→Prop) : Prop:=specG false S args kb K
def specO (S : FSpec) (args : List V) (kb : KB) (K : V→KB→Prop) : Prop:=specG true S args kb K
theorem idx_none {l : List Nat} {i : Nat} (h : idx l i = none) : i ∉ l:=fun hm => by
  obtain ⟨k,hk⟩:=idx_of_mem hm
  rw [h] at hk; cases hk
theorem owns_sel {σ : Sg} {kb : KB} (hlen : σ.length = kb.length) {o : List Nat} {sub : KB} (hs : selKB (idx o) kb o = some sub) {b : Nat} (h : Owns (selSg σ o) sub b) :
    ∃ i r ob,i ∈ o∧σ[i]? = some r∧kb[i]? = some ob∧owned r ob b:=by
  obtain ⟨hl,hget⟩:=selKB_ok hs
  obtain ⟨k,r,o',h1,h2,h3⟩:=h
  simp only [selSg,List.getElem?_map,Option.map_eq_some_iff] at h1
  obtain ⟨i,hi,hr⟩:=h1
  obtain ⟨ob,o2,ho,ho2,hk⟩:=hget k i hi
  rw [h2] at hk; cases hk
  have hlt : i < σ.length:=by rw [hlen]; exact (List.getElem?_eq_some_iff.1 ho).1
  rw [List.getElem?_eq_getElem hlt] at hr
  simp at hr
  exact ⟨i,r,ob,List.mem_of_getElem? hi,by rw [List.getElem?_eq_getElem hlt,hr],ho,(owned_ren ho2).1 h3⟩
theorem specG_ok {pl : Bool} {P : Program} {f : FuncId} {S : FSpec} (hS : SpecOk P f S) {args : List V} {kb : KB} {K : V→KB→Prop} (h : specG pl S args kb K) {σ : Sg} {E : EH} {W : World} {xs : List Value} (hi : Inv σ E kb W) (hd : DenL σ E args xs) :
    Calls P f xs.toArray W (fun e W' => ∃ v r σ' E' kb',e = .returned v∧Step σ E kb W σ' E' kb' W'∧Den σ' E' r v∧K r kb'):=by
  unfold specG at h
  split at h <;> try exact h.elim
  rename_i args' sub o hc
  obtain ⟨hn,_,hra,hsel⟩:=canonP_ok hc
  obtain ⟨k1,k2,k3⟩:=hi.sel hn hsel
  obtain ⟨hsl,hget⟩:=selKB_ok hsel
  refine (hS args' sub _ h (selSg σ o) E W xs k1 (DenL.ren k3 hra hd)).mono ?_
  rintro e W' ⟨v,r,σs,E',kb2,rfl,hst,hden,hK⟩
  split at hK <;> try exact hK.elim
  rename_i r' kb' hble hr' hkb'
  have hle:=Nat.le_of_ble_eq_true hble
  obtain ⟨τ,hτ⟩:=hst.pre
  have hsgl : (selSg σ o).length = o.length:=by simp [selSg]
  have hl2 : σs.length = kb2.length:=hst.inv.len
  obtain ⟨hout,hcase0⟩:=backKB_ok hkb'
  let σ'':=σ ++ σs.drop o.length
  have hβ : ∀ i j r,backIx o kb.length i = some j→σs[i]? = some r→σ''[j]? = some r:=by
    intro i j r hb hr
    unfold backIx at hb
    split at hb
    · rename_i q hq
      cases hb
      have hil : i < o.length:=(List.getElem?_eq_some_iff.1 hq).1
      rw [hτ,List.getElem?_append_left (by rw [hsgl]; exact hil)] at hr
      simp only [selSg,List.getElem?_map,hq,Option.map_some,Option.some.injEq] at hr
      obtain ⟨ob,_,hob,_,_⟩:=hget i j hq
      have hjl : j < σ.length:=by rw [hi.len]; exact (List.getElem?_eq_some_iff.1 hob).1
      rw [List.getElem?_eq_getElem hjl] at hr
      simp only [Option.getD_some] at hr
      show (σ ++ _)[j]? = _
      rw [List.getElem?_append_left hjl,List.getElem?_eq_getElem hjl,hr]
    · rename_i hq
      cases hb
      have hil : o.length ≤ i:=by
        rcases Nat.lt_or_ge i o.length with h' | h'
        · rw [List.getElem?_eq_getElem h'] at hq; cases hq
        · exact h'
      show (σ ++ _)[_]? = _
      rw [List.getElem?_append_right (by rw [hi.len]; omega),hi.len,show kb.length + (i - o.length) - kb.length = i - o.length by omega,List.getElem?_drop,show o.length + (i - o.length) = i by omega]
      exact hr
  have hcase : ∀ (i : Nat) (r : Re) (ob : KO),σ''[i]? = some r→kb'[i]? = some ob →
      (∃ k a,backIx o kb.length k = some i∧σs[k]? = some r∧kb2[k]? = some a∧KO.ren (backIx o kb.length) a = some ob)∨(i ∉ o∧σ[i]? = some r∧kb[i]? = some ob):=by
    intro i r ob h1 h2
    rcases hcase0 i ob h2 with ⟨c1,c2,c3⟩ | ⟨c1,k,a,c2,c3,c4⟩ | ⟨c1,a,c2,c3⟩
    · rw [Nat.zero_add] at c2
      have h1' : (σ ++ σs.drop o.length)[i]? = some r:=h1
      rw [List.getElem?_append_left (by rw [hi.len]; exact c1)] at h1'
      exact .inr ⟨idx_none c2,h1',c3⟩
    · rw [Nat.zero_add] at c2
      have hk:=idx_spec c2
      have hkl : k < σs.length:=by rw [hl2]; exact (List.getElem?_eq_some_iff.1 c3).1
      have hb : backIx o kb.length k = some i:=by simp [backIx,hk]
      have:=hβ k i _ hb (List.getElem?_eq_getElem hkl)
      rw [this] at h1
      exact .inl ⟨k,a,hb,by rw [List.getElem?_eq_getElem hkl]; exact h1,c3,c4⟩
    · have hb : backIx o kb.length (o.length + (i - kb.length)) = some i:=by
        have : o[o.length + (i - kb.length)]? = none:=List.getElem?_eq_none (by omega)
        simp only [backIx,this]
        congr 1
        omega
      have hkl : o.length + (i - kb.length) < σs.length:=by rw [hl2]; exact (List.getElem?_eq_some_iff.1 c2).1
      have:=hβ _ i _ hb (List.getElem?_eq_getElem hkl)
      rw [this] at h1
      exact .inl ⟨_,a,hb,by rw [List.getElem?_eq_getElem hkl]; exact h1,c2,c3⟩
  have hsubown : ∀ b,Owns (selSg σ o) sub b→∀ (j : Nat) (r : Re) (ob : KO),j ∉ o→σ[j]? = some r→kb[j]? = some ob→owned r ob b→False:=by
    intro b hb j r ob hj h1 h2 h3
    obtain ⟨i,r2,o2,g1,g2,g3,g4⟩:=owns_sel hi.len hsel hb
    exact hi.disj i j r2 r o2 ob b (fun e => by subst e; exact hj g1) g2 g3 h1 h2 g4 h3
  have hother : ∀ (j : Nat) (r : Re) (ob : KO),j ∉ o→σ[j]? = some r→kb[j]? = some ob→∀ b,owned r ob b→W'.heap[b]? = W.heap[b]?:=by
    intro j r ob hj h1 h2 b h3
    exact hst.stp.block b ((hi.obj j r ob h1 h2).lt h3) (fun hb => hsubown b hb j r ob hj h1 h2 h3)
  have hownA : ∀ b (k : Nat) (r : Re) (a : KO),σs[k]? = some r→kb2[k]? = some a→owned r a b→Owns (selSg σ o) sub b∨W.heap.size ≤ b:=fun b k r a h1 h2 h3 => hst.own b ⟨k,r,a,h1,h2,h3⟩
  have hown : ∀ b,Owns σ'' kb' b→Owns σ kb b∨W.heap.size ≤ b:=by
    rintro b ⟨i,r,ob,h1,h2,h3⟩
    rcases hcase i r ob h1 h2 with ⟨k,a,_,g2,g3,g4⟩ | ⟨g1,g2,g3⟩
    · rcases hownA b k r a g2 g3 ((owned_ren g4).1 h3) with h4 | h4
      · exact .inl (k2 b h4)
      · exact .inr h4
    · exact .inl ⟨i,r,ob,g2,g3,h3⟩
  refine ⟨v,r',σ'',E',kb',rfl,⟨⟨?_,fun i r ob h1 h2 => ?_,fun i j r1 r2 o1 o2 b hij h1 h2 h3 h4 h5 h6 => ?_,hst.inv.imm,fun b hb => ?_⟩,⟨hst.stp.os,hst.stp.tape,hst.stp.output,hst.stp.size,fun b hb hn' => hst.stp.block b hb (fun h => hn' (k2 b h))⟩,⟨_,rfl⟩,hst.le,hown,fun b x hb => ?_⟩,Den.ren hβ hr' hden,hK⟩
  · simp only [σ'',List.length_append,List.length_drop,hout,hi.len,hl2]
  · rcases hcase i r ob h1 h2 with ⟨k,a,_,g2,g3,g4⟩ | ⟨g1,g2,g3⟩
    · exact (hst.inv.obj k r a g2 g3).ren hβ g4
    · exact (hi.obj i r ob g2 g3).mono hst.le (fun b hb => hother i r ob g1 g2 g3 b hb)
  · rcases hcase i r1 o1 h1 h2 with ⟨k,a,g1,g2,g3,g4⟩ | ⟨g1,g2,g3⟩ <;> rcases hcase j r2 o2 h3 h4 with ⟨m,a',q1,q2,q3,q4⟩ | ⟨q1,q2,q3⟩
    · refine hst.inv.disj k m r1 r2 a a' b (fun e => ?_) g2 g3 q2 q3 ((owned_ren g4).1 h5) ((owned_ren q4).1 h6)
      subst e
      rw [g1] at q1
      cases q1
      exact hij rfl
    · rcases hownA b k r1 a g2 g3 ((owned_ren g4).1 h5) with h7 | h7
      · exact hsubown b h7 j r2 o2 q1 q2 q3 h6
      · have:=(hi.obj j r2 o2 q2 q3).lt h6; omega
    · rcases hownA b m r2 a' q2 q3 ((owned_ren q4).1 h6) with h7 | h7
      · exact hsubown b h7 i r1 o1 g1 g2 g3 h5
      · have:=(hi.obj i r1 o1 g2 g3).lt h5; omega
    · exact hi.disj i j r1 r2 o1 o2 b hij g2 g3 q2 q3 h5 h6
  · obtain ⟨i,r,ob,h1,h2,h3⟩:=hb
    rcases hcase i r ob h1 h2 with ⟨k,a,_,g2,g3,g4⟩ | ⟨g1,g2,g3⟩
    · exact hst.inv.sep b ⟨k,r,a,g2,g3,(owned_ren g4).1 h3⟩
    · cases hE : E' b with
      | none => rfl
      | some x =>
        rcases hst.new b x hE with h4 | h4 | h4
        · have:=hi.sep b ⟨i,r,ob,g2,g3,h3⟩; rw [this] at h4; cases h4
        · exact (hsubown b h4 i r ob g1 g2 g3 h3).elim
        · have:=(hi.obj i r ob g2 g3).lt h3; omega
  · rcases hst.new b x hb with h4 | h4 | h4
    · exact .inl h4
    · exact .inr (.inl (k2 b h4))
    · exact .inr (.inr h4)
theorem specK_ok {P : Program} {f : FuncId} {S : FSpec} (hS : SpecOk P f S) {args : List V} {kb : KB} {K : V→KB→Prop} (h : specK S args kb K) {σ : Sg} {E : EH} {W : World} {xs : List Value} (hi : Inv σ E kb W) (hd : DenL σ E args xs) :
    Calls P f xs.toArray W (fun e W' => ∃ v r σ' E' kb',e = .returned v∧Step σ E kb W σ' E' kb' W'∧Den σ' E' r v∧K r kb'):=specG_ok hS h hi hd
theorem specO_ok {P : Program} {f : FuncId} {S : FSpec} (hS : SpecOk P f S) {args : List V} {kb : KB} {K : V→KB→Prop} (h : specO S args kb K) {σ : Sg} {E : EH} {W : World} {xs : List Value} (hi : Inv σ E kb W) (hd : DenL σ E args xs) :
    Calls P f xs.toArray W (fun e W' => ∃ v r σ' E' kb',e = .returned v∧Step σ E kb W σ' E' kb' W'∧Den σ' E' r v∧K r kb'):=specG_ok hS h hi hd
def flatB : KB→Bool
  | [] => true
  | .objs _ :: _ => false
  | .obj1 _ :: _ => false
  | _ :: kb => flatB kb
theorem flatB_ok : ∀ {kb : KB},flatB kb = true→∀ (i : Nat) (o : KO),kb[i]? = some o→(∀ A,o ≠ .objs A)∧∀ a,o ≠ .obj1 a
  | [],_,i,o,h => by simp at h
  | x :: kb,hf,0,o,h => by
    simp at h; subst h
    exact ⟨fun A e => by subst e; simp [flatB] at hf,fun A e => by subst e; simp [flatB] at hf⟩
  | x :: kb,hf,i + 1,o,h => by
    refine flatB_ok (kb:=kb) ?_ i o (by simpa using h)
    cases x <;> first | exact hf | (simp [flatB] at hf)
theorem HoldsB.down {σ : Sg} {E : EH} {W : World} {r : Re} {o : KO} (h : HoldsB σ E W r o) {b : Nat} (ho : owned r o b) : ownedB r o b:=by
  cases o <;> first | exact ho | exact h.elim
theorem HoldsO.down {σ : Sg} {E : EH} {W : World} {r : Re} {o : KO} (h : HoldsO σ E W r o) (hn : (∀ A,o ≠ .objs A)∧∀ a,o ≠ .obj1 a) : HoldsB σ E W r o:=by
  cases o <;> first | exact h | exact trivial | exact absurd rfl (hn.1 _) | exact absurd rfl (hn.2 _)
theorem ObjOk.owns {E : EH} {W : World} {a : Sg × KB} (h : ObjOk E W a) {b : Nat} (ho : Owns a.1 a.2 b) : OwnsB a b:=by
  obtain ⟨i,r,o,h1,h2,h3⟩:=ho
  exact ⟨i,r,o,h1,h2,(h.obj i r o h1 h2).down h3⟩
theorem OwnsB.up {a : Sg × KB} {b : Nat} (h : OwnsB a b) : Owns a.1 a.2 b:=by
  obtain ⟨i,r,o,h1,h2,h3⟩:=h
  exact ⟨i,r,o,h1,h2,h3.up⟩
theorem ObjOk.inv {E : EH} {W : World} {a : Sg × KB} (h : ObjOk E W a) (himm : ∀ b o,E b = some o→W.heap[b]? = some o) (hsep : ∀ b,OwnsB a b→E b = none) : Inv a.1 E a.2 W :=
  ⟨h.len,fun i r o h1 h2 => (h.obj i r o h1 h2).up,fun i j r r' o o' b hij h1 h2 h3 h4 h5 h6 => h.disj i j r r' o o' b hij h1 h2 h3 h4 ((h.obj i r o h1 h2).down h5) ((h.obj j r' o' h3 h4).down h6),himm,fun b hb => hsep b (h.owns hb)⟩
theorem Inv.objOk {σ : Sg} {E : EH} {kb : KB} {W : World} (h : Inv σ E kb W) (hf : flatB kb = true) : ObjOk E W (σ,kb) :=
  ⟨h.len,fun i r o h1 h2 => (h.obj i r o h1 h2).down (flatB_ok hf i o h2),fun i j r r' o o' b hij h1 h2 h3 h4 h5 h6 => h.disj i j r r' o o' b hij h1 h2 h3 h4 h5.up h6.up⟩
def MethOk (P : Program) (f : FuncId) (S : FSpec) : Prop:=∀ args kb K,S args kb K→∀ σ E W xs,Inv σ E kb W→DenL σ E args xs →
  Calls P f xs.toArray W (fun e W' => ∃ v r σ' E' kb2 σ3 kb3,e = .returned v∧Step σ E kb W σ' E' kb2 W'∧Inv σ3 E' kb3 W'∧flatB kb3 = true∧(∀ b,Owns σ3 kb3 b→Owns σ' kb2 b)∧(∀ b,rootIs σ b→rootIs σ3 b)∧(∀ τ,Den τ E' r v)∧K r kb3)
def killAll : List Nat→KB→KB
  | [],kb => kb
  | i :: is,kb => killAll is (kb.set i .dead)
theorem killAll_len : ∀ {o : List Nat} {kb : KB},(killAll o kb).length = kb.length
  | [],kb => rfl
  | i :: is,kb => by simp only [killAll]; rw [killAll_len,List.length_set]
theorem killAll_get : ∀ {o : List Nat} {kb : KB} {j : Nat} {b : KO},(killAll o kb)[j]? = some b→b = .dead∨(j ∉ o∧kb[j]? = some b)
  | [],kb,j,b,h => .inr ⟨by simp,h⟩
  | i :: is,kb,j,b,h => by
    simp only [killAll] at h
    rcases killAll_get h with h1 | ⟨h1,h2⟩
    · exact .inl h1
    · by_cases e : i = j
      · subst e
        rw [List.getElem?_set_self'] at h2
        cases hk : kb[i]? with
        | none => rw [hk] at h2; simp at h2
        | some x => rw [hk] at h2; simp at h2; exact .inl h2.symm
      · rw [List.getElem?_set_ne e] at h2
        exact .inr ⟨fun hm => by
          rcases List.mem_cons.1 hm with e2 | e2
          · exact e e2.symm
          · exact h1 e2,h2⟩
def specT (S : FSpec) (args : List V) (kb : KB) (K : V→KB→Prop) : Prop :=
  match canonP false 0 args kb with
  | some (args',sub,o) => match o with
    | i0 :: _ => S args' sub (fun r kb3 => flatB kb3 = true→∀ τ,K r ((killAll o kb).set i0 (.obj1 (τ,kb3))))
    | [] => False
  | none => False
theorem specT_ok {P : Program} {f : FuncId} {S : FSpec} (hS : MethOk P f S) {args : List V} {kb : KB} {K : V→KB→Prop} (h : specT S args kb K) {σ : Sg} {E : EH} {W : World} {xs : List Value} (hi : Inv σ E kb W) (hd : DenL σ E args xs) :
    Calls P f xs.toArray W (fun e W' => ∃ v r σ' E' kb',e = .returned v∧Step σ E kb W σ' E' kb' W'∧Den σ' E' r v∧K r kb'):=by
  unfold specT at h
  split at h <;> try exact h.elim
  rename_i args' sub o hc
  split at h <;> try exact h.elim
  rename_i i0 o'
  obtain ⟨hn,_,hra,hsel⟩:=canonP_ok hc
  obtain ⟨k1,k2,k3⟩:=hi.sel hn hsel
  obtain ⟨hsl,hget⟩:=selKB_ok hsel
  have hi0 : i0 < kb.length:=by
    obtain ⟨ob,_,hob,_,_⟩:=hget 0 i0 rfl
    exact (List.getElem?_eq_some_iff.1 hob).1
  have hr0 : (selSg σ (i0 :: o'))[0]? = σ[i0]?:=by
    have : i0 < σ.length:=by rw [hi.len]; exact hi0
    simp [selSg,List.getElem?_eq_getElem this]
  refine (hS args' sub _ h (selSg σ (i0 :: o')) E W xs k1 (DenL.ren k3 hra hd)).mono ?_
  rintro e W' ⟨v,r,σ',E',kb2,σ3,kb3,rfl,hst,hin,hflat,hown3,hroot,hden,hK⟩
  have hob3:=hin.objOk hflat
  have hsubown : ∀ b,Owns (selSg σ (i0 :: o')) sub b→∀ (j : Nat) (r : Re) (ob : KO),j ∉ i0 :: o'→σ[j]? = some r→kb[j]? = some ob→owned r ob b→False:=by
    intro b hb j r ob hj h1 h2 h3
    obtain ⟨i,r2,o2,g1,g2,g3,g4⟩:=owns_sel hi.len hsel hb
    exact hi.disj i j r2 r o2 ob b (fun e => by subst e; exact hj g1) g2 g3 h1 h2 g4 h3
  have hnew3 : ∀ b,OwnsB (σ3,kb3) b→Owns (selSg σ (i0 :: o')) sub b∨W.heap.size ≤ b:=fun b hb => hst.own b (hown3 b hb.up)
  have hcase : ∀ (j : Nat) (ob : KO),((killAll (i0 :: o') kb).set i0 (.obj1 (σ3,kb3)))[j]? = some ob→(j = i0∧ob = .obj1 (σ3,kb3))∨ob = .dead∨(j ∉ i0 :: o'∧kb[j]? = some ob):=by
    intro j ob hj
    by_cases e : i0 = j
    · subst e
      rw [List.getElem?_set_self (by rw [killAll_len]; exact hi0)] at hj
      exact .inl ⟨rfl,(Option.some.inj hj).symm⟩
    · rw [List.getElem?_set_ne e] at hj
      exact .inr (killAll_get hj)
  have hown : ∀ b,Owns σ ((killAll (i0 :: o') kb).set i0 (.obj1 (σ3,kb3))) b→Owns σ kb b∨W.heap.size ≤ b:=by
    rintro b ⟨j,q,ob,h1,h2,h3⟩
    rcases hcase j ob h2 with ⟨rfl,rfl⟩ | rfl | ⟨g1,g2⟩
    · rcases hnew3 b h3 with g | g
      · exact .inl (k2 b g)
      · exact .inr g
    · exact h3.elim
    · exact .inl ⟨j,q,ob,h1,g2,h3⟩
  refine ⟨v,r,σ,E',_,rfl,⟨⟨?_,fun j q ob h1 h2 => ?_,fun j j' q q' ob ob' b hij h1 h2 h3 h4 h5 h6 => ?_,hst.inv.imm,fun b hb => ?_⟩,⟨hst.stp.os,hst.stp.tape,hst.stp.output,hst.stp.size,fun b hb hn' => hst.stp.block b hb (fun h => hn' (k2 b h))⟩,⟨[],by simp⟩,hst.le,hown,fun b x hb => ?_⟩,hden σ,hK hflat σ3⟩
  · rw [List.length_set,killAll_len,hi.len]
  · rcases hcase j ob h2 with ⟨rfl,rfl⟩ | rfl | ⟨g1,g2⟩
    · exact ⟨hob3,hroot q.blk ⟨q,by rw [hr0]; exact h1,rfl⟩⟩
    · trivial
    · have:=(hi.obj j q ob h1 g2).mono (τ:=[]) (W':=W') hst.le (fun b hb => hst.stp.block b ((hi.obj j q ob h1 g2).lt hb) (fun hs => hsubown b hs j q ob g1 h1 g2 hb))
      simpa using this
  · rcases hcase j ob h2 with ⟨rfl,rfl⟩ | rfl | ⟨g1,g2⟩ <;> rcases hcase j' ob' h4 with ⟨e2,e3⟩ | rfl | ⟨g1',g2'⟩
    · exact hij e2.symm
    · exact h6.elim
    · rcases hnew3 b h5 with g | g
      · exact hsubown b g j' q' ob' g1' h3 g2' h6
      · have:=(hi.obj j' q' ob' h3 g2').lt h6; omega
    · exact h5.elim
    · exact h5.elim
    · exact h5.elim
    · subst e3
      rcases hnew3 b h6 with g | g
      · exact hsubown b g j q ob g1 h1 g2 h5
      · have:=(hi.obj j q ob h1 g2).lt h5; omega
    · exact h6.elim
    · exact hi.disj j j' q q' ob ob' b hij h1 g2 h3 g2' h5 h6
  · obtain ⟨j,q,ob,h1,h2,h3⟩:=hb
    rcases hcase j ob h2 with ⟨rfl,rfl⟩ | rfl | ⟨g1,g2⟩
    · exact hin.sep b h3.up
    · exact h3.elim
    · cases hE : E' b with
      | none => rfl
      | some x =>
        rcases hst.new b x hE with h4 | h4 | h4
        · have:=hi.sep b ⟨j,q,ob,h1,g2,h3⟩; rw [this] at h4; cases h4
        · exact (hsubown b h4 j q ob g1 h1 g2 h3).elim
        · have:=(hi.obj j q ob h1 g2).lt h3; omega
  · rcases hst.new b x hb with h4 | h4 | h4
    · exact .inl h4
    · exact .inr (.inl (k2 b h4))
    · exact .inr (.inr h4)
theorem denL_one {σ : Sg} {E : EH} {v : V} {x : Value} (h : Den σ E v x) : DenL σ E [v] [x]:=by simp only [DenL]; exact ⟨x,[],rfl,h,rfl⟩
theorem denL_one' {σ : Sg} {E : EH} {v : V} {x : Value} (h : DenL σ E [v] [x]) : Den σ E v x:=by
  simp only [DenL] at h
  obtain ⟨y,ys,e,h1,rfl⟩:=h
  cases e
  exact h1
def nilIn (ds : List NilD) (S : FSpec) : FSpec:=fun args kb K => specK S (nilsK ds (args,kb)).1 (nilsK ds (args,kb)).2 K
theorem nilIn_ok {P : Program} {f : FuncId} {S : FSpec} (hS : SpecOk P f S) (ds : List NilD) : SpecOk P f (nilIn ds S):=fun args kb K h σ E W xs hi hd => by
  obtain ⟨σ',E2',h1,h2,_⟩:=nilsK_ok (c:=⟨σ,E,kb,W⟩) ds (s:=(args,kb)) (Step.refl hi) hd
  refine (specK_ok hS h h1.inv h2).mono ?_
  rintro e W' ⟨v,r,σs,E',kb2,rfl,hst,hden,hK⟩
  exact ⟨v,r,σs,E',kb2,rfl,Step.trans h1 hst,hden,hK⟩
def nilRes (ds : List NilD) (K : V→KB→Prop) : V→KB→Prop:=fun r kb => match r with
  | .tup l => K (.tup (nilsK ds (l,kb)).1) (nilsK ds (l,kb)).2
  | r => match (nilsK ds ([r],kb)).1 with
    | [r'] => K r' (nilsK ds ([r],kb)).2
    | _ => False
def nilOut (ds : List NilD) (S : FSpec) : FSpec:=fun args kb K => S args kb (nilRes ds K)
theorem nilOut_ok {P : Program} {f : FuncId} {S : FSpec} (hS : SpecOk P f S) (ds : List NilD) : SpecOk P f (nilOut ds S):=fun args kb K h σ E W xs hi hd => by
  refine (hS args kb _ h σ E W xs hi hd).mono ?_
  rintro e W' ⟨v,r,σs,E',kb2,rfl,hst,hden,hK⟩
  unfold nilRes at hK
  split at hK
  · rename_i l
    simp only [Den] at hden
    obtain ⟨vs,rfl,hl⟩:=hden
    obtain ⟨σ',E2',h1,h2,_⟩:=nilsK_ok (c:=⟨σ,E,kb,W⟩) ds (s:=(l,kb2)) hst hl
    exact ⟨_,_,_,_,_,rfl,h1,by simp only [Den]; exact ⟨vs,rfl,h2⟩,hK⟩
  · split at hK <;> try exact hK.elim
    rename_i r' hr
    obtain ⟨σ',E2',h1,h2,_⟩:=nilsK_ok (c:=⟨σ,E,kb,W⟩) ds (s:=([r],kb2)) hst (denL_one hden)
    rw [hr] at h2
    exact ⟨_,_,_,_,_,rfl,h1,denL_one' h2,hK⟩
def tidyRes (n0 : Nat) (K : V→KB→Prop) : V→KB→Prop:=fun r kb => match canon n0 [r] kb with
  | some ([r'],kb',_) => K r' kb'
  | _ => False
def tidyOut (S : FSpec) : FSpec:=fun args kb K => S args kb (tidyRes kb.length K)
theorem tidyOut_ok {P : Program} {f : FuncId} {S : FSpec} (hS : SpecOk P f S) : SpecOk P f (tidyOut S):=fun args kb K h σ E W xs hi hd => by
  refine (hS args kb _ h σ E W xs hi hd).mono ?_
  rintro e W' ⟨v,r,σs,E',kb2,rfl,hst,hden,hK⟩
  unfold tidyRes at hK
  split at hK <;> try exact hK.elim
  rename_i r' kb' o hc
  rw [← hi.len] at hc
  obtain ⟨σ',h1,h2⟩:=Step.sel (c:=⟨σ,E,kb,W⟩) hst hc (denL_one hden)
  exact ⟨_,_,_,_,_,rfl,h1,denL_one' h2,hK⟩
end Vc
set_option linter.unusedSimpArgs false
set_option linter.unusedVariables false
namespace Vc
open Go
inductive Mode where
  | asis
  | lend (s : Nat)
  | give (s : Nat)
  | pool
  | tail
def giveL : List Mode→List V→KB→(List V→KB→Prop)→Prop
  | _,[],kb,K => K [] kb
  | [],v :: vs,kb,K => K (v :: vs) kb
  | .give s :: ms,v :: vs,kb,K => conv1 (.sl s) v kb (fun d kb' => giveL ms vs kb' (fun us kb'' => K (.dat d :: us) kb''))
  | _ :: ms,v :: vs,kb,K => giveL ms vs kb (fun us kb' => K (v :: us) kb')
theorem giveL_ok : ∀ {ms : List Mode} {vs : List V} {kb : KB} {K : List V→KB→Prop},giveL ms vs kb K→∀ {σ : Sg} {E : EH} {W : World},Inv σ E kb W→∀ {xs : List Value},DenL σ E vs xs →
    ∃ E' kb' us,Step σ E kb W σ E' kb' W∧DenL σ E' us xs∧K us kb'
  | ms,[],kb,K,h,σ,E,W,hi,xs,hd => by
    have : K [] kb:=by cases ms with | nil => exact h | cons m ms => cases m <;> exact h
    exact ⟨E,kb,[],Step.refl hi,hd,this⟩
  | [],v :: vs,kb,K,h,σ,E,W,hi,xs,hd => ⟨E,kb,v :: vs,Step.refl hi,hd,h⟩
  | m :: ms,v :: vs,kb,K,h,σ,E,W,hi,xs,hd => by
    simp only [DenL] at hd
    obtain ⟨x,xs',rfl,h1,h2⟩:=hd
    have plain : giveL ms vs kb (fun us kb' => K (v :: us) kb')→∃ E' kb' us,Step σ E kb W σ E' kb' W∧DenL σ E' us (x :: xs')∧K us kb':=fun h => by
      obtain ⟨E1,kb1,us,s1,d1,hK⟩:=giveL_ok h hi h2
      have:=Den.mono (τ:=[]) s1.le h1
      rw [List.append_nil] at this
      exact ⟨E1,kb1,v :: us,s1,.cons this d1,hK⟩
    cases m with
    | asis => exact plain h
    | lend s => exact plain h
    | pool => exact plain h
    | tail => exact plain h
    | give s =>
      simp only [giveL] at h
      obtain ⟨E1,kb1,d,s1,r1,h⟩:=conv1_ok h hi h1
      have h2':=DenL.mono (τ:=[]) s1.le h2
      rw [List.append_nil] at h2'
      obtain ⟨E2,kb2,us,s2,d2,hK⟩:=giveL_ok h s1.inv h2'
      exact ⟨E2,kb2,.dat d :: us,s1.trans s2,.cons (by simp only [Den]; exact r1.mono s2.le) d2,hK⟩
def srcIds : V→List Nat
  | .sl i _ _ => [i]
  | .sa i _ _ _ _ _ => [i]
  | .se i _ _ _ _ _ => [i]
  | _ => []
def lend1 (kb : KB) (s : Nat) (v : V) : Option (Prop × V × List Nat) :=
  match srcV kb v with
  | some (sz,p,xs) => match szFits s sz with
    | true => some (p,.dat (.sl s xs),srcIds v)
    | false => none
  | none => none
def lendC (kb : KB) (s : Nat) : List V→Option (Prop × List V × List Nat)
  | [] => some (True,[],[])
  | v :: vs => match lendC kb s vs with
    | some (q,us,js) => match lend1 kb s v with
      | some (p,u,is) => some (p∧q,u :: us,is ++ js)
      | none => some (q,v :: us,js)
    | none => none
def lendV (kb : KB) (s : Nat) (v : V) : Option (Prop × V × List Nat) :=
  match v with
  | .agg l => match lendC kb s l with
    | some (p,us,is) => some (p,.agg us,is)
    | none => none
  | v => lend1 kb s v
def lendL (kb : KB) : List Mode→List V→Option (Prop × List V × List Nat)
  | _,[] => some (True,[],[])
  | .lend s :: ss,v :: vs => match lendV kb s v,lendL kb ss vs with
    | some (p,u,is),some (q,us,js) => some (p∧q,u :: us,is ++ js)
    | _,_ => none
  | [],v :: vs => match lendL kb [] vs with
    | some (p,us,is) => some (p,v :: us,is)
    | none => none
  | _ :: ss,v :: vs => match lendL kb ss vs with
    | some (p,us,is) => some (p,v :: us,is)
    | none => none
open Classical in
noncomputable def lentE (σ : Sg) (kb : KB) (is : List Nat) (W : World) (E : EH) : EH:=fun b => match E b with
  | some o => some o
  | none => if ∃ i ∈ is,∃ r o,σ[i]? = some r∧kb[i]? = some o∧owned r o b then W.heap[b]? else none
theorem lentE_le (σ : Sg) (kb : KB) (is : List Nat) (W : World) (E : EH) : E.le (lentE σ kb is W E):=fun b o h => by simp [lentE,h]
theorem lend1_ok {kb : KB} {s : Nat} {v u : V} {p : Prop} {is : List Nat} (h : lend1 kb s v = some (p,u,is)) (hp : p) {σ : Sg} {E : EH} {W : World} (hi : Inv σ E kb W) {x : Value} (hd : Den σ E v x) {js : List Nat} (hjs : ∀ i ∈ is,i ∈ js) :
    Den σ (lentE σ kb js W E) u x:=by
  unfold lend1 at h
  split at h <;> try (cases h; done)
  rename_i sz q xs hsrc
  split at h <;> try (cases h; done)
  rename_i hfit
  simp only [Option.some.injEq,Prod.mk.injEq] at h
  obtain ⟨rfl,rfl,rfl⟩:=h
  have hle:=lentE_le σ kb js W E
  by_cases hdat : ∃ l,v = .dat (.sl s l)∧xs = l
  · obtain ⟨l,rfl,rfl⟩:=hdat
    simp only [Den] at hd ⊢
    exact hd.mono hle
  have hE:=srcV_ok hsrc hp hi hd hfit
  obtain ⟨hw,a,cap,ys,rfl,hc,hD,ha⟩:=hE
  simp only [Den,RepD]
  refine ⟨a,cap,rfl,hc,?_⟩
  rcases ha with ha | ⟨b,o,rfl,ha⟩
  · exact .inl ha
  by_cases h0 : xs.length = 0
  · exact .inl h0
  refine .inr ⟨b,o,rfl,RepL.of_flat hw ((hD.mono hle).rep fun j y hj => ?_)⟩
  have hcell:=ha j y hj
  have key : ∀ {i : Nat} {r : Re} {ob : KO},i ∈ srcIds v→σ[i]? = some r→kb[i]? = some ob→owned r ob b→EH.cell (lentE σ kb js W E) b (o + j) = some y:=by
    intro i r ob hin hr hk ho
    have hn:=hi.sep b ⟨i,r,ob,hr,hk,ho⟩
    have hlt:=(hi.obj i r ob hr hk).lt ho
    have hb : lentE σ kb js W E b = W.heap[b]?:=by
      simp only [lentE,hn]
      rw [if_pos ⟨i,hjs i hin,r,ob,hr,hk,ho⟩]
    unfold EH.cell
    rw [hb]
    unfold World.cell? at hcell
    simp only at hcell
    split at hcell <;> first | (rename_i e; rw [e]; simpa using hcell) | (cases hcell)
  unfold srcV at hsrc
  split at hsrc
  · rename_i i lo hi'
    split at hsrc <;> try (cases hsrc; done)
    rename_i ty sz' l hl
    simp only [Option.some.injEq,Prod.mk.injEq] at hsrc
    obtain ⟨rfl,rfl,rfl⟩:=hsrc
    simp only [Den] at hd
    obtain ⟨r,ad,hr,e,g1,g2,g3⟩:=hd
    have hl0 : ((l.take hi').drop lo).length = hi' - lo:=by simp; omega
    simp only [Value.slice.injEq] at e
    have:=g3 (by omega)
    rw [← e.1] at this
    cases this
    exact key (by simp [srcIds]) hr hl ⟨by omega,rfl⟩
  · rename_i sz' l
    simp only [Option.some.injEq,Prod.mk.injEq] at hsrc
    obtain ⟨rfl,rfl,rfl⟩:=hsrc
    have : sz' = s:=Nat.eq_of_beq_eq_true hfit
    subst this
    exact (hdat ⟨_,rfl,rfl⟩).elim
  · simp only [Option.some.injEq,Prod.mk.injEq] at hsrc
    obtain ⟨_,_,rfl⟩:=hsrc
    exact (h0 rfl).elim
  · simp only [Option.some.injEq,Prod.mk.injEq] at hsrc
    obtain ⟨_,_,rfl⟩:=hsrc
    exact (h0 rfl).elim
  · rename_i i base o' s' n c
    split at hsrc <;> try (cases hsrc; done)
    rename_i l hl hb
    split at hsrc <;> try (cases hsrc; done)
    rename_i m cs hpc
    simp only [Option.some.injEq,Prod.mk.injEq] at hsrc
    obtain ⟨_,rfl,rfl⟩:=hsrc
    simp only [Den] at hd
    obtain ⟨r,ad,hr,e,g1,g3⟩:=hd
    simp only [Value.slice.injEq] at e
    have:=g3 (by omega)
    rw [← e.1] at this
    cases this
    exact key (by simp [srcIds]) hr hl rfl
  · rename_i i ix o' s' n c
    split at hsrc <;> try (cases hsrc; done)
    rename_i ty sz' l hl hb
    simp only [Option.some.injEq,Prod.mk.injEq] at hsrc
    obtain ⟨_,rfl,rfl⟩:=hsrc
    simp only [Den] at hd
    obtain ⟨r,ad,hr,e,g1,g3⟩:=hd
    simp only [Value.slice.injEq] at e
    have:=g3 (by omega)
    rw [← e.1] at this
    cases this
    have hk:=hi.obj i r _ hr hl
    obtain ⟨_,_,k3,_,_⟩:=hk
    exact key (by simp [srcIds]) hr hl ⟨by have:=hp.1; omega,rfl⟩
  · cases hsrc
theorem lendC_ok {kb : KB} {s : Nat} {σ : Sg} {E : EH} {W : World} (hi : Inv σ E kb W) {js : List Nat} : ∀ {vs us : List V} {p : Prop} {is : List Nat},lendC kb s vs = some (p,us,is)→p→(∀ i ∈ is,i ∈ js)→∀ {xs : List Value},DenC σ E vs xs→DenC σ (lentE σ kb js W E) us xs
  | [],us,p,is,h,_,_,xs,hd => by
    simp only [lendC,Option.some.injEq,Prod.mk.injEq] at h
    obtain ⟨_,rfl,_⟩:=h
    simpa only [DenC] using hd
  | v :: vs,us,p,is,h,hp,hjs,xs,hd => by
    simp only [lendC] at h
    obtain ⟨ys,zs,rfl,h1,h2⟩:=hd.uncons
    split at h <;> try (cases h; done)
    rename_i q ws ls hq
    split at h
    · rename_i p1 u is1 h3
      simp only [Option.some.injEq,Prod.mk.injEq] at h
      obtain ⟨rfl,rfl,rfl⟩:=h
      refine DenC.cons ?_ (lendC_ok hi hq hp.2 (fun i hi' => hjs i (List.mem_append_right _ hi')) h2)
      rcases h1 with ⟨y,rfl,h4,h5⟩ | ⟨m,cs,rfl,_,_⟩
      · exact .inl ⟨y,rfl,h4,lend1_ok h3 hp.1 hi h5 (fun i hi' => hjs i (List.mem_append_left _ hi'))⟩
      · cases h3
    · simp only [Option.some.injEq,Prod.mk.injEq] at h
      obtain ⟨rfl,rfl,rfl⟩:=h
      refine DenC.cons ?_ (lendC_ok hi hq hp hjs h2)
      rcases h1 with ⟨y,rfl,h4,h5⟩ | ⟨m,cs,rfl,h4,h5⟩
      · exact .inl ⟨y,rfl,h4,by simpa using Den.mono (τ:=[]) (lentE_le σ kb js W E) h5⟩
      · exact .inr ⟨m,cs,rfl,h4,h5.mono (lentE_le σ kb js W E)⟩
theorem lendV_ok {kb : KB} {s : Nat} {v u : V} {p : Prop} {is : List Nat} (h : lendV kb s v = some (p,u,is)) (hp : p) {σ : Sg} {E : EH} {W : World} (hi : Inv σ E kb W) {x : Value} (hd : Den σ E v x) {js : List Nat} (hjs : ∀ i ∈ is,i ∈ js) :
    Den σ (lentE σ kb js W E) u x:=by
  unfold lendV at h
  split at h
  · split at h <;> try (cases h; done)
    rename_i l p1 us is1 h1
    simp only [Option.some.injEq,Prod.mk.injEq] at h
    obtain ⟨rfl,rfl,rfl⟩:=h
    simp only [Den] at hd ⊢
    obtain ⟨vs,rfl,h2⟩:=hd
    exact ⟨vs,rfl,lendC_ok hi h1 hp hjs h2⟩
  · exact lend1_ok h hp hi hd hjs
theorem lendL_ok {kb : KB} {σ : Sg} {E : EH} {W : World} (hi : Inv σ E kb W) {js : List Nat} : ∀ {ss : List Mode} {vs us : List V} {p : Prop} {is : List Nat},lendL kb ss vs = some (p,us,is)→p→(∀ i ∈ is,i ∈ js)→∀ {xs : List Value},DenL σ E vs xs→DenL σ (lentE σ kb js W E) us xs
  | ss,[],us,p,is,h,_,_,xs,hd => by
    have : us = []:=by
      cases ss with
      | nil => simp only [lendL,Option.some.injEq,Prod.mk.injEq] at h; exact h.2.1.symm
      | cons m ss => cases m <;> (simp only [lendL,Option.some.injEq,Prod.mk.injEq] at h; exact h.2.1.symm)
    subst this
    simpa only [DenL] using hd
  | [],v :: vs,us,p,is,h,hp,hjs,xs,hd => by
    simp only [lendL] at h
    split at h <;> try (cases h; done)
    rename_i q ws ks hq
    simp only [Option.some.injEq,Prod.mk.injEq] at h
    obtain ⟨rfl,rfl,rfl⟩:=h
    simp only [DenL] at hd ⊢
    obtain ⟨x,xs',rfl,h1,h2⟩:=hd
    exact ⟨x,xs',rfl,by simpa using Den.mono (τ:=[]) (lentE_le σ kb js W E) h1,lendL_ok hi hq hp hjs h2⟩
  | m :: ss,v :: vs,us,p,is,h,hp,hjs,xs,hd => by
    have plain : (match lendL kb ss vs with | some (p,us,is) => some (p,v :: us,is) | none => none) = some (p,us,is)→DenL σ (lentE σ kb js W E) us xs:=fun h => by
      split at h <;> try (cases h; done)
      rename_i q ws ks hq
      simp only [Option.some.injEq,Prod.mk.injEq] at h
      obtain ⟨rfl,rfl,rfl⟩:=h
      simp only [DenL] at hd ⊢
      obtain ⟨x,xs',rfl,h1,h2⟩:=hd
      exact ⟨x,xs',rfl,by simpa using Den.mono (τ:=[]) (lentE_le σ kb js W E) h1,lendL_ok hi hq hp hjs h2⟩
    cases m with
    | asis => exact plain (by simpa only [lendL] using h)
    | give s => exact plain (by simpa only [lendL] using h)
    | pool => exact plain (by simpa only [lendL] using h)
    | tail => exact plain (by simpa only [lendL] using h)
    | lend s =>
      simp only [lendL] at h
      split at h <;> try (cases h; done)
      rename_i q u ks q' ws ls hq hq'
      simp only [Option.some.injEq,Prod.mk.injEq] at h
      obtain ⟨rfl,rfl,rfl⟩:=h
      simp only [DenL] at hd ⊢
      obtain ⟨x,xs',rfl,h1,h2⟩:=hd
      exact ⟨x,xs',rfl,lendV_ok hq hp.1 hi h1 (fun i hi' => hjs i (List.mem_append_left _ hi')),lendL_ok hi hq' hp.2 (fun i hi' => hjs i (List.mem_append_right _ hi')) h2⟩
def D.isVal : D→Prop
  | .val _ => True
  | .sl .. => False
def Plain (cs : List D) : Prop:=∀ d ∈ cs,d.isVal
theorem RepD.free {E E' : EH} {d : D} (h : d.isVal) {x : Value} (hr : RepD E d x) : RepD E' d x:=by
  cases d with
  | val v => simpa only [RepD] using hr
  | sl _ _ => exact h.elim
theorem DenD.free {E E' : EH} : ∀ {ds : List D} {xs : List Value},Plain ds→DenD E ds xs→DenD E' ds xs
  | [],_,_,hd => by simpa only [DenD] using hd
  | d :: ds,_,h,hd => by
    simp only [DenD] at hd ⊢
    obtain ⟨x,xs',h0,h1,h2⟩:=hd
    exact ⟨x,xs',h0,h1.free (h d (by simp)),h2.free (fun e he => h e (List.mem_cons_of_mem _ he))⟩
structure PlainS (cs : List D) : Prop where
  ok : Plain cs
def conjP : List (List D)→Prop
  | [] => True
  | [a] => PlainS a
  | a :: b :: l => PlainS a∧conjP (b :: l)
theorem conjP_mem : ∀ {l : List (List D)},conjP l→∀ a ∈ l,Plain a
  | [],_,a,ha => by cases ha
  | [b],h,a,ha => by simp at ha; subst ha; exact h.ok
  | b :: c :: l,h,a,ha => by
    rcases List.mem_cons.1 ha with rfl | ha
    · exact h.1.ok
    · exact conjP_mem h.2 a ha
mutual
def V.free : V→Option (List (List D))
  | .ipe .. => none
  | .ipo _ => none
  | .imp .. => none
  | .dat (.sl ..) => none
  | .arr _ cs => some [cs]
  | .agg l => V.freeL l
  | .tup l => V.freeL l
  | .fn _ l => V.freeL l
  | .dat d => some [[d]]
  | _ => some []
def V.freeL : List V→Option (List (List D))
  | [] => some []
  | v :: vs => match V.free v with
    | some p => match V.freeL vs with | some q => some (p ++ q) | none => none
    | none => none
end
mutual
theorem Den.free {σ : Sg} {E E' : EH} : ∀ {v : V} {ps : List (List D)},V.free v = some ps→(∀ p ∈ ps,Plain p)→∀ {x : Value},Den σ E v x→Den σ E' v x
  | .any _,_,_,_,_,hd | .int ..,_,_,_,_,hd | .lit ..,_,_,_,_,hd | .sb _,_,_,_,_,hd | .tt,_,_,_,_,hd | .ff,_,_,_,_,hd | .ptr ..,_,_,_,_,hd | .pa ..,_,_,_,_,hd | .sl ..,_,_,_,_,hd
  | .pe ..,_,_,_,_,hd | .pw ..,_,_,_,_,hd | .e0,_,_,_,_,hd | .sa ..,_,_,_,_,hd | .se ..,_,_,_,_,hd | .mp _,_,_,_,_,hd | .ch _,_,_,_,_,hd => by simpa only [Den] using hd
  | .arr ..,_,_,_,_,hd => by simp only [Den] at hd
  | .ipe ..,_,h,_,_,_ => by simp [V.free] at h
  | .ipo _,_,h,_,_,_ => by simp [V.free] at h
  | .imp ..,_,h,_,_,_ => by simp [V.free] at h
  | .dat d,ps,h,hp,x,hd => by
    cases d with
    | val v => simpa only [Den,RepD] using hd
    | sl _ _ => simp [V.free] at h
  | .agg l,ps,h,hp,x,hd => by
    simp only [V.free] at h
    simp only [Den] at hd ⊢
    obtain ⟨vs,h1,h2⟩:=hd
    exact ⟨vs,h1,DenC.free h hp h2⟩
  | .tup l,ps,h,hp,x,hd => by
    simp only [V.free] at h
    simp only [Den] at hd ⊢
    obtain ⟨vs,h1,h2⟩:=hd
    exact ⟨vs,h1,DenL.free h hp h2⟩
  | .fn f l,ps,h,hp,x,hd => by
    simp only [V.free] at h
    simp only [Den] at hd ⊢
    obtain ⟨vs,h1,h2⟩:=hd
    exact ⟨vs,h1,DenL.free h hp h2⟩
theorem DenL.free {σ : Sg} {E E' : EH} : ∀ {vs : List V} {ps : List (List D)},V.freeL vs = some ps→(∀ p ∈ ps,Plain p)→∀ {xs : List Value},DenL σ E vs xs→DenL σ E' vs xs
  | [],_,_,_,_,hd => by simpa only [DenL] using hd
  | v :: vs,ps,h,hp,xs,hd => by
    simp only [V.freeL] at h
    split at h <;> try (cases h; done)
    rename_i p h1
    split at h <;> try (cases h; done)
    rename_i q h2
    cases h
    simp only [DenL] at hd ⊢
    obtain ⟨x,xs',h0,k1,k2⟩:=hd
    exact ⟨x,xs',h0,Den.free h1 (fun a ha => hp a (List.mem_append_left _ ha)) k1,DenL.free h2 (fun a ha => hp a (List.mem_append_right _ ha)) k2⟩
theorem DenC.free {σ : Sg} {E E' : EH} : ∀ {vs : List V} {ps : List (List D)},V.freeL vs = some ps→(∀ p ∈ ps,Plain p)→∀ {xs : List Value},DenC σ E vs xs→DenC σ E' vs xs
  | [],_,_,_,_,hd => by simpa only [DenC] using hd
  | v :: vs,ps,h,hp,xs,hd => by
    simp only [V.freeL] at h
    split at h <;> try (cases h; done)
    rename_i p h1
    split at h <;> try (cases h; done)
    rename_i q h2
    cases h
    simp only [DenC] at hd ⊢
    obtain ⟨ys,zs,h0,k1,k2⟩:=hd
    refine ⟨ys,zs,h0,?_,DenC.free h2 (fun a ha => hp a (List.mem_append_right _ ha)) k2⟩
    rcases k1 with ⟨y,e,o,hy⟩ | ⟨m,cs,e,hl,hD⟩
    · exact .inl ⟨y,e,o,Den.free h1 (fun a ha => hp a (List.mem_append_left _ ha)) hy⟩
    · subst e
      simp only [V.free,Option.some.injEq] at h1
      subst h1
      exact .inr ⟨m,cs,rfl,hl,hD.free (hp cs (by simp))⟩
end
def KO.free : KO→Option (List (List D))
  | .cells l => V.freeL l
  | .row _ _ l => some [l.flatten]
  | .mp _ _ _ _ l => some [(l.map (·.2)).flatten]
  | .ch _ _ _ l => some [l.flatten]
  | .objs _ => none
  | .obj1 _ => none
  | .dead => some []
def freeKB : KB→Option (List (List D))
  | [] => some []
  | o :: kb => match KO.free o with
    | some p => match freeKB kb with | some q => some (p ++ q) | none => none
    | none => none
theorem EntL.free {E E' : EH} {kks : List IntKind} {kagg agg : Bool} : ∀ {es : List MapEntry} {l : List (List Int × List D)},Plain (l.map (·.2)).flatten→EntL E kks kagg agg es l→EntL E' kks kagg agg es l
  | [],_,_,h => by simpa only [EntL] using h
  | e :: es,_,hp,h => by
    simp only [EntL] at h ⊢
    obtain ⟨k,c,l',rfl,⟨h1,h1',ys,h2,h3⟩,h4⟩:=h
    simp only [List.map_cons,List.flatten_cons] at hp
    exact ⟨k,c,l',rfl,⟨h1,h1',ys,h2,h3.free (fun d hd => hp d (List.mem_append_left _ hd))⟩,h4.free (fun d hd => hp d (List.mem_append_right _ hd))⟩
theorem BufL.free {E E' : EH} {agg : Bool} : ∀ {vs : List Value} {l : List (List D)},Plain l.flatten→BufL E agg vs l→BufL E' agg vs l
  | [],_,_,h => by simpa only [BufL] using h
  | v :: vs,_,hp,h => by
    simp only [BufL] at h ⊢
    obtain ⟨c,l',rfl,⟨ys,h1,h2⟩,h3⟩:=h
    rw [List.flatten_cons] at hp
    exact ⟨c,l',rfl,⟨ys,h1,h2.free (fun d hd => hp d (List.mem_append_left _ hd))⟩,h3.free (fun d hd => hp d (List.mem_append_right _ hd))⟩
theorem HoldsO.free {σ : Sg} {E E' : EH} {W : World} {r : Re} {o : KO} {ps : List (List D)} (h : KO.free o = some ps) (hp : ∀ p ∈ ps,Plain p) (hh : HoldsO σ E W r o) : HoldsO σ E' W r o:=by
  cases o with
  | cells l => obtain ⟨arr,ty,h1,h2⟩:=hh; exact ⟨arr,ty,h1,DenC.free h hp h2⟩
  | row ty sz l =>
    simp only [KO.free,Option.some.injEq] at h
    subst h
    obtain ⟨h0,h1,h2,h3,h4⟩:=hh
    exact ⟨h0,h1,h2,h3,h4.elim .inl fun ⟨arr,k1,k2,k3⟩ => .inr ⟨arr,k1,k2,k3.free (hp _ (by simp))⟩⟩
  | mp kks kagg agg sz l =>
    simp only [KO.free,Option.some.injEq] at h
    subst h
    obtain ⟨h0,es,ck,h1,h2,h3⟩:=hh
    exact ⟨h0,es,ck,h1,h2.free (hp _ (by simp)),h3⟩
  | ch agg sz cap l =>
    simp only [KO.free,Option.some.injEq] at h
    subst h
    obtain ⟨h0,h00,bf,s,rr,h1,h2⟩:=hh
    exact ⟨h0,h00,bf,s,rr,h1,h2.free (hp _ (by simp))⟩
  | objs A => simp [KO.free] at h
  | obj1 a => simp [KO.free] at h
  | dead => trivial
theorem freeKB_ok : ∀ {kb : KB} {ps : List (List D)},freeKB kb = some ps→(∀ p ∈ ps,Plain p)→∀ (i : Nat) (o : KO),kb[i]? = some o→∃ qs,KO.free o = some qs∧∀ q ∈ qs,Plain q
  | [],_,_,_,i,o,ho => by simp at ho
  | x :: kb,ps,h,hp,i,o,ho => by
    simp only [freeKB] at h
    split at h <;> try (cases h; done)
    rename_i p h1
    split at h <;> try (cases h; done)
    rename_i q h2
    cases h
    cases i with
    | zero => simp at ho; subst ho; exact ⟨p,h1,fun a ha => hp a (List.mem_append_left _ ha)⟩
    | succ i => exact freeKB_ok h2 (fun a ha => hp a (List.mem_append_right _ ha)) i o (by simpa using ho)
def disjB : List Nat→List Nat→Bool
  | [],_ => true
  | i :: is,o => match memB o i with | true => false | false => disjB is o
theorem disjB_ok : ∀ {is o : List Nat},disjB is o = true→∀ i ∈ is,i ∉ o
  | i :: is,o,h,j,hj => by
    simp only [disjB] at h
    split at h
    · cases h
    · rename_i hm
      rcases List.mem_cons.1 hj with rfl | hj
      · intro hin
        obtain ⟨k,hk⟩:=idx_of_mem hin
        simp [memB,hk] at hm
      · exact disjB_ok h j hj
def specB (S : FSpec) (ms : List Mode) (args : List V) (kb : KB) (K : V→KB→Prop) : Prop :=
  giveL ms args kb (fun args kb => match lendL kb ms args with
    | some (_,args1,[]) => specK S args1 kb K
    | some (p,args1,is) => p∧(match canonP false 0 args1 kb with
      | some (args',sub,o) => match disjB is o with
        | true => S args' sub (fun r kb2 => match Nat.ble o.length kb2.length,V.ren (backIx o kb.length) r,backKB kb2 o (backIx o kb.length) 0 kb,V.free r,freeKB kb2 with
          | true,some r',some kb',some ps,some qs => conjP (ps ++ qs)∧K r' kb'
          | _,_,_,_,_ => False)
        | false => False
      | none => False)
    | none => False)
theorem lend1_none {kb : KB} {s : Nat} {v u : V} {q : Prop} (hq : lend1 kb s v = some (q,u,[])) {σ : Sg} {E : EH} {x : Value} (h1 : Den σ E v x) : Den σ E u x:=by
  unfold lend1 at hq
  split at hq <;> try (cases hq; done)
  rename_i sz r xs2 hsrc
  split at hq <;> try (cases hq; done)
  rename_i hfit
  simp only [Option.some.injEq,Prod.mk.injEq] at hq
  obtain ⟨_,rfl,hids⟩:=hq
  unfold srcV at hsrc
  split at hsrc
  · simp [srcIds] at hids
  · simp only [Option.some.injEq,Prod.mk.injEq] at hsrc
    obtain ⟨rfl,_,rfl⟩:=hsrc
    have : _ = s:=Nat.eq_of_beq_eq_true hfit
    subst this
    exact h1
  · simp only [Option.some.injEq,Prod.mk.injEq] at hsrc
    obtain ⟨_,_,rfl⟩:=hsrc
    simp only [Den] at h1
    subst h1
    simp only [Den,RepD]
    exact ⟨none,0,rfl,Nat.le_refl _,.inl rfl⟩
  · simp only [Option.some.injEq,Prod.mk.injEq] at hsrc
    obtain ⟨_,_,rfl⟩:=hsrc
    simp only [Den] at h1
    obtain ⟨a,rfl⟩:=h1
    simp only [Den,RepD]
    exact ⟨a,0,rfl,Nat.le_refl _,.inl rfl⟩
  · simp [srcIds] at hids
  · simp [srcIds] at hids
  · cases hsrc
theorem lendC_none {kb : KB} {s : Nat} {σ : Sg} {E : EH} : ∀ {vs us : List V} {p : Prop},lendC kb s vs = some (p,us,[])→∀ {xs : List Value},DenC σ E vs xs→DenC σ E us xs
  | [],us,p,h,xs,hd => by
    simp only [lendC,Option.some.injEq,Prod.mk.injEq] at h
    obtain ⟨_,rfl,_⟩:=h
    exact hd
  | v :: vs,us,p,h,xs,hd => by
    simp only [lendC] at h
    obtain ⟨ys,zs,rfl,h1,h2⟩:=hd.uncons
    split at h <;> try (cases h; done)
    rename_i q ws ls hq
    split at h
    · rename_i p1 u is1 h3
      simp only [Option.some.injEq,Prod.mk.injEq] at h
      obtain ⟨rfl,rfl,he⟩:=h
      have hk : is1 = []∧ls = []:=List.append_eq_nil_iff.1 he
      obtain ⟨rfl,rfl⟩:=hk
      refine DenC.cons ?_ (lendC_none hq h2)
      rcases h1 with ⟨y,rfl,h4,h5⟩ | ⟨m,cs,rfl,_,_⟩
      · exact .inl ⟨y,rfl,h4,lend1_none h3 h5⟩
      · cases h3
    · simp only [Option.some.injEq,Prod.mk.injEq] at h
      obtain ⟨rfl,rfl,rfl⟩:=h
      exact DenC.cons h1 (lendC_none hq h2)
theorem lendV_none {kb : KB} {s : Nat} {v u : V} {q : Prop} (hq : lendV kb s v = some (q,u,[])) {σ : Sg} {E : EH} {x : Value} (h1 : Den σ E v x) : Den σ E u x:=by
  unfold lendV at hq
  split at hq
  · split at hq <;> try (cases hq; done)
    rename_i l p1 us is1 h2
    simp only [Option.some.injEq,Prod.mk.injEq] at hq
    obtain ⟨rfl,rfl,rfl⟩:=hq
    simp only [Den] at h1 ⊢
    obtain ⟨vs,rfl,h3⟩:=h1
    exact ⟨vs,rfl,lendC_none h2 h3⟩
  · exact lend1_none hq h1
theorem lendL_none {kb : KB} {σ : Sg} {E : EH} {W : World} (hi : Inv σ E kb W) : ∀ {ss : List Mode} {vs us : List V} {p : Prop},lendL kb ss vs = some (p,us,[])→∀ {xs : List Value},DenL σ E vs xs→DenL σ E us xs
  | ss,[],us,p,h,xs,hd => by
    have : us = []:=by
      cases ss with
      | nil => simp only [lendL,Option.some.injEq,Prod.mk.injEq] at h; exact h.2.1.symm
      | cons m ss => cases m <;> (simp only [lendL,Option.some.injEq,Prod.mk.injEq] at h; exact h.2.1.symm)
    subst this
    simpa only [DenL] using hd
  | [],v :: vs,us,p,h,xs,hd => by
    simp only [lendL] at h
    split at h <;> try (cases h; done)
    rename_i q ws ks hq
    simp only [Option.some.injEq,Prod.mk.injEq] at h
    obtain ⟨rfl,rfl,rfl⟩:=h
    simp only [DenL] at hd ⊢
    obtain ⟨x,xs',rfl,h1,h2⟩:=hd
    exact ⟨x,xs',rfl,h1,lendL_none hi hq h2⟩
  | m :: ss,v :: vs,us,p,h,xs,hd => by
    have plain : (match lendL kb ss vs with | some (p,us,is) => some (p,v :: us,is) | none => none) = some (p,us,[])→DenL σ E us xs:=fun h => by
      split at h <;> try (cases h; done)
      rename_i q ws ks hq
      simp only [Option.some.injEq,Prod.mk.injEq] at h
      obtain ⟨rfl,rfl,rfl⟩:=h
      simp only [DenL] at hd ⊢
      obtain ⟨x,xs',rfl,h1,h2⟩:=hd
      exact ⟨x,xs',rfl,h1,lendL_none hi hq h2⟩
    cases m with
    | asis => exact plain (by simpa only [lendL] using h)
    | give s => exact plain (by simpa only [lendL] using h)
    | pool => exact plain (by simpa only [lendL] using h)
    | tail => exact plain (by simpa only [lendL] using h)
    | lend s =>
      simp only [lendL] at h
      split at h <;> try (cases h; done)
      rename_i q u ks q' ws ls hq hq'
      simp only [Option.some.injEq,Prod.mk.injEq] at h
      obtain ⟨rfl,rfl,he⟩:=h
      have hk : ks = []∧ls = []:=List.append_eq_nil_iff.1 he
      obtain ⟨rfl,rfl⟩:=hk
      simp only [DenL] at hd ⊢
      obtain ⟨x,xs',rfl,h1,h2⟩:=hd
      refine ⟨x,xs',rfl,?_,lendL_none hi hq' h2⟩
      exact lendV_none hq h1
theorem specB_ok {P : Program} {f : FuncId} {S : FSpec} (hS : SpecOk P f S) {ms : List Mode} {args : List V} {kb : KB} {K : V→KB→Prop} (h : specB S ms args kb K) {σ : Sg} {E : EH} {W : World} {xs : List Value} (hi : Inv σ E kb W) (hd : DenL σ E args xs) :
    Calls P f xs.toArray W (fun e W' => ∃ v r σ' E' kb',e = .returned v∧Step σ E kb W σ' E' kb' W'∧Den σ' E' r v∧K r kb'):=by
  unfold specB at h
  obtain ⟨E0,kb0,us0,s0,d0,h⟩:=giveL_ok h hi hd
  suffices body : Calls P f xs.toArray W (fun e W' => ∃ v r σ' E' kb',e = .returned v∧Step σ E0 kb0 W σ' E' kb' W'∧Den σ' E' r v∧K r kb') by
    refine body.mono ?_
    rintro e W' ⟨v,r,σ',E',kb',h1,h2,h3,h4⟩
    exact ⟨v,r,σ',E',kb',h1,s0.trans h2,h3,h4⟩
  replace hi:=s0.inv
  replace hd:=d0
  clear s0 d0
  generalize E0 = E at *
  generalize kb0 = kb at *
  generalize us0 = args at *
  split at h <;> try exact h.elim
  · rename_i q args1 hlend
    exact specK_ok hS h hi (lendL_none hi hlend hd)
  rename_i p args1 is _ hlend
  obtain ⟨hp,h⟩:=h
  split at h <;> try exact h.elim
  rename_i args' sub o hc
  split at h <;> try exact h.elim
  rename_i hdis
  obtain ⟨hn,_,hra,hsel⟩:=canonP_ok hc
  obtain ⟨k1,k2,k3⟩:=hi.sel hn hsel
  obtain ⟨hsl,hget⟩:=selKB_ok hsel
  have hdj:=disjB_ok hdis
  have hd1:=lendL_ok hi (js:=is) hlend hp (fun i h => h) hd
  have hsubown : ∀ b,Owns (selSg σ o) sub b→∀ (j : Nat) (r : Re) (ob : KO),j ∉ o→σ[j]? = some r→kb[j]? = some ob→owned r ob b→False:=by
    intro b hb j r ob hj h1 h2 h3
    obtain ⟨i,r2,o2,g1,g2,g3,g4⟩:=owns_sel hi.len hsel hb
    exact hi.disj i j r2 r o2 ob b (fun e => by subst e; exact hj g1) g2 g3 h1 h2 g4 h3
  have k1' : Inv (selSg σ o) (lentE σ kb is W E) sub W:=by
    refine ⟨k1.len,fun i r ob h1 h2 => ?_,k1.disj,fun b x hb => ?_,fun b hb => ?_⟩
    · simpa using (k1.obj i r ob h1 h2).mono (τ:=[]) (W':=W) (lentE_le σ kb is W E) (fun _ _ => rfl)
    · simp only [lentE] at hb
      split at hb
      · rename_i x' hx; rw [← hb]; exact k1.imm b x' hx
      · split at hb
        · exact hb
        · cases hb
    · have h0:=k1.sep b hb
      simp only [lentE,h0]
      rw [if_neg]
      rintro ⟨i,hi',r,ob,hr,hk,ho⟩
      exact hsubown _ hb i r ob (hdj i hi') hr hk ho
  refine (hS args' sub _ h (selSg σ o) (lentE σ kb is W E) W xs k1' (DenL.ren k3 hra hd1)).mono ?_
  rintro e W' ⟨v,r,σs,E',kb2,rfl,hst,hden,hK⟩
  split at hK <;> try exact hK.elim
  rename_i r' kb' ps qs hble hr' hkb' hef1 hef2
  obtain ⟨hpl,hK⟩:=hK
  have hpl':=conjP_mem hpl
  have hle:=Nat.le_of_ble_eq_true hble
  obtain ⟨τ,hτ⟩:=hst.pre
  have hsgl : (selSg σ o).length = o.length:=by simp [selSg]
  have hl2 : σs.length = kb2.length:=hst.inv.len
  obtain ⟨hout,hcase0⟩:=backKB_ok hkb'
  let σ'':=σ ++ σs.drop o.length
  have hβ : ∀ i j r,backIx o kb.length i = some j→σs[i]? = some r→σ''[j]? = some r:=by
    intro i j r hb hr
    unfold backIx at hb
    split at hb
    · rename_i q hq
      cases hb
      have hil : i < o.length:=(List.getElem?_eq_some_iff.1 hq).1
      rw [hτ,List.getElem?_append_left (by rw [hsgl]; exact hil)] at hr
      simp only [selSg,List.getElem?_map,hq,Option.map_some,Option.some.injEq] at hr
      obtain ⟨ob,_,hob,_,_⟩:=hget i j hq
      have hjl : j < σ.length:=by rw [hi.len]; exact (List.getElem?_eq_some_iff.1 hob).1
      rw [List.getElem?_eq_getElem hjl] at hr
      simp only [Option.getD_some] at hr
      show (σ ++ _)[j]? = _
      rw [List.getElem?_append_left hjl,List.getElem?_eq_getElem hjl,hr]
    · rename_i hq
      cases hb
      have hil : o.length ≤ i:=by
        rcases Nat.lt_or_ge i o.length with h' | h'
        · rw [List.getElem?_eq_getElem h'] at hq; cases hq
        · exact h'
      show (σ ++ _)[_]? = _
      rw [List.getElem?_append_right (by rw [hi.len]; omega),hi.len,show kb.length + (i - o.length) - kb.length = i - o.length by omega,List.getElem?_drop,show o.length + (i - o.length) = i by omega]
      exact hr
  have hcase : ∀ (i : Nat) (r : Re) (ob : KO),σ''[i]? = some r→kb'[i]? = some ob →
      (∃ k a,backIx o kb.length k = some i∧σs[k]? = some r∧kb2[k]? = some a∧KO.ren (backIx o kb.length) a = some ob)∨(i ∉ o∧σ[i]? = some r∧kb[i]? = some ob):=by
    intro i r ob h1 h2
    rcases hcase0 i ob h2 with ⟨c1,c2,c3⟩ | ⟨c1,k,a,c2,c3,c4⟩ | ⟨c1,a,c2,c3⟩
    · rw [Nat.zero_add] at c2
      have h1' : (σ ++ σs.drop o.length)[i]? = some r:=h1
      rw [List.getElem?_append_left (by rw [hi.len]; exact c1)] at h1'
      exact .inr ⟨idx_none c2,h1',c3⟩
    · rw [Nat.zero_add] at c2
      have hk:=idx_spec c2
      have hkl : k < σs.length:=by rw [hl2]; exact (List.getElem?_eq_some_iff.1 c3).1
      have hb : backIx o kb.length k = some i:=by simp [backIx,hk]
      have:=hβ k i _ hb (List.getElem?_eq_getElem hkl)
      rw [this] at h1
      exact .inl ⟨k,a,hb,by rw [List.getElem?_eq_getElem hkl]; exact h1,c3,c4⟩
    · have hb : backIx o kb.length (o.length + (i - kb.length)) = some i:=by
        have : o[o.length + (i - kb.length)]? = none:=List.getElem?_eq_none (by omega)
        simp only [backIx,this]
        congr 1
        omega
      have hkl : o.length + (i - kb.length) < σs.length:=by rw [hl2]; exact (List.getElem?_eq_some_iff.1 c2).1
      have:=hβ _ i _ hb (List.getElem?_eq_getElem hkl)
      rw [this] at h1
      exact .inl ⟨_,a,hb,by rw [List.getElem?_eq_getElem hkl]; exact h1,c2,c3⟩
  have hother : ∀ (j : Nat) (r : Re) (ob : KO),j ∉ o→σ[j]? = some r→kb[j]? = some ob→∀ b,owned r ob b→W'.heap[b]? = W.heap[b]?:=by
    intro j r ob hj h1 h2 b h3
    exact hst.stp.block b ((hi.obj j r ob h1 h2).lt h3) (fun hb => hsubown b hb j r ob hj h1 h2 h3)
  have hownA : ∀ b (k : Nat) (r : Re) (a : KO),σs[k]? = some r→kb2[k]? = some a→owned r a b→Owns (selSg σ o) sub b∨W.heap.size ≤ b:=fun b k r a h1 h2 h3 => hst.own b ⟨k,r,a,h1,h2,h3⟩
  have hown : ∀ b,Owns σ'' kb' b→Owns σ kb b∨W.heap.size ≤ b:=by
    rintro b ⟨i,r,ob,h1,h2,h3⟩
    rcases hcase i r ob h1 h2 with ⟨k,a,_,g2,g3,g4⟩ | ⟨g1,g2,g3⟩
    · rcases hownA b k r a g2 g3 ((owned_ren g4).1 h3) with h4 | h4
      · exact .inl (k2 b h4)
      · exact .inr h4
    · exact .inl ⟨i,r,ob,g2,g3,h3⟩
  have hEle : E.le E':=(lentE_le σ kb is W E).trans hst.le
  refine ⟨v,r',σ'',E,kb',rfl,⟨⟨?_,fun i r ob h1 h2 => ?_,fun i j r1 r2 o1 o2 b hij h1 h2 h3 h4 h5 h6 => ?_,fun b x hb => hst.inv.imm b x (hEle b x hb),fun b hb => ?_⟩,⟨hst.stp.os,hst.stp.tape,hst.stp.output,hst.stp.size,fun b hb hn' => hst.stp.block b hb (fun h => hn' (k2 b h))⟩,⟨_,rfl⟩,EH.le.refl E,hown,fun b x hb => .inl hb⟩,Den.ren hβ hr' (Den.free hef1 (fun p hp => hpl' p (List.mem_append_left _ hp)) hden),hK⟩
  · simp only [σ'',List.length_append,List.length_drop,hout,hi.len,hl2]
  · rcases hcase i r ob h1 h2 with ⟨k,a,_,g2,g3,g4⟩ | ⟨g1,g2,g3⟩
    · obtain ⟨us,u1,u2⟩:=freeKB_ok hef2 (fun p hp => hpl' p (List.mem_append_right _ hp)) k a g3
      exact ((hst.inv.obj k r a g2 g3).free u1 u2).ren hβ g4
    · exact (hi.obj i r ob g2 g3).mono (EH.le.refl E) (fun b hb => hother i r ob g1 g2 g3 b hb)
  · rcases hcase i r1 o1 h1 h2 with ⟨k,a,g1,g2,g3,g4⟩ | ⟨g1,g2,g3⟩ <;> rcases hcase j r2 o2 h3 h4 with ⟨m,a',q1,q2,q3,q4⟩ | ⟨q1,q2,q3⟩
    · refine hst.inv.disj k m r1 r2 a a' b (fun e => ?_) g2 g3 q2 q3 ((owned_ren g4).1 h5) ((owned_ren q4).1 h6)
      subst e
      rw [g1] at q1
      cases q1
      exact hij rfl
    · rcases hownA b k r1 a g2 g3 ((owned_ren g4).1 h5) with h7 | h7
      · exact hsubown b h7 j r2 o2 q1 q2 q3 h6
      · have:=(hi.obj j r2 o2 q2 q3).lt h6; omega
    · rcases hownA b m r2 a' q2 q3 ((owned_ren q4).1 h6) with h7 | h7
      · exact hsubown b h7 i r1 o1 g1 g2 g3 h5
      · have:=(hi.obj i r1 o1 g2 g3).lt h5; omega
    · exact hi.disj i j r1 r2 o1 o2 b hij g2 g3 q2 q3 h5 h6
  · obtain ⟨i,r,ob,h1,h2,h3⟩:=hb
    rcases hcase i r ob h1 h2 with ⟨k,a,_,g2,g3,g4⟩ | ⟨g1,g2,g3⟩
    · cases hE : E b with
      | none => rfl
      | some x =>
        have h0:=hst.inv.sep b ⟨k,r,a,g2,g3,(owned_ren g4).1 h3⟩
        have:=hEle b x hE
        rw [h0] at this; cases this
    · exact hi.sep b ⟨i,r,ob,g2,g3,h3⟩
structure Known where
  modes : List Mode
  S : FSpec
def callS (P : Program) (Sp : FuncId→Option Known) (T : FuncId→Nat→Option LI) : Nat→CallT
  | 0 => fun _ _ _ _ => False
  | d + 1 => fun f args kb K => match Sp f with
    | some k => match k.modes with
      | [] => specK k.S args kb K
      | .pool :: _ => specO k.S args kb K
      | .tail :: _ => specT k.S args kb K
      | ms => specB k.S ms args kb K
    | none => runFn P (callS P Sp T d) (T f) f args kb K
def KnownOk (P : Program) (f : FuncId) (S : FSpec) : List Mode→Prop
  | .tail :: _ => MethOk P f S
  | _ => SpecOk P f S
def AllOk (P : Program) (Sp : FuncId→Option Known) : Prop:=∀ f k,Sp f = some k→KnownOk P f k.S k.modes
theorem callS_ok {P : Program} (hm : P.follows .mixedOrders = true) {Sp : FuncId→Option Known} (hS : AllOk P Sp) (T : FuncId→Nat→Option LI) : ∀ d,CallOk P (callS P Sp T d)
  | 0 => fun f args kb K h => h.elim
  | d + 1 => fun f args kb K h σ E W xs hi hd => by
    simp only [callS] at h
    split at h
    · rename_i k hk
      split at h
      · rename_i hm; have:=hS f k hk; rw [hm] at this; exact specK_ok this h hi hd
      · rename_i hm; have:=hS f k hk; rw [hm] at this; exact specO_ok this h hi hd
      · rename_i hm; have:=hS f k hk; rw [hm] at this; exact specT_ok this h hi hd
      · rename_i h1 h2 h3; have:=hS f k hk; unfold KnownOk at this; split at this
        · rename_i l hm; exact absurd hm (h3 l)
        · exact specB_ok this h hi hd
    · exact runFn_ok (callS_ok hm hS T d) hm h hi hd
def runSpec (P : Program) (X : CallT) (T : Nat→Option LI) (f : FuncId) (args : List V) (kb : KB) (K : V→KB→Prop) : Prop :=
  runFn P X T f args kb (fun r kb' => match canon kb.length [r] kb' with
    | some ([r'],kb',_) => K r' kb'
    | _ => False)
theorem runSpec_ok {P : Program} {X : CallT} (hX : CallOk P X) (hm : P.follows .mixedOrders = true) {T : Nat→Option LI} {f : FuncId} {args : List V} {kb : KB} {K : V→KB→Prop} (h : runSpec P X T f args kb K) {σ : Sg} {E : EH} {W : World} {xs : List Value} (hi : Inv σ E kb W)
    (hd : DenL σ E args xs) : Calls P f xs.toArray W (fun e W' => ∃ v r σ' E' kb',e = .returned v∧Step σ E kb W σ' E' kb' W'∧Den σ' E' r v∧K r kb'):=by
  refine (runFn_ok hX hm h hi hd).mono ?_
  rintro e W' ⟨v,r,σ',E',kb',rfl,h1,h2,h3⟩
  split at h3 <;> try exact h3.elim
  rename_i r' kb2 o hc
  rw [← hi.len] at hc
  obtain ⟨σ2,h4,h5⟩:=Step.sel (c:=⟨σ,E,kb,W⟩) h1 hc (.cons h2 .nil)
  simp only [DenL] at h5
  obtain ⟨x,xs',he,h6,rfl⟩:=h5
  cases he
  exact ⟨v,r',σ2,E',kb2,rfl,h4,h6,h3⟩
def isT : V→Prop
  | .tt => True
  | .sb b => b = true
  | _ => False
theorem isT_den {v : V} (h : isT v) {σ : Sg} {E : EH} {x : Value} (hd : Den σ E v x) : x = .bool true:=by
  cases v <;> simp only [isT] at h
  · subst h; simpa [Den] using hd
  · simpa [Den] using hd
def baseE (W : World) : EH:=fun b => W.heap[b]?
theorem inv_base (W : World) : Inv [] (baseE W) [] W :=
  ⟨rfl,fun i r o h => by simp at h,fun i j r r' o o' b _ h => by simp at h,fun b o h => h,fun b ⟨i,r,o,h,_⟩ => by simp at h⟩
theorem law_of {P : Program} {X : CallT} (hX : CallOk P X) {f : FuncId} {args : List V} (h : X f args [] (fun r _ => isT r)) {W : World} {xs : List Value} (hd : DenL [] (baseE W) args xs) :
    Calls P f xs.toArray W (fun e W' => e = .returned (.bool true)∧RowKit.Below W.heap.size W W'):=by
  refine (hX f args [] _ h [] (baseE W) W xs (inv_base W) hd).mono ?_
  rintro e W' ⟨v,r,σ',E',kb',rfl,h1,h2,h3⟩
  refine ⟨by rw [isT_den h3 h2],⟨h1.stp.os,h1.stp.tape,h1.stp.output,h1.stp.size,fun k hk => h1.stp.block k hk (fun ⟨i,r,o,h,_⟩ => by simp at h)⟩⟩
end Vc
set_option linter.unusedSimpArgs false
set_option linter.unusedVariables false
namespace Vc
open Go
inductive SH where
  | int (k : IntKind)
  | bool
  | sl (es : List SH)
mutual
def ConfD : SH→D→Prop
  | .int k,d => ∃ n,d = .val (.int k n)∧(Lit.int k n).wf = true
  | .bool,d => ∃ b,d = .val (.bool b)
  | .sl es,d => ∃ l,d = .sl es.length l∧l.length ≤ maxLen∧∀ e ∈ l,Conf es e
def Conf : List SH→List D→Prop
  | [],ds => ds = []
  | s :: ss,ds => ∃ d ds',ds = d :: ds'∧ConfD s d∧Conf ss ds'
end
theorem Conf.len : ∀ {ks : List SH} {vs : List D},Conf ks vs→vs.length = ks.length
  | [],_,h => by simp only [Conf] at h; simp [h]
  | k :: ks,_,h => by simp only [Conf] at h; obtain ⟨v,vs',rfl,_,h2⟩:=h; simp [Conf.len h2]
theorem Conf.append : ∀ {ks : List SH} {vs : List D},Conf ks vs→∀ {ls : List SH} {us : List D},Conf ls us→Conf (ks ++ ls) (vs ++ us)
  | [],_,h,_,_,k => by simp only [Conf] at h; subst h; simpa using k
  | k :: ks,_,h,_,_,k' => by
    simp only [Conf] at h
    obtain ⟨v,vs',rfl,h1,h2⟩:=h
    simp only [List.cons_append,Conf]
    exact ⟨v,_,rfl,h1,h2.append k'⟩
def shapeT (P : Program) : Nat→TypeId→Option (List SH)
  | 0,_ => none
  | n + 1,t =>
    match P.underlying t with
    | some .bool => some [.bool]
    | some (.int k) => some [.int k]
    | some (.slice e) => match shapeT P n e with
      | some (s :: ss) => match Nat.beq (s :: ss).length (P.cellsOf e) with
        | true => some [.sl (s :: ss)]
        | false => none
      | _ => none
    | some (.struct fs) => fs.toList.foldl (fun acc f => match acc,shapeT P n f.type with
      | some ks,some l => match Nat.beq ks.length f.offset,Nat.beq l.length (P.cellsOf f.type) with
        | true,true => some (ks ++ l)
        | _,_ => none
      | _,_ => none) (some [])
    | some (.array m e) => match shapeT P n e with
      | some l => match Nat.beq l.length (P.cellsOf e) with
        | true => some (List.replicate m l).flatten
        | false => none
      | none => none
    | _ => none
theorem mapM_get {α β : Type} {f : α→Option β} : ∀ {l : List α} {r : List β},l.mapM f = some r→r.length = l.length∧∀ (i : Nat) (a : α),l[i]? = some a→∃ b,f a = some b∧r[i]? = some b
  | [],r,h => by simp at h; subst h; simp
  | a :: l,r,h => by
    simp only [List.mapM_cons,Option.bind_eq_bind,Option.bind_eq_some_iff,Option.pure_def,Option.some.injEq] at h
    obtain ⟨b,hb,rs,hrs,rfl⟩:=h
    obtain ⟨h1,h2⟩:=mapM_get hrs
    refine ⟨by simp [h1],fun i x hx => ?_⟩
    cases i with
    | zero => simp at hx; subst hx; exact ⟨b,hb,rfl⟩
    | succ i => simpa using h2 i x (by simpa using hx)
section
variable {H : Type} {enc : TypeId × Value→H} {P : Program} {w : World} {base : Nat} {spare : Nat→Bool} {held : Bool}
theorem cells?_at {a : Addr} {n : Nat} {cs : List Value} (h : w.cells? base a n = some cs) : cs.length = n∧∀ (j : Nat) (x : Value),cs[j]? = some x→w.cell? (a.add j) = some x:=by
  unfold World.cells? at h
  split at h
  · obtain ⟨h1,h2⟩:=mapM_get h
    refine ⟨by simpa using h1,fun j x hj => ?_⟩
    have hlt : j < n:=by
      have:=(List.getElem?_eq_some_iff.1 hj).1
      rw [h1] at this
      simpa using this
    obtain ⟨b,hb,hb2⟩:=h2 j j (by simp [hlt])
    rw [hj] at hb2; cases hb2
    exact hb
  · cases h
def OpenD (w : World) (ks : List SH) (cs : List Value) : Prop:=∃ ds,DenD (baseE w) ds cs∧Conf ks ds
theorem OpenD.append {ks ls : List SH} {cs es : List Value} (h : OpenD w ks cs) (k : OpenD w ls es) : OpenD w (ks ++ ls) (cs ++ es):=by
  obtain ⟨ds,h1,h2⟩:=h
  obtain ⟨us,k1,k2⟩:=k
  exact ⟨ds ++ us,h1.append k1,h2.append k2⟩
theorem OpenD.nil : OpenD w [] []:=⟨[],.nil,by simp [Conf]⟩
theorem OpenD.len {ks : List SH} {cs : List Value} (h : OpenD w ks cs) : cs.length = ks.length:=by
  obtain ⟨ds,h1,h2⟩:=h
  rw [h1.len,h2.len]
theorem trod_conf : ∀ (m fuel : Nat) (t : TypeId) (cs : List Value) (ks : List SH) (x : DataW H × List MemPlace),shapeT P m t = some ks→DataW.trod enc P w base spare held fuel t cs = some x→OpenD w ks (cs.take ks.length)
  | 0,_,_,_,_,_,h,_ => by simp [shapeT] at h
  | m + 1,0,_,_,_,_,_,h => by simp [DataW.trod] at h
  | m + 1,fuel + 1,t,cs,ks,x,hs,hx => by
    simp only [shapeT] at hs
    unfold DataW.trod at hx
    split at hs
    · rename_i ht
      cases hs
      simp only [ht] at hx
      split at hx <;> try (simp at hx; done)
      all_goals rename_i heq; simp at heq
      exact ⟨[.val _],.cons (show RepD _ (.val _) _ from ⟨rfl,rfl⟩) .nil,by simp only [Conf,ConfD]; exact ⟨_,[],rfl,⟨_,rfl⟩,rfl⟩⟩
    · rename_i k ht
      cases hs
      simp only [ht] at hx
      split at hx <;> try (simp at hx; done)
      all_goals rename_i heq; simp at heq
      subst heq
      split at hx
      · rename_i hc
        obtain ⟨rfl,hw⟩:=hc
        exact ⟨[.val _],.cons (show RepD _ (.val _) _ from ⟨rfl,rfl⟩) .nil,by simp only [Conf,ConfD]; exact ⟨_,[],rfl,⟨_,rfl,hw⟩,rfl⟩⟩
      · cases hx
    · rename_i e ht
      split at hs <;> try (cases hs; done)
      rename_i s0 ss0 hes
      split at hs <;> try (cases hs; done)
      rename_i hb
      cases hs
      have hc:=(Nat.eq_of_beq_eq_true hb).symm
      obtain ⟨es,hes0⟩ : ∃ es,es = s0 :: ss0:=⟨_,rfl⟩
      rw [← hes0] at hes hc ⊢
      have hk : 0 < es.length:=by rw [hes0]; simp
      simp only [ht] at hx
      have wrap : ∀ {v : Value} {l : List (List D)},RepD (baseE w) (.sl es.length l) v→l.length ≤ maxLen→(∀ e ∈ l,Conf es e)→OpenD w [.sl es] [v]:=fun h1 h2 h3 =>
        ⟨[.sl es.length _],.cons h1 .nil,by simp only [Conf,ConfD]; exact ⟨_,[],rfl,⟨_,rfl,h2,h3⟩,rfl⟩⟩
      split at hx <;> try (simp at hx; done)
      all_goals try (rename_i heq; simp at heq; done)
      · exact wrap (l:=[]) (by simp only [RepD]; exact ⟨none,0,rfl,Nat.le_refl _,.inl rfl⟩) (by simp) (fun e he => by cases he)
      · rename_i a len cap heq
        simp only [Option.some.injEq,TypeDesc.slice.injEq] at heq
        subst heq
        simp only [List.length_cons,List.length_nil,List.take_succ_cons,List.take_zero]
        split at hx
        · rename_i hcnd
          obtain ⟨hb,hlc,hcm⟩:=hcnd
          simp only [Option.bind_eq_some_iff] at hx
          obtain ⟨elems,hel,hrest⟩:=hx
          obtain ⟨hell,hget⟩:=mapM_get hel
          have hex : ∀ i,i < len→∃ cs ds,w.cells? base (a.add (i * P.cellsOf e)) (P.cellsOf e) = some cs∧DenD (baseE w) ds cs∧Conf es ds:=by
            intro i hi
            obtain ⟨b,hb,_⟩:=hget i i (by simp [hi])
            simp only [Option.bind_eq_some_iff] at hb
            obtain ⟨cs,h1,h2⟩:=hb
            have h3:=trod_conf m fuel e cs es _ hes h2
            rw [List.take_of_length_le (by rw [(cells?_at h1).1]; omega)] at h3
            obtain ⟨ds,h4,h5⟩:=h3
            exact ⟨cs,ds,h1,h4,h5⟩
          have hl : ∃ l : List (List D),l.length = len∧∀ i d,l[i]? = some d→∃ c,w.cells? base (a.add (i * P.cellsOf e)) (P.cellsOf e) = some c∧DenD (baseE w) d c∧Conf es d:=by
            clear hell hget hel hcm hlc hrest
            induction len with
            | zero => exact ⟨[],rfl,by simp⟩
            | succ len ih =>
              obtain ⟨l,h1,h2⟩:=ih (fun i hi => hex i (by omega))
              obtain ⟨c,d,h3,h4,h5⟩:=hex len (by omega)
              refine ⟨l ++ [d],by simp [h1],fun i d' hd' => ?_⟩
              rcases Nat.lt_trichotomy i l.length with hi | hi | hi
              · rw [List.getElem?_append_left hi] at hd'
                exact h2 i d' hd'
              · subst hi
                simp at hd'
                subst hd'
                rw [h1]
                exact ⟨c,h3,h4,h5⟩
              · rw [List.getElem?_eq_none (by simp; omega)] at hd'; cases hd'
          obtain ⟨l,hll,hl⟩:=hl
          have hconf : ∀ x ∈ l,Conf es x:=fun x hx => by
            obtain ⟨i,hi⟩:=List.getElem?_of_mem hx
            obtain ⟨_,_,_,h⟩:=hl i x hi
            exact h
          have hw : wl es.length l:=fun x hx => (hconf x hx).len
          refine wrap (l:=l) ?_ (by omega) hconf
          simp only [RepD]
          refine ⟨some a,cap,by rw [hll],by omega,?_⟩
          by_cases h0 : len = 0
          · left; omega
          · right
            obtain ⟨c0,d0,k1,k2,k3⟩:=hex 0 (by omega)
            have hcl:=k2.len
            have hdl:=k3.len
            obtain ⟨x0,hx0⟩ : ∃ x,c0[0]? = some x:=⟨c0[0],List.getElem?_eq_getElem (by omega)⟩
            have hcell:=(cells?_at k1).2 0 x0 hx0
            simp only [Nat.zero_mul] at hcell
            have ha0 : (a.add 0).add 0 = a:=by simp [Addr.add]
            rw [ha0] at hcell
            have hspot:=World.cell?_spot hcell
            obtain ⟨ab,ao,sp⟩:=a
            simp only at hspot
            subst hspot
            refine ⟨ab,ao,rfl,RepL.of_flat hw (RepC.of_at fun j d hj => ?_)⟩
            have hjl : j < l.flatten.length:=(List.getElem?_eq_some_iff.1 hj).1
            rw [flat_len hw] at hjl
            have hq : j / es.length < l.length:=Nat.div_lt_of_lt_mul (by rw [Nat.mul_comm]; exact hjl)
            have hmod : j % es.length < es.length:=Nat.mod_lt _ hk
            have hdm : j / es.length * es.length + j % es.length = j:=Nat.div_add_mod' j es.length
            obtain ⟨c,q1,q2,q3⟩:=hl (j / es.length) _ (List.getElem?_eq_getElem hq)
            have q4:=q3.len
            have hd2:=flat_at hw (List.getElem?_eq_getElem hq) (List.getElem?_eq_getElem (l:=l[j / es.length]) (i:=j % es.length) (by omega))
            rw [hdm,hj] at hd2
            obtain ⟨y,hy1,hy2⟩:=q2.get (List.getElem?_eq_getElem (l:=l[j / es.length]) (i:=j % es.length) (by omega))
            rw [← Option.some.inj hd2] at hy2
            refine ⟨y,?_,hy2⟩
            have:=(cells?_at q1).2 (j % es.length) y hy1
            rw [Addr.add_lit,Addr.add_lit,hc,Nat.add_assoc,hdm] at this
            show EH.cell (baseE w) ab (ao + j) = some y
            rw [← this]
            unfold EH.cell baseE World.cell?
            cases w.heap[ab]? <;> rfl
        · cases hx
    · rename_i fs ht
      simp only [ht] at hx
      split at hx
      · simp only [Option.map_eq_some_iff] at hx
        obtain ⟨xs,hxs,_⟩:=hx
        obtain ⟨_,hget⟩:=mapM_get hxs
        have key : ∀ (l : List Field) (acc ks : List SH),(∀ f ∈ l,∃ y,DataW.trod enc P w base spare held fuel f.type ((cs.drop f.offset).take (P.cellsOf f.type)) = some y)→OpenD w acc (cs.take acc.length) →
            l.foldl (fun acc f => match acc,shapeT P m f.type with
              | some ks,some l => match Nat.beq ks.length f.offset,Nat.beq l.length (P.cellsOf f.type) with
                | true,true => some (ks ++ l)
                | _,_ => none
              | _,_ => none) (some acc) = some ks→OpenD w ks (cs.take ks.length):=by
          intro l
          induction l with
          | nil => intro acc ks _ hacc hf; simp only [List.foldl_nil,Option.some.injEq] at hf; subst hf; exact hacc
          | cons f l ih =>
            intro acc ks hall hacc hf
            simp only [List.foldl_cons] at hf
            have hnone : ∀ l : List Field,l.foldl (fun acc f => match acc,shapeT P m f.type with
              | some ks,some l => match Nat.beq ks.length f.offset,Nat.beq l.length (P.cellsOf f.type) with
                | true,true => some (ks ++ l)
                | _,_ => none
              | _,_ => none) (none : Option (List SH)) = none:=by
              intro l; induction l with
              | nil => rfl
              | cons a l ih => exact ih
            cases hsf : shapeT P m f.type with
            | none => rw [hsf] at hf; exact absurd (hf.symm.trans (hnone l)) (by simp)
            | some sl =>
              rw [hsf] at hf
              simp only [] at hf
              cases hb1 : Nat.beq acc.length f.offset with
              | false => simp only [hb1] at hf; exact absurd (hf.symm.trans (hnone l)) (by simp)
              | true =>
              cases hb2 : Nat.beq sl.length (P.cellsOf f.type) with
              | false => simp only [hb1,hb2] at hf; exact absurd (hf.symm.trans (hnone l)) (by simp)
              | true =>
                simp only [hb1,hb2] at hf
                have e1:=Nat.eq_of_beq_eq_true hb1
                have e2:=Nat.eq_of_beq_eq_true hb2
                obtain ⟨y,hy⟩:=hall f List.mem_cons_self
                have hc:=trod_conf m fuel f.type _ sl y hsf hy
                rw [← e2,List.take_take,Nat.min_self,← e1] at hc
                refine ih (acc ++ sl) ks (fun g hg => hall g (List.mem_cons_of_mem _ hg)) ?_ hf
                rw [List.length_append,List.take_add]
                exact hacc.append hc
        refine key fs.toList [] ks (fun f hf => ?_) (by simpa using OpenD.nil) hs
        obtain ⟨i,hi⟩:=List.getElem?_of_mem hf
        obtain ⟨b,hb,_⟩:=hget i f hi
        exact ⟨b,hb⟩
      · cases hx
    · rename_i n e ht
      simp only [ht] at hx
      split at hx
      · simp only [Option.map_eq_some_iff] at hx
        obtain ⟨xs,hxs,_⟩:=hx
        obtain ⟨_,hget⟩:=mapM_get hxs
        split at hs <;> try (cases hs; done)
        rename_i l hl
        split at hs <;> try (cases hs; done)
        rename_i hb
        cases hs
        have e2:=Nat.eq_of_beq_eq_true hb
        have key : ∀ k,k ≤ n→OpenD w (List.replicate k l).flatten (cs.take (List.replicate k l).flatten.length):=by
          intro k
          induction k with
          | zero => intro _; simpa using OpenD.nil
          | succ k ih =>
            intro hk
            obtain ⟨y,hy,_⟩:=hget k k (List.getElem?_range (by omega))
            have hc:=trod_conf m fuel e _ l y hl hy
            rw [← e2,List.take_take,Nat.min_self] at hc
            have hlen : (List.replicate k l).flatten.length = k * l.length:=by simp
            rw [List.replicate_succ',List.flatten_append,List.length_append,List.take_add,hlen]
            simp only [List.flatten_cons,List.flatten_nil,List.append_nil]
            rw [← hlen]
            refine (ih (by omega)).append ?_
            rw [hlen]
            exact hc
        exact key n (Nat.le_refl _)
      · cases hx
    · cases hs
theorem open_one {t : TypeId} {k : SH} (hs : shapeT P 20 t = some [k]) {v : Value} (hone : v.cells = #[v]) {d : DataW H} {p : List MemPlace} (h : DataW.Trod enc P w base spare held t v d p) :
    ∃ x,RepD (baseE w) x v∧ConfD k x:=by
  obtain ⟨fuel,hf⟩:=h
  have:=trod_conf 20 fuel t _ _ _ hs hf
  rw [hone] at this
  obtain ⟨ds,h1,h2⟩:=this
  simp only [List.length_cons,List.length_nil,List.take_succ_cons,List.take_zero] at h1
  simp only [Conf] at h2
  obtain ⟨d,ds',rfl,h3,rfl⟩:=h2
  simp only [DenD] at h1
  obtain ⟨x,xs',e,h4,rfl⟩:=h1
  cases e
  exact ⟨d,h4,h3⟩
theorem open_sl {t : TypeId} {es : List SH} (hs : shapeT P 20 t = some [.sl es]) {v : Value} (hv : ∃ a len cap,v = .slice a len cap) {d : DataW H} {p : List MemPlace} (h : DataW.Trod enc P w base spare held t v d p) :
    ∃ l,Den [] (baseE w) (.dat (.sl es.length l)) v∧l.length ≤ maxLen∧∀ e ∈ l,Conf es e:=by
  obtain ⟨a,len,cap,rfl⟩:=hv
  obtain ⟨x,h1,h2⟩:=open_one hs rfl h
  simp only [ConfD] at h2
  obtain ⟨l,rfl,h3,h4⟩:=h2
  exact ⟨l,by simpa only [Den] using h1,h3,h4⟩
end
end Vc
set_option linter.unusedSimpArgs false
set_option linter.unusedVariables false
namespace Vc
open Go
def KT : V→KB→Prop:=fun r _ => isT r
theorem specOk_of' {P : Program} {X : CallT} (hX : CallOk P X) (hm : P.follows .mixedOrders = true) {f : FuncId} {S : FSpec} (h : ∀ args kb K,S args kb K→∃ T,runSpec P X T f args kb K) : SpecOk P f S :=
  fun args kb K hs σ E W xs hi hd => by
    obtain ⟨T,hT⟩:=h args kb K hs
    exact runSpec_ok hX hm hT hi hd
theorem specOk_of'' {P : Program} (hm : P.follows .mixedOrders = true) {f : FuncId} {S : FSpec} (h : ∀ args kb K,S args kb K→∃ X T,CallOk P X∧runSpec P X T f args kb K) : SpecOk P f S :=
  fun args kb K hs σ E W xs hi hd => by
    obtain ⟨X,T,hX,hT⟩:=h args kb K hs
    exact runSpec_ok hX hm hT hi hd
theorem specOk_nil {P : Program} {X : CallT} (hX : CallOk P X) (hm : P.follows .mixedOrders = true) (ds : List NilD) {f : FuncId} {S : FSpec} (h : ∀ args kb K,S args kb K→∃ T,runSpec P X T f args kb (nilRes ds K)) : SpecOk P f S :=
  fun args kb K hs => by
    have h0 : SpecOk P f (fun a k K0 => ∃ T,runSpec P X T f a k K0):=specOk_of' hX hm fun _ _ _ h => h
    exact nilOut_ok h0 ds args kb K (h args kb K hs)
theorem specOk_tidy {P : Program} {X : CallT} (hX : CallOk P X) (hm : P.follows .mixedOrders = true) {f : FuncId} {S : FSpec} (h : ∀ args kb K,S args kb K→∃ T,runSpec P X T f args kb (tidyRes kb.length K)) : SpecOk P f S :=
  fun args kb K hs => by
    have h0 : SpecOk P f (fun a k K0 => ∃ T,runSpec P X T f a k K0):=specOk_of' hX hm fun _ _ _ h => h
    exact tidyOut_ok h0 args kb K (h args kb K hs)
theorem specOk_nt {P : Program} {X : CallT} (hX : CallOk P X) (hm : P.follows .mixedOrders = true) (ds : List NilD) {f : FuncId} {S : FSpec} (h : ∀ args kb K,S args kb K→∃ T,runSpec P X T f args kb (nilRes ds (tidyRes kb.length K))) : SpecOk P f S:=by
  have h1 : SpecOk P f (fun args kb K => ∃ T,runSpec P X T f args kb (nilRes ds K)):=specOk_nil hX hm ds (fun args kb K h => h)
  have h2:=tidyOut_ok h1
  exact fun args kb K hs => h2 args kb K (h args kb K hs)
def unB : V→V
  | .tt => .sb true
  | .ff => .sb false
  | v => v
theorem denL_unB {σ : Sg} {E : EH} : ∀ {vs : List V} {xs : List Value},DenL σ E vs xs→DenL σ E (vs.map unB) xs
  | [],_,h => h
  | v :: vs,_,h => by
    simp only [DenL] at h
    obtain ⟨x,xs',rfl,h1,h2⟩:=h
    refine .cons ?_ (denL_unB h2)
    cases v <;> first | exact h1 | (simp only [Den] at h1; simpa [unB,Den] using h1)
def sbIn (S : FSpec) : FSpec:=fun args kb K => S (args.map unB) kb K
theorem sbIn_ok {P : Program} {f : FuncId} {S : FSpec} (hS : SpecOk P f S) : SpecOk P f (sbIn S):=fun args kb K h σ E W xs hi hd => hS _ kb K h σ E W xs hi (denL_unB hd)
abbrev dn (k : IntKind) (n : Int) : D:=.val (.int k n)
abbrev db (b : Bool) : D:=.val (.bool b)
def dns (k : IntKind) (l : List Int) : List D:=l.map fun n => .val (.int k n)
def ints (k : IntKind) (l : List Int) : List (List D):=l.map fun n => [.val (.int k n)]
theorem ints_len {k : IntKind} {l : List Int} : (ints k l).length = l.length:=by simp [ints]
theorem ints_nil {k : IntKind} : ints k [] = []:=rfl
theorem ints_cons {k : IntKind} {a : Int} {l : List Int} : ints k (a :: l) = [.val (.int k a)] :: ints k l:=rfl
theorem ints_app {k : IntKind} {l m : List Int} : ints k (l ++ m) = ints k l ++ ints k m:=by simp [ints]
theorem ints_set {k : IntKind} {l : List Int} {i : Nat} {n : Int} : (ints k l).set i [.val (.int k n)] = ints k (l.set i n):=by simp [ints]
theorem ints_take {k : IntKind} {l : List Int} {i : Nat} : (ints k l).take i = ints k (l.take i):=by simp [ints]
theorem ints_drop {k : IntKind} {l : List Int} {i : Nat} : (ints k l).drop i = ints k (l.drop i):=by simp [ints]
theorem ints_rep {k : IntKind} {m : Nat} {n : Int} : List.replicate m [D.val (.int k n)] = ints k (List.replicate m n):=by simp [ints]
theorem ints_get {k : IntKind} {l : List Int} {i : Nat} : (ints k l)[i]? = l[i]?.map fun n => [D.val (.int k n)]:=by simp [ints]
theorem ints_flat {k : IntKind} {l : List Int} : (ints k l).flatten = dns k l:=by
  induction l with
  | nil => rfl
  | cons a l ih => rw [ints_cons,List.flatten_cons,ih]; rfl
theorem plain_dns {k : IntKind} {l : List Int} : Plain (dns k l):=fun d hd => by
  obtain ⟨n,_,rfl⟩:=List.mem_map.1 hd; trivial
theorem plain_ints {k : IntKind} {l : List Int} : Plain (ints k l).flatten:=by rw [ints_flat]; exact plain_dns
theorem conf_ints {k : IntKind} {l : List (List D)} (h : ∀ x ∈ l,Conf [.int k] x) : ∃ zs,l = ints k zs∧∀ n ∈ zs,(Lit.int k n).wf = true:=by
  induction l with
  | nil => exact ⟨[],rfl,by simp⟩
  | cons x l ih =>
    obtain ⟨zs,h1,h2⟩:=ih (fun y hy => h y (List.mem_cons_of_mem _ hy))
    have:=h x List.mem_cons_self
    simp only [Conf,ConfD] at this
    obtain ⟨v,vs,rfl,⟨n,rfl,hw⟩,rfl⟩:=this
    refine ⟨n :: zs,by rw [ints_cons,h1],fun m hm => ?_⟩
    rcases List.mem_cons.1 hm with rfl | hm
    · exact hw
    · exact h2 m hm
theorem w64 {n : Int} (h1 : -9223372036854775808 ≤ n) (h2 : n ≤ 9223372036854775807) : IntKind.i64.wrap n = n:=IntWalk.i64_in n (by omega)
theorem denL_cons {σ : Sg} {E : EH} {v : V} {vs : List V} {x : Value} {xs : List Value} (h : Den σ E v x) (k : DenL σ E vs xs) : DenL σ E (v :: vs) (x :: xs):=by
  simp only [DenL]; exact ⟨x,xs,rfl,h,k⟩
def isSlT (P : Program) (t : TypeId) : Bool:=match P.underlying t with
  | some (.slice _) => true
  | _ => false
theorem ok_slT {P : Program} {w : World} {r : Reach} {base : Nat} {t : TypeId} {v : Value} (hs : isSlT P t = true) (h : Value.okWide P w r base t v) : ∃ a len cap,v = .slice a len cap:=by
  unfold isSlT at hs
  split at hs
  · rename_i e he; exact WideShapes.okWide_slice he h
  · cases hs
inductive FM where
  | asis
  | num
  | sl (s : Nat)
def numV : V→V
  | .lit k n => .int k n
  | .any (.int k n) => .int k n
  | v => v
theorem numV_one {v : V} {σ : Sg} {E : EH} {x : Value} (h : Den σ E v x) : Den σ E (numV v) x:=by
  unfold numV; split <;> first | exact h | (simp only [Den] at h ⊢; exact h)
theorem numV_P1 {v : V} {σ : Sg} {E : EH} {ys : List Value} (h : DenP1 σ E v ys) : DenP1 σ E (numV v) ys:=by
  rcases h with ⟨y,rfl,h1,h2⟩ | ⟨m,cs,rfl,h1,h2⟩
  · exact .inl ⟨y,rfl,h1,numV_one h2⟩
  · exact .inr ⟨m,cs,rfl,h1,h2⟩
theorem DenP1.mono' {σ : Sg} {E E' : EH} (h : E.le E') {v : V} {ys : List Value} (hd : DenP1 σ E v ys) : DenP1 σ E' v ys:=by
  rcases hd with ⟨y,rfl,h1,h2⟩ | ⟨m,cs,rfl,h1,h2⟩
  · have:=Den.mono (τ:=[]) h h2
    rw [List.append_nil] at this
    exact .inl ⟨y,rfl,h1,this⟩
  · exact .inr ⟨m,cs,rfl,h1,h2.mono h⟩
def frzC : List FM→List V→KB→(List V→KB→Prop)→Prop
  | _,[],kb,K => K [] kb
  | [],v :: vs,kb,K => K (v :: vs) kb
  | .asis :: ms,v :: vs,kb,K => frzC ms vs kb (fun us kb' => K (v :: us) kb')
  | .num :: ms,v :: vs,kb,K => frzC ms vs kb (fun us kb' => K (numV v :: us) kb')
  | .sl s :: ms,v :: vs,kb,K => conv1 (.sl s) v kb (fun d kb' => frzC ms vs kb' (fun us kb'' => K (.dat d :: us) kb''))
theorem frzC_ok : ∀ {ms : List FM} {vs : List V} {kb : KB} {K : List V→KB→Prop},frzC ms vs kb K→∀ {σ : Sg} {E : EH} {W : World},Inv σ E kb W→∀ {xs : List Value},DenC σ E vs xs →
    ∃ E' kb' us,Step σ E kb W σ E' kb' W∧DenC σ E' us xs∧K us kb'
  | ms,[],kb,K,h,σ,E,W,hi,xs,hd => by
    have : K [] kb:=by cases ms with | nil => exact h | cons m ms => cases m <;> exact h
    exact ⟨E,kb,[],Step.refl hi,hd,this⟩
  | [],v :: vs,kb,K,h,σ,E,W,hi,xs,hd => ⟨E,kb,v :: vs,Step.refl hi,hd,h⟩
  | .asis :: ms,v :: vs,kb,K,h,σ,E,W,hi,xs,hd => by
    obtain ⟨ys,zs,rfl,h1,h2⟩:=hd.uncons
    simp only [frzC] at h
    obtain ⟨E1,kb1,us,s1,d1,hK⟩:=frzC_ok h hi h2
    have:=DenP1.mono' s1.le h1
    exact ⟨E1,kb1,v :: us,s1,.cons this d1,hK⟩
  | .num :: ms,v :: vs,kb,K,h,σ,E,W,hi,xs,hd => by
    obtain ⟨ys,zs,rfl,h1,h2⟩:=hd.uncons
    simp only [frzC] at h
    obtain ⟨E1,kb1,us,s1,d1,hK⟩:=frzC_ok h hi h2
    have:=DenP1.mono' s1.le (numV_P1 h1)
    exact ⟨E1,kb1,numV v :: us,s1,.cons this d1,hK⟩
  | .sl s :: ms,v :: vs,kb,K,h,σ,E,W,hi,xs,hd => by
    obtain ⟨ys,zs,rfl,h1,h2⟩:=hd.uncons
    simp only [frzC] at h
    rcases h1 with ⟨y,rfl,h1,hy⟩ | ⟨m,cs,rfl,_,_⟩
    · obtain ⟨E1,kb1,d,s1,r1,h⟩:=conv1_ok h hi hy
      have h2':=DenC.mono (τ:=[]) s1.le h2
      rw [List.append_nil] at h2'
      obtain ⟨E2,kb2,us,s2,d2,hK⟩:=frzC_ok h s1.inv h2'
      exact ⟨E2,kb2,.dat d :: us,s1.trans s2,DenC.cons1 (by simp only [Den]; exact r1.mono s2.le) h1 d2,hK⟩
    · exact h.elim
def gvRes (ms : List Mode) (K : V→KB→Prop) : V→KB→Prop:=fun r kb => match r with
  | .tup l => giveL ms l kb (fun us kb' => K (.tup us) kb')
  | r => giveL ms [r] kb (fun us kb' => match us with | [u] => K u kb' | _ => False)
def gvOut (ms : List Mode) (S : FSpec) : FSpec:=fun args kb K => S args kb (gvRes ms K)
theorem gvOut_ok {P : Program} {f : FuncId} {S : FSpec} (hS : SpecOk P f S) (ms : List Mode) : SpecOk P f (gvOut ms S):=fun args kb K h σ E W xs hi hd => by
  refine (hS args kb _ h σ E W xs hi hd).mono ?_
  rintro e W' ⟨v,r,σs,E',kb2,rfl,hst,hden,hK⟩
  unfold gvRes at hK
  split at hK
  · rename_i l
    simp only [Den] at hden
    obtain ⟨vs,rfl,hl⟩:=hden
    obtain ⟨E1,kb1,us,s1,d1,hK⟩:=giveL_ok hK hst.inv hl
    exact ⟨_,_,_,_,_,rfl,hst.trans s1,by simp only [Den]; exact ⟨vs,rfl,d1⟩,hK⟩
  · rename_i r _
    obtain ⟨E1,kb1,us,s1,d1,hK⟩:=giveL_ok hK hst.inv (denL_one hden)
    split at hK <;> try exact hK.elim
    exact ⟨_,_,_,_,_,rfl,hst.trans s1,denL_one' d1,hK⟩
def gvTidy (ms : List Mode) (S : FSpec) : FSpec:=fun args kb K => S args kb (gvRes ms (tidyRes kb.length K))
theorem gvTidy_ok {P : Program} {f : FuncId} {S : FSpec} (hS : SpecOk P f S) (ms : List Mode) : SpecOk P f (gvTidy ms S):=by
  have h2:=tidyOut_ok (gvOut_ok hS ms)
  exact fun args kb K hs => h2 args kb K hs
end Vc
set_option linter.unusedVariables false
set_option linter.unusedSimpArgs false
namespace Vc
open Go
abbrev W32:=BitVec 32
def cpoly : W32:=3988292384#32
def cst (x : W32) : W32:=(x >>> 1) ^^^ (if x.getLsbD 0 then cpoly else 0#32)
def cstN : Nat→W32→W32
  | 0,x => x
  | n + 1,x => cst (cstN n x)
theorem xor4 (a b c d : W32) : (a ^^^ b) ^^^ (c ^^^ d) = (a ^^^ c) ^^^ (b ^^^ d):=by
  apply BitVec.eq_of_getLsbD_eq
  intro i hi
  simp only [BitVec.getLsbD_xor]
  cases a.getLsbD i <;> cases b.getLsbD i <;> cases c.getLsbD i <;> cases d.getLsbD i <;> rfl
theorem cst_xor (a b : W32) : cst (a ^^^ b) = cst a ^^^ cst b:=by
  unfold cst
  rw [xor4,← BitVec.ushiftRight_xor_distrib,BitVec.getLsbD_xor]
  congr 1
  cases a.getLsbD 0 <;> cases b.getLsbD 0 <;> decide
theorem cstN_xor (a b : W32) : ∀ n,cstN n (a ^^^ b) = cstN n a ^^^ cstN n b
  | 0 => rfl
  | n + 1 => by rw [cstN,cstN_xor a b n,cst_xor]; rfl
theorem cstN_low {x : W32} : ∀ n,(∀ i,i < n→x.getLsbD i = false)→cstN n x = x >>> n
  | 0,_ => by simp [cstN]
  | n + 1,h => by
    rw [cstN,cstN_low n (fun i hi => h i (by omega)),cst]
    have : (x >>> n).getLsbD 0 = false:=by rw [BitVec.getLsbD_ushiftRight]; exact h _ (by omega)
    rw [this,← BitVec.shiftRight_add]
    simp
theorem cstN_split (x : W32) : cstN 8 x = (x >>> 8) ^^^ cstN 8 (x &&& 255#32):=by
  have hx : x = (x &&& 4294967040#32) ^^^ (x &&& 255#32):=by
    apply BitVec.eq_of_getLsbD_eq
    intro i hi
    have e : (4294967040#32).getLsbD i = !(255#32).getLsbD i:=by
      rw [show (4294967040#32) = ~~~ 255#32 by decide,BitVec.getLsbD_not]; simp [hi]
    rw [BitVec.getLsbD_xor,BitVec.getLsbD_and,BitVec.getLsbD_and,e]
    cases x.getLsbD i <;> cases (255#32).getLsbD i <;> rfl
  have h1 : cstN 8 (x &&& 4294967040#32) = (x &&& 4294967040#32) >>> 8:=cstN_low 8 (fun i hi => by
    rw [BitVec.getLsbD_and]
    have : (4294967040#32).getLsbD i = false:=by
      have : i = 0∨i = 1∨i = 2∨i = 3∨i = 4∨i = 5∨i = 6∨i = 7:=by omega
      rcases this with rfl | rfl | rfl | rfl | rfl | rfl | rfl | rfl <;> decide
    rw [this,Bool.and_false])
  have h2 : (x &&& 4294967040#32) >>> 8 = x >>> 8:=by
    rw [BitVec.ushiftRight_and_distrib]
    rw [show (4294967040#32 >>> 8) = 16777215#32 by decide]
    apply BitVec.eq_of_getLsbD_eq
    intro i hi
    rw [BitVec.getLsbD_and,BitVec.getLsbD_ushiftRight]
    by_cases h : i < 24
    · have : (16777215#32).getLsbD i = true:=by
        rw [show (16777215#32) = (BitVec.allOnes 24).setWidth 32 by decide]
        rw [BitVec.getLsbD_setWidth,BitVec.getLsbD_allOnes]; simp [h,hi]
      rw [this,Bool.and_true]
    · rw [BitVec.getLsbD_of_ge x (8 + i) (by omega),Bool.false_and]
  conv => lhs; rw [hx,cstN_xor]
  rw [h1,h2]
def U (x : W32) : Int:=(x.toNat : Int)
theorem U_range (x : W32) : 0 ≤ U x∧U x < 4294967296:=by unfold U; have:=x.isLt; omega
theorem U_wrap (x : W32) : IntKind.u32.wrap (U x) = U x:=IntWalk.u32_in _ (by have:=U_range x; omega)
theorem U_of (x : W32) : BitVec.ofInt 32 (U x) = x:=by
  unfold U
  rw [BitVec.ofInt_natCast,BitVec.ofNat_toNat,BitVec.setWidth_eq]
theorem U_shr (x : W32) (k : Nat) : (U x).fdiv (2 ^ k : Nat) = U (x >>> k):=by
  unfold U
  rw [Int.fdiv_eq_ediv_of_nonneg _ (Int.natCast_nonneg _),BitVec.toNat_ushiftRight,Nat.shiftRight_eq_div_pow]
  exact (Int.natCast_ediv _ _).symm
theorem of_U {n : Int} (h : 0 ≤ n∧n < 4294967296) : U (BitVec.ofInt 32 n) = n:=by
  obtain ⟨k,rfl⟩:=Int.eq_ofNat_of_zero_le h.1
  unfold U
  show ((BitVec.ofInt 32 (k : Int)).toNat : Int) = k
  rw [BitVec.ofInt_natCast,BitVec.toNat_ofNat]
  have : k % 2 ^ 32 = k:=Nat.mod_eq_of_lt (by have:=h.2; omega)
  rw [this]
theorem U_bit (x : W32) : IntKind.u32.wrap (IntKind.u32.wrap (U (x &&& 1#32)) * 3988292384) = U (if x.getLsbD 0 then cpoly else 0#32):=by
  rw [U_wrap]
  have : x &&& 1#32 = if x.getLsbD 0 then 1#32 else 0#32:=by
    have:=BitVec.and_one_eq_setWidth_ofBool_getLsbD (x:=x)
    rw [this]
    cases x.getLsbD 0 <;> decide
  rw [this]
  cases x.getLsbD 0 <;> decide
def Byt (l : List Int) : Prop:=∀ c ∈ l,0 ≤ c∧c < 256
def crcB (x : W32) (c : Int) : W32:=cstN 8 (x ^^^ BitVec.ofInt 32 c)
def crcR (x : W32) (l : List Int) : W32:=l.foldl crcB x
def crcI (l : List Int) : Int:=U (~~~ (crcR 4294967295#32 l))
theorem crcR_snoc (x : W32) (l : List Int) (c : Int) : crcR x (l ++ [c]) = crcB (crcR x l) c:=by simp [crcR]
theorem crcR_app (x : W32) (l m : List Int) : crcR x (l ++ m) = crcR (crcR x l) m:=by simp [crcR]
def crcTab (i : Nat) : Int:=U (cstN 8 (BitVec.ofNat 32 i))
def crcTb (i : Nat) : List Int:=(List.range 256).map fun j => if j < i then crcTab j else 0
theorem ofInt_lt {n : Int} (h : 0 ≤ n∧n < 256) : (BitVec.ofInt 32 n).toNat = n.toNat:=by
  have:=of_U (n:=n) (by omega)
  unfold U at this; omega
theorem low_toNat (y : W32) : (y &&& 255#32).toNat = y.toNat % 256:=by
  rw [BitVec.toNat_and,show (255#32).toNat = 2 ^ 8 - 1 by decide,Nat.and_two_pow_sub_one_eq_mod]
theorem crc_idx {x : W32} {n : Int} (h : 0 ≤ n∧n < 256) : IntKind.u8.wrap (((BitVec.ofInt 8 (IntKind.u8.wrap (U x)) ^^^ BitVec.ofInt 8 n).toNat : Nat) : Int) = (((x ^^^ BitVec.ofInt 32 n) &&& 255#32).toNat : Int):=by
  have e1 : BitVec.ofInt 8 (IntKind.u8.wrap (U x)) = x.setWidth 8:=by
    apply BitVec.eq_of_toNat_eq
    rw [BitVec.toNat_ofInt,BitVec.toNat_setWidth]
    have : IntKind.u8.wrap (U x) = U x % 256:=by rw [IntKind.wrap_u8]
    rw [this]; unfold U; omega
  have e2 : BitVec.ofInt 8 n = (BitVec.ofInt 32 n).setWidth 8:=by
    apply BitVec.eq_of_toNat_eq
    rw [BitVec.toNat_ofInt,BitVec.toNat_setWidth,ofInt_lt h]; omega
  rw [e1,e2,← BitVec.setWidth_xor,low_toNat,BitVec.toNat_setWidth]
  exact IntWalk.u8_in _ (by omega)
theorem shr_low {x : W32} {n : Int} (h : 0 ≤ n∧n < 256) : (x ^^^ BitVec.ofInt 32 n) >>> 8 = x >>> 8:=by
  rw [BitVec.ushiftRight_xor_distrib]
  have : BitVec.ofInt 32 n >>> 8 = 0#32:=by
    apply BitVec.eq_of_toNat_eq
    rw [BitVec.toNat_ushiftRight,ofInt_lt h,Nat.shiftRight_eq_div_pow]
    show n.toNat / 256 = 0
    omega
  rw [this,BitVec.xor_zero]
theorem crc_new {x : W32} {n : Int} (h : 0 ≤ n∧n < 256) : IntKind.u32.wrap (((BitVec.ofInt 32 ((U x).fdiv 256) ^^^ BitVec.ofInt 32 (U (cstN 8 ((x ^^^ BitVec.ofInt 32 n) &&& 255#32)))).toNat : Nat) : Int) = U (crcB x n):=by
  have e1:=U_shr x 8
  rw [show ((2 ^ 8 : Nat) : Int) = 256 from rfl] at e1
  rw [e1,U_of,U_of]
  unfold crcB
  rw [cstN_split (x ^^^ BitVec.ofInt 32 n),shr_low h]
  exact U_wrap _
theorem U_not (x : W32) : IntKind.u32.wrap (((BitVec.ofInt 32 4294967295 ^^^ BitVec.ofInt 32 (U x)).toNat : Nat) : Int) = U (~~~x):=by
  rw [U_of,show BitVec.ofInt 32 4294967295 = BitVec.allOnes 32 by decide,BitVec.allOnes_xor]
  exact U_wrap _
def le4 (x : Int) : List Int:=[IntKind.u8.wrap x,IntKind.u8.wrap (x.fdiv 256),IntKind.u8.wrap (x.fdiv 65536),IntKind.u8.wrap (x.fdiv 16777216)]
def sealI (l : List Int) : List Int:=l ++ le4 (crcI l)
theorem sealI_len (l : List Int) : (sealI l).length = l.length + 4:=by simp [sealI,le4]
theorem le4_byt (x : Int) : Byt (le4 x):=fun c hc => by
  simp only [le4,List.mem_cons,List.not_mem_nil,or_false] at hc
  rcases hc with rfl | rfl | rfl | rfl <;> (rw [IntKind.wrap_u8]; omega)
theorem sealI_byt {l : List Int} (h : Byt l) : Byt (sealI l):=fun c hc => by
  rcases List.mem_append.1 hc with hc | hc
  · exact h c hc
  · exact le4_byt _ c hc
theorem crcI_range (l : List Int) : 0 ≤ crcI l∧crcI l < 4294967296:=U_range _
def openI (l : List Int) : Option (List Int):=if 4 ≤ l.length∧sealI (l.take (l.length - 4)) = l then some (l.take (l.length - 4)) else none
theorem openI_seal {l : List Int} : openI (sealI l) = some l:=by
  have h1 : (sealI l).take ((sealI l).length - 4) = l:=by
    rw [sealI_len,Nat.add_sub_cancel]; unfold sealI; rw [List.take_left]
  unfold openI
  rw [h1,if_pos ⟨by rw [sealI_len]; omega,rfl⟩]
end Vc
namespace Go.Proofs.Ytfcjngcnifdmnaa
open Vc Go
set_option linter.unusedVariables false
set_option linter.unusedSimpArgs false
set_option maxRecDepth 100000
def noT : FuncId→Nat→Option LI:=fun _ _ => none
def noS : FuncId→Option Known:=fun _ => none
noncomputable def X0 : CallT:=callS Try.prog noS noT 10
def Sm (l : List Int) : Prop:=l.length ≤ 1000000
def sInv (a b : List Int) (i : Nat) : Prop:=i ≤ a.length∧a.take i = b.take i
abbrev eqLI (k : IntKind) (a b : List Int) : LI where
  α:={i : Nat // sInv a b i}
  live:=[0,1,12,13]
  st i:=([.dat (.sl 1 (ints k a)),.dat (.sl 1 (ints k b)),.int .i64 (a.length : Int),.int .i64 (i.1 : Int)],[])
  μ i:=a.length - i.1
def saT (k : IntKind) (a b : List Int) : FuncId→Nat→Option LI
  | 77,4 => some (eqLI k a b)
  | _,_ => none
theorem vcEqual (a b : List Int) (K : V→KB→Prop) (hvc_ :
 (((↑(ints IntKind.u8 a).length : Int) != (↑(ints IntKind.u8 b).length : Int)) = true→K (V.sb false) []) ∧
 (((↑(ints IntKind.u8 a).length : Int) != (↑(ints IntKind.u8 b).length : Int)) = false →
 At (eqLI IntKind.u8 a b) ([V.dat (D.sl 1 (ints IntKind.u8 a)),V.dat (D.sl 1 (ints IntKind.u8 b)),V.int IntKind.i64 (↑(ints IntKind.u8 a).length : Int),V.int IntKind.i64 0],[]) ∧
 ∀ (i : { i : Nat // sInv a b i }),
 (decide ((↑i.val : Int) < (↑a.length : Int)) = true →
 NonN (↑i.val : Int) ∧
 ∃ (e : List D),
 (ints IntKind.u8 a)[(↑i.val : Int).toNat]? = some e ∧
 ∃ (n : Int),
 e[0]? = some (D.val (Value.int IntKind.u8 n)) ∧
 NonN (↑i.val : Int) ∧
 ∃ (e : List D),
 (ints IntKind.u8 b)[(↑i.val : Int).toNat]? = some e ∧
 ∃ (n_1 : Int),e[0]? = some (D.val (Value.int IntKind.u8 n_1))∧((n != n_1) = true→K (V.sb false) [])∧((n != n_1) = false→Nx (eqLI IntKind.u8 a b) i ([V.dat (D.sl 1 (ints IntKind.u8 a)),V.dat (D.sl 1 (ints IntKind.u8 b)),V.int IntKind.i64 (↑a.length : Int),V.int IntKind.i64 (IntKind.i64.wrap ((↑i.val : Int) + 1))],[]))) ∧
 (decide ((↑i.val : Int) < (↑a.length : Int)) = false→K (V.sb true) []))
 ) : runSpec Try.prog X0 (saT .u8 a b 77) 77 [.dat (.sl 1 (ints .u8 a)),.dat (.sl 1 (ints .u8 b))] [] K:=by apply Eq.mp (a:=hvc_); kernel_rfl
theorem vcClone (a : List (List D)) (K : V→KB→Prop) (hvc_ :
 ∀ (b : Bool),(b = true→a.length = 0)→(b = true→K (V.any (Value.slice none 0 0)) [])∧(b = false→True∧0 ≤ 0∧(0 + a.length) * 1 ≤ 140737488355328∧K (V.sl 0 0 (0 + a.length)) [KO.row 5 1 ([] ++ a)])
 ) : runSpec Try.prog X0 (noT 30) 30 [.dat (.sl 1 a)] [] K:=by apply Eq.mp (a:=hvc_); kernel_rfl
theorem mixed : Try.prog.follows .mixedOrders = true:=by kernel_rfl
theorem noS_ok : AllOk Try.prog noS:=fun f k h => by cases h
theorem X0_ok : CallOk Try.prog X0:=callS_ok mixed noS_ok noT 10
def SsameL (k : IntKind) : FSpec:=fun args kb K => match args,kb with
  | [.dat (.sl 1 A),.dat (.sl 1 B)],[] => ∃ a b : List Int,A = ints k a∧B = ints k b∧a.length ≤ maxLen∧K (.sb (decide (a = b))) []
  | _,_ => False
def SsameK (k : IntKind) : FSpec:=fun args kb K => match args,kb with
  | [.dat (.sl 1 A),.dat (.sl 1 B)],[] => ∃ a b : List Int,A = ints k a∧B = ints k b∧Sm a∧K (.sb (decide (a = b))) []
  | _,_ => False
abbrev Ssame : FSpec:=SsameK .u8
theorem sameK_of {f : FuncId} {k : IntKind} (h : SpecOk Try.prog f (SsameL k)) : SpecOk Try.prog f (SsameK k):=fun args kb K hs => h args kb K (by
  unfold SsameK at hs; split at hs <;> try exact hs.elim
  obtain ⟨a,b,rfl,rfl,hl,hk⟩:=hs
  unfold Sm at hl
  exact ⟨a,b,rfl,rfl,by simp only [maxLen]; omega,hk⟩)
theorem sInv_step {a b : List Int} {i : Nat} (h : sInv a b i) (ha : i < a.length) (hb : i < b.length) (he : a[i] = b[i]) : sInv a b (i + 1):=by
  refine ⟨by omega,?_⟩
  rw [List.take_add_one,List.take_add_one,h.2,List.getElem?_eq_getElem ha,List.getElem?_eq_getElem hb,he]
theorem okEqualL : SpecOk Try.prog 77 (SsameL .u8):=specOk_of' X0_ok mixed (fun args kb K h => by
  unfold SsameL at h; split at h <;> try exact h.elim
  obtain ⟨a,b,rfl,rfl,hsm,h⟩:=h
  simp only [maxLen] at hsm
  refine ⟨saT .u8 a b 77,vcEqual a b K ⟨fun hc => ?_,fun hc => ⟨?_,?_⟩⟩⟩
  · simp only [ints_len,bne_iff_ne,ne_eq] at hc
    rw [decide_eq_false (fun e => hc (by rw [e]))] at h; exact h
  · rw [ints_len]; exact At.mk' (⟨0,Nat.zero_le _,rfl⟩ : {i : Nat // sInv a b i}) rfl
  simp only [ints_len,bne_eq_false_iff_eq] at hc
  have hl : a.length = b.length:=by omega
  rintro ⟨i,hi,ht⟩
  simp only [ints_len] at ht ⊢
  refine ⟨fun hc2 => ?_,fun hc2 => ?_⟩
  · simp only [decide_eq_true_eq] at hc2
    have e2 : ((i : Nat) : Int).toNat = i:=by omega
    have hq : a[i]? = some a[i]:=List.getElem?_eq_getElem (by omega)
    have hq2 : b[i]? = some b[i]:=List.getElem?_eq_getElem (by omega)
    have hnn : NonN (i : Int):=by unfold NonN; omega
    have w2:=w64 (n:=(i : Int) + 1) (by omega) (by omega)
    refine ⟨hnn,[D.val (.int .u8 a[i])],by rw [e2,ints_get,hq]; rfl,a[i],rfl,hnn,[D.val (.int .u8 b[i])],by rw [e2,ints_get,hq2]; rfl,b[i],rfl,fun hx => ?_,fun hx => ?_⟩
    · simp only [bne_iff_ne,ne_eq] at hx
      rw [decide_eq_false (fun e => hx (by subst e; rfl))] at h; exact h
    · simp only [bne_eq_false_iff_eq] at hx
      rw [w2]
      exact Nx.mk' (⟨i + 1,sInv_step ⟨hi,ht⟩ (by omega) (by omega) hx⟩ : {i : Nat // sInv a b i}) rfl (by show a.length - (i + 1) < a.length - i; omega)
  · simp only [decide_eq_false_iff_not] at hc2
    have : i = a.length:=by omega
    subst this
    rw [List.take_length,hl,List.take_length] at ht
    rw [decide_eq_true ht] at h; exact h)
theorem okEqual : SpecOk Try.prog 77 (SsameK .u8):=sameK_of okEqualL
def ScloneTB : FSpec:=fun args kb K => match args,kb with
  | [.dat (.sl 1 A)],[] => A.length ≤ 140737488355328∧(A = []→K (.any (.slice none 0 0)) [])∧K (.sl 0 0 A.length) [.row 5 1 A]
  | _,_ => False
def ScloneB : FSpec:=fun args kb K => match args,kb with
  | [.dat (.sl 1 A)],[] => A.length ≤ 140737488355328∧K (.sl 0 0 A.length) [.row 5 1 A]
  | _,_ => False
theorem cloneB_of {f : FuncId} (h : SpecOk Try.prog f ScloneTB) : SpecOk Try.prog f ScloneB:=fun args kb K hs => nilOut_ok h [.slot 0 5 1] args kb K (by
  unfold ScloneB at hs; split at hs <;> try exact hs.elim
  refine ⟨hs.1,fun e => ?_,hs.2⟩
  subst e
  exact hs.2)
abbrev Sclone : FSpec:=ScloneTB
theorem okClone : SpecOk Try.prog 30 ScloneTB:=specOk_of' X0_ok mixed (fun args kb K h => by
  unfold ScloneTB at h; split at h <;> try exact h.elim
  rename_i A
  refine ⟨noT 30,vcClone A K (fun b hb => ⟨fun e => h.2.1 (List.length_eq_zero_iff.1 (hb e)),fun e => ⟨trivial,Nat.le_refl _,by omega,?_⟩⟩)⟩
  have:=h.2.2
  simpa using this)
end Go.Proofs.Ytfcjngcnifdmnaa
namespace Go.Proofs.Ytfcjngcnifdmnaa
open Vc Go
set_option linter.unusedVariables false
set_option linter.unusedSimpArgs false
set_option maxRecDepth 100000
def tInv (i : Nat) : Prop:=i ≤ 256
def uInv (k : Nat) : Prop:=k ≤ 8
abbrev uLI (tb : Nat→List D) (h' : Nat→Nat→Int) (i : Nat) : LI where
  α:={k : Nat // uInv k}
  live:=[1,2,3,5,10]
  st k:=([.ptr 0 0,.int .i64 (i : Int),.int .u32 (h' i k.1),.int .i64 (i : Int),.int .i64 (k.1 : Int)],[.cells [.arr 256 (tb i)]])
  μ k:=8 - k.1
abbrev tLI (tb : Nat→List D) (h' : Nat→Nat→Int) : LI where
  α:={i : Nat // tInv i}
  live:=[1,5]
  st i:=([.ptr 0 0,.int .i64 (i.1 : Int)],[.cells [.arr 256 (tb i.1)]])
  μ i:=256 - i.1
  sub i:=fun r => match r with | 7 => some (uLI tb h' i.1) | _ => none
def sumT (tb : Nat→List D) (h' : Nat→Nat→Int) : FuncId→Nat→Option LI
  | 76,3 => some (tLI tb h')
  | _,_ => none
def tabD (i : Nat) : List D:=dns .u32 (crcTb i)
def tabH (i k : Nat) : Int:=U (cstN k (BitVec.ofNat 32 i))
def Ssums (ts : List D) : FSpec:=fun args kb K => match args,kb with
  | [],[] => K (.ptr 0 0) [.cells [.arr 256 ts]]
  | _,_ => False
def crS (ts : List D) : FuncId→Option Known
  | 76 => some ⟨[],Ssums ts⟩
  | _ => none
noncomputable def XC (ts : List D) : CallT:=callS Try.prog (crS ts) noT 10
def bsl (l : List Int) : List D:=[.sl 1 (ints .u8 l)]
def qInv (n : Nat) (i : Nat) : Prop:=i ≤ n
abbrev bLI (ts : List D) (ls : List (List Int)) (xv : Nat→Nat→Int) (j : Nat) : LI where
  α:={i : Nat // qInv (ls.getD j []).length i}
  live:=[3,4,10,11,12,16,17,18]
  st i:=([.ptr 0 0,.int .u32 (xv j i.1),.dat (.sl 1 (ls.map bsl)),.int .i64 (ls.length : Int),.int .i64 (j : Int),.dat (.sl 1 (ints .u8 (ls.getD j []))),.int .i64 ((ls.getD j []).length : Int),.int .i64 (i.1 : Int)],[.cells [.arr 256 ts]])
  μ i:=(ls.getD j []).length - i.1
abbrev aLI (ts : List D) (ls : List (List Int)) (xv : Nat→Nat→Int) : LI where
  α:={j : Nat // qInv ls.length j}
  live:=[3,4,10,11,12]
  st j:=([.ptr 0 0,.int .u32 (xv j.1 0),.dat (.sl 1 (ls.map bsl)),.int .i64 (ls.length : Int),.int .i64 (j.1 : Int)],[.cells [.arr 256 ts]])
  μ j:=ls.length - j.1
  sub j:=fun r => match r with | 7 => some (bLI ts ls xv j.1) | _ => none
def crcT (ts : List D) (ls : List (List Int)) (xv : Nat→Nat→Int) : FuncId→Nat→Option LI
  | 63,4 => some (aLI ts ls xv)
  | _,_ => none
theorem vcSums (tb : Nat→List D) (h' : Nat→Nat→Int) (K : V→KB→Prop) (hvc_ :
 At (tLI tb h')
 ([V.ptr 0 0,V.int IntKind.i64 0],
 [KO.cells
 [V.arr 256
 (List.replicate 256 (D.val (Value.int IntKind.u32 0)))]]) ∧
 ∀ (i : { i : Nat // tInv i }),
 (decide ((↑i.val : Int) < 256) = true →
 At (uLI tb h' i.val) ([V.ptr 0 0,V.int IntKind.i64 (↑i.val : Int),V.int IntKind.u32 (IntKind.u32.wrap (↑i.val : Int)),V.int IntKind.i64 (↑i.val : Int),V.int IntKind.i64 0],[KO.cells [V.arr 256 (tb i.val)]]) ∧
 ∀ (i_1 : { k : Nat // uInv k }),
 (decide ((↑i_1.val : Int) < 8) = true →
 Nx (uLI tb h' i.val) i_1
 ([V.ptr 0 0,V.int IntKind.i64 (↑i.val : Int),V.int IntKind.u32 (IntKind.u32.wrap (↑(BitVec.ofInt 32 ((h' i.val i_1.val).fdiv 2) ^^^ BitVec.ofInt 32 (IntKind.u32.wrap (IntKind.u32.wrap (↑(BitVec.ofInt 32 (h' i.val i_1.val) &&& BitVec.ofInt 32 1).toNat : Int) * 3988292384))).toNat : Int)),V.int IntKind.i64 (↑i.val : Int),
 V.int IntKind.i64 (IntKind.i64.wrap ((↑i_1.val : Int) + 1))],
 [KO.cells [V.arr 256 (tb i.val)]])) ∧
 (decide ((↑i_1.val : Int) < 8) = false→InB (↑i.val : Int) 256∧(↑i.val : Int).toNat * 1 + 1 ≤ 256∧Nx (tLI tb h') i ([V.ptr 0 0,V.int IntKind.i64 (IntKind.i64.wrap ((↑i.val : Int) + 1))],[KO.cells [V.arr 256 (splice (tb i.val) ((↑i.val : Int).toNat * 1) [D.val (Value.int IntKind.u32 (h' i.val i_1.val))])]]))) ∧
 (decide ((↑i.val : Int) < 256) = false→K (V.ptr 0 0) [KO.cells [V.arr 256 (tb i.val)]])
 ) : runSpec Try.prog X0 (sumT tb h' 76) 76 [] [] K:=by apply Eq.mp (a:=hvc_); kernel_rfl
theorem vcSum (ts : List D) (ls : List (List Int)) (xv : Nat→Nat→Int) (K : V→KB→Prop) (hvc_ :
 At (aLI ts ls xv) ([V.ptr 0 0,V.int IntKind.u32 4294967295,V.dat (D.sl 1 (List.map bsl ls)),V.int IntKind.i64 (↑(List.map bsl ls).length : Int),V.int IntKind.i64 0],[KO.cells [V.arr 256 ts]]) ∧
 ∀ (i : { j : Nat // qInv ls.length j }),
 (decide ((↑i.val : Int) < (↑ls.length : Int)) = true →
 NonN (↑i.val : Int) ∧
 ∃ (e : List D),
 (List.map bsl ls)[(↑i.val : Int).toNat]? = some e ∧
 ∃ (l : List (List D)),
 e[0]? = some (D.sl 1 l) ∧
 At (bLI ts ls xv i.val) ([V.ptr 0 0,V.int IntKind.u32 (xv i.val 0),V.dat (D.sl 1 (List.map bsl ls)),V.int IntKind.i64 (↑ls.length : Int),V.int IntKind.i64 (↑i.val : Int),V.dat (D.sl 1 l),V.int IntKind.i64 (↑l.length : Int),V.int IntKind.i64 0],[KO.cells [V.arr 256 ts]]) ∧
 ∀ (i_1 : { i_1 : Nat // qInv (ls.getD i.val []).length i_1 }),
 (decide ((↑i_1.val : Int) < (↑(ls.getD i.val []).length : Int)) = true →
 NonN (↑i_1.val : Int) ∧
 ∃ (e : List D),
 (ints IntKind.u8 (ls.getD i.val []))[(↑i_1.val : Int).toNat]? = some e ∧
 ∃ (n : Int),
 e[0]? = some (D.val (Value.int IntKind.u8 n)) ∧
 InB (IntKind.u8.wrap (↑(BitVec.ofInt 8 (IntKind.u8.wrap (xv i.val i_1.val)) ^^^ BitVec.ofInt 8 n).toNat : Int)) 256 ∧
 ∃ (n_1 : Int),
 ts[(IntKind.u8.wrap (↑(BitVec.ofInt 8 (IntKind.u8.wrap (xv i.val i_1.val)) ^^^ BitVec.ofInt 8 n).toNat : Int)).toNat * 1]? = some (D.val (Value.int IntKind.u32 n_1)) ∧
 Nx (bLI ts ls xv i.val) i_1
 ([V.ptr 0 0,V.int IntKind.u32 (IntKind.u32.wrap (↑(BitVec.ofInt 32 ((xv i.val i_1.val).fdiv 256) ^^^ BitVec.ofInt 32 n_1).toNat : Int)),V.dat (D.sl 1 (List.map bsl ls)),V.int IntKind.i64 (↑ls.length : Int),V.int IntKind.i64 (↑i.val : Int),V.dat (D.sl 1 (ints IntKind.u8 (ls.getD i.val []))),V.int IntKind.i64 (↑(ls.getD i.val []).length : Int),
 V.int IntKind.i64 (IntKind.i64.wrap ((↑i_1.val : Int) + 1))],
 [KO.cells [V.arr 256 ts]])) ∧
 (decide ((↑i_1.val : Int) < (↑(ls.getD i.val []).length : Int)) = false→Nx (aLI ts ls xv) i ([V.ptr 0 0,V.int IntKind.u32 (xv i.val i_1.val),V.dat (D.sl 1 (List.map bsl ls)),V.int IntKind.i64 (↑ls.length : Int),V.int IntKind.i64 (IntKind.i64.wrap ((↑i.val : Int) + 1))],[KO.cells [V.arr 256 ts]]))) ∧
 (decide ((↑i.val : Int) < (↑ls.length : Int)) = false→K (V.int IntKind.u32 (IntKind.u32.wrap (↑(BitVec.ofInt 32 4294967295 ^^^ BitVec.ofInt 32 (xv i.val 0)).toNat : Int))) [])
 ) : runSpec Try.prog (XC ts) (crcT ts ls xv 63) 63 [.dat (.sl 1 (ls.map bsl))] [] K:=by apply Eq.mp (a:=hvc_); kernel_rfl
theorem crcTb_set {i : Nat} (h : i < 256) : splice (crcTb i) (i * 1) [crcTab i] = crcTb (i + 1):=by
  unfold splice crcTb
  apply List.ext_getElem?
  intro j
  simp only [Nat.mul_one,List.length_cons,List.length_nil]
  have hl : ((List.range 256).map fun j => if j < i then crcTab j else 0).length = 256:=by simp
  rcases Nat.lt_trichotomy j i with hj | rfl | hj
  · rw [List.append_assoc,List.getElem?_append_left (by rw [List.length_take,hl]; omega),List.getElem?_take_of_lt hj]
    simp only [List.getElem?_map,List.getElem?_range (show j < 256 by omega),Option.map_some,if_pos hj,if_pos (show j < i + 1 by omega)]
  · rw [List.append_assoc,List.getElem?_append_right (by rw [List.length_take,hl]; omega)]
    rw [List.length_take,hl,show j - min j 256 = 0 by omega]
    simp only [List.getElem?_map,List.getElem?_range h,Option.map_some,if_pos (show j < j + 1 by omega)]
    rfl
  · rw [List.append_assoc,List.getElem?_append_right (by rw [List.length_take,hl]; omega)]
    rw [List.length_take,hl,List.getElem?_append_right (by simp; omega),List.getElem?_drop]
    rw [show i + 1 + (j - min i 256 - [crcTab i].length) = j by simp; omega]
    by_cases h2 : j < 256
    · simp only [List.getElem?_map,List.getElem?_range h2,Option.map_some,if_neg (show ¬ j < i by omega),if_neg (show ¬ j < i + 1 by omega)]
    · rw [List.getElem?_eq_none (by rw [hl]; omega),List.getElem?_eq_none (by simp; omega)]
theorem tabD_set {i : Nat} (h : i < 256) : splice (tabD i) (i * 1) [D.val (.int .u32 (tabH i 8))] = tabD (i + 1):=by
  have : splice (dns .u32 (crcTb i)) (i * 1) (dns .u32 [crcTab i]) = dns .u32 (splice (crcTb i) (i * 1) [crcTab i]):=by simp [splice,dns]
  unfold tabD
  rw [← crcTb_set h,← this]; rfl
theorem okSums : SpecOk Try.prog 76 (Ssums (tabD 256)):=specOk_of' X0_ok mixed (fun args kb K h => by
  unfold Ssums at h; split at h <;> try exact h.elim
  refine ⟨sumT tabD tabH 76,vcSums tabD tabH K ⟨At.mk' ⟨0,Nat.zero_le _⟩ rfl,?_⟩⟩
  rintro ⟨i,hi⟩
  simp only [tInv] at hi ⊢
  refine ⟨fun hc => ?_,fun hc => ?_⟩
  · simp only [decide_eq_true_eq] at hc
    have hi2 : i < 256:=by omega
    have w1 : IntKind.u32.wrap (i : Int) = tabH i 0:=by
      unfold tabH U cstN
      rw [BitVec.toNat_ofNat,Nat.mod_eq_of_lt (by omega)]
      exact IntWalk.u32_in _ (by omega)
    rw [w1]
    refine ⟨At.mk' ⟨0,Nat.zero_le _⟩ rfl,?_⟩
    rintro ⟨k,hk⟩
    simp only [uInv] at hk ⊢
    refine ⟨fun hc2 => ?_,fun hc2 => ?_⟩
    · simp only [decide_eq_true_eq] at hc2
      have w2:=w64 (n:=(k : Int) + 1) (by omega) (by omega)
      have e : IntKind.u32.wrap (((BitVec.ofInt 32 ((tabH i k).fdiv 2) ^^^ BitVec.ofInt 32 (IntKind.u32.wrap (IntKind.u32.wrap (((BitVec.ofInt 32 (tabH i k) &&& BitVec.ofInt 32 1).toNat : Int)) * 3988292384))).toNat : Int)) = tabH i (k + 1):=by
        unfold tabH
        rw [U_of,show (BitVec.ofInt 32 1) = 1#32 by decide]
        have h1:=U_bit (cstN k (BitVec.ofNat 32 i))
        unfold U at h1
        rw [h1]
        have h2:=U_shr (cstN k (BitVec.ofNat 32 i)) 1
        rw [show ((2 ^ 1 : Nat) : Int) = 2 from rfl] at h2
        rw [h2,U_of]
        have h3:=U_of (if (cstN k (BitVec.ofNat 32 i)).getLsbD 0 then cpoly else 0#32)
        unfold U at h3
        rw [h3]
        exact U_wrap _
      rw [e,w2]
      exact Nx.mk' (⟨k + 1,by show k + 1 ≤ 8; omega⟩ : {x : Nat // uInv x}) rfl (by show 8 - (k + 1) < 8 - k; omega)
    · simp only [decide_eq_false_iff_not] at hc2
      have hk8 : k = 8:=by omega
      subst hk8
      have e2 : ((i : Nat) : Int).toNat = i:=by omega
      have w2:=w64 (n:=(i : Int) + 1) (by omega) (by omega)
      refine ⟨by unfold InB; omega,by omega,?_⟩
      rw [e2,w2,tabD_set hi2]
      exact Nx.mk' (⟨i + 1,by show i + 1 ≤ 256; omega⟩ : {x : Nat // tInv x}) rfl (by show 256 - (i + 1) < 256 - i; omega)
  · simp only [decide_eq_false_iff_not] at hc
    have : i = 256:=by omega
    subst this; exact h)
theorem crS_ok : AllOk Try.prog (crS (tabD 256)):=fun f k h => by
  unfold crS at h
  split at h <;> first | (cases h; exact okSums) | cases h
theorem XC_ok : CallOk Try.prog (XC (tabD 256)):=callS_ok mixed crS_ok noT 10
abbrev ini32 : W32:=4294967295#32
def sumX (ls : List (List Int)) (j i : Nat) : Int:=U (crcR (crcR ini32 (ls.take j).flatten) ((ls.getD j []).take i))
def Byts (ls : List (List Int)) : Prop:=ls.length ≤ 1000000∧∀ l ∈ ls,Byt l∧Sm l
def Ssum : FSpec:=fun args kb K => match args,kb with
  | [.dat (.sl 1 L)],[] => ∃ ls : List (List Int),L = ls.map bsl∧Byts ls∧K (.int .u32 (crcI ls.flatten)) []
  | _,_ => False
theorem tab_get {i : Nat} (h : i < 256) : (tabD 256)[i]? = some (D.val (.int .u32 (U (cstN 8 (BitVec.ofNat 32 i))))):=by
  unfold tabD crcTb dns
  simp only [List.getElem?_map,List.getElem?_range h,Option.map_some,if_pos h]
  rfl
theorem okSum : SpecOk Try.prog 63 Ssum:=specOk_of' XC_ok mixed (fun args kb K h => by
  unfold Ssum at h; split at h <;> try exact h.elim
  obtain ⟨ls,rfl,hb,h⟩:=h
  have hbl:=hb.1
  refine ⟨crcT (tabD 256) ls (sumX ls) 63,vcSum (tabD 256) ls (sumX ls) K ⟨?_,?_⟩⟩
  · simp only [List.length_map]
    exact At.mk' ⟨0,Nat.zero_le _⟩ rfl
  rintro ⟨j,hj⟩
  simp only [qInv] at hj ⊢
  refine ⟨fun hc => ?_,fun hc => ?_⟩
  · simp only [decide_eq_true_eq] at hc
    have e2 : ((j : Nat) : Int).toNat = j:=by omega
    have hq : ls[j]? = some ls[j]:=List.getElem?_eq_getElem (by omega)
    have hg : ls.getD j [] = ls[j]:=by rw [List.getD_eq_getElem?_getD,hq]; rfl
    have hnn : NonN (j : Int):=by unfold NonN; omega
    refine ⟨hnn,bsl ls[j],by rw [e2,List.getElem?_map,hq]; rfl,ints .u8 ls[j],rfl,?_,?_⟩
    · rw [ints_len,← hg]
      exact At.mk' (⟨0,Nat.zero_le _⟩ : {i : Nat // qInv (ls.getD j []).length i}) rfl
    rintro ⟨i,hi⟩
    simp only [qInv] at hi ⊢
    refine ⟨fun hc2 => ?_,fun hc2 => ?_⟩
    · simp only [decide_eq_true_eq] at hc2
      have e3 : ((i : Nat) : Int).toNat = i:=by omega
      have hil : i < ls[j].length:=by rw [← hg]; omega
      have hq2 : (ls.getD j [])[i]? = some ls[j][i]:=by rw [hg]; exact List.getElem?_eq_getElem hil
      have hby : 0 ≤ ls[j][i]∧ls[j][i] < 256:=(hb.2 ls[j] (List.getElem_mem _)).1 _ (List.getElem_mem _)
      have hnn2 : NonN (i : Int):=by unfold NonN; omega
      have hsm : ls[j].length ≤ 1000000:=(hb.2 ls[j] (List.getElem_mem _)).2
      have w2:=w64 (n:=(i : Int) + 1) (by omega) (by omega)
      refine ⟨hnn2,[D.val (.int .u8 ls[j][i])],by rw [e3,ints_get,hq2]; rfl,ls[j][i],rfl,?_⟩
      unfold sumX
      rw [crc_idx hby]
      have hlt : ((crcR (crcR ini32 (ls.take j).flatten) ((ls.getD j []).take i) ^^^ BitVec.ofInt 32 ls[j][i]) &&& 255#32).toNat < 256:=by rw [low_toNat]; omega
      refine ⟨by unfold InB; omega,_,by rw [Int.toNat_natCast,Nat.mul_one,tab_get hlt],?_⟩
      rw [BitVec.ofNat_toNat,BitVec.setWidth_eq,crc_new hby,w2]
      refine Nx.mk' (⟨i + 1,by show i + 1 ≤ (ls.getD j []).length; omega⟩ : {i : Nat // qInv (ls.getD j []).length i}) ?_ (by show (ls.getD j []).length - (i + 1) < (ls.getD j []).length - i; omega)
      have ht : (ls.getD j []).take (i + 1) = (ls.getD j []).take i ++ [ls[j][i]]:=by rw [List.take_add_one,hq2]; rfl
      show _ = (([.ptr 0 0,.int .u32 (U (crcR (crcR ini32 (ls.take j).flatten) ((ls.getD j []).take (i + 1)))),_,_,_,_,_,_],_) : List V × KB)
      rw [ht,crcR_snoc]
      rfl
    · simp only [decide_eq_false_iff_not] at hc2
      have hil : i = (ls.getD j []).length:=by omega
      subst hil
      have w2:=w64 (n:=(j : Int) + 1) (by omega) (by omega)
      rw [w2]
      refine Nx.mk' (⟨j + 1,by show j + 1 ≤ ls.length; omega⟩ : {j : Nat // qInv ls.length j}) ?_ (by show ls.length - (j + 1) < ls.length - j; omega)
      have ht : (ls.take (j + 1)).flatten = (ls.take j).flatten ++ ls.getD j []:=by rw [List.take_add_one,hq,hg,List.flatten_append]; simp
      have e : sumX ls j (ls.getD j []).length = sumX ls (j + 1) 0:=by
        unfold sumX
        rw [List.take_length,ht,crcR_app]; rfl
      rw [e]; rfl
  · simp only [decide_eq_false_iff_not] at hc
    have : j = ls.length:=by omega
    subst this
    have e : sumX ls ls.length 0 = U (crcR ini32 ls.flatten):=by
      unfold sumX; rw [List.take_length,List.take_zero]; rfl
    rw [e,U_not]
    exact h)
end Go.Proofs.Ytfcjngcnifdmnaa
namespace Go.Proofs.Ytfcjngcnifdmnaa
open Vc Go
set_option linter.unusedVariables false
set_option linter.unusedSimpArgs false
set_option maxRecDepth 100000
def sumS : FuncId→Option Known
  | 63 => some ⟨[.lend 1],Ssum⟩
  | 77 => some ⟨[.lend 1,.lend 1],Ssame⟩
  | 30 => some ⟨[.lend 1],Sclone⟩
  | _ => none
noncomputable def XS : CallT:=callS Try.prog sumS noT 10
def Sseal : FSpec:=fun args kb K => match args,kb with
  | [.dat (.sl 1 A)],[] => ∃ l : List Int,A = ints .u8 l∧Byt l∧l.length ≤ 900000∧K (.sl 0 0 (l.length + 4)) [.row 5 1 (ints .u8 (sealI l))]
  | _,_ => False
def Sopen : FSpec:=fun args kb K => match args,kb with
  | [.dat (.sl 1 A)],[] => ∃ l : List Int,A = ints .u8 l∧Byt l∧l.length ≤ 900000∧(openI l = none→K (.tup [.any (.slice none 0 0),.sb false]) []) ∧
    ∀ m,openI l = some m→(m = []→K (.tup [.any (.slice none 0 0),.sb true]) [])∧K (.tup [.sl 0 0 m.length,.sb true]) [.row 5 1 (ints .u8 m)]
  | _,_ => False
def sealS : FuncId→Option Known
  | 71 => some ⟨[.lend 1],Sseal⟩
  | f => sumS f
noncomputable def XO : CallT:=callS Try.prog sealS noT 10
theorem vcOpen (l : List Int) (K : V→KB→Prop) (hvc_ :
 (decide (IntKind.i64.wrap ((↑(ints IntKind.u8 l).length : Int) - 4) < 0) = true→K (V.tup [V.any (Value.slice none 0 0),V.sb false]) []) ∧
 (decide (IntKind.i64.wrap ((↑(ints IntKind.u8 l).length : Int) - 4) < 0) = false →
 True ∧
 NonN (IntKind.i64.wrap ((↑(ints IntKind.u8 l).length : Int) - 4)) ∧
 0 ≤ (IntKind.i64.wrap ((↑(ints IntKind.u8 l).length : Int) - 4)).toNat ∧
 (IntKind.i64.wrap ((↑(ints IntKind.u8 l).length : Int) - 4)).toNat ≤ (ints IntKind.u8 l).length ∧
 ∃ (l_1 : List Int),
 List.drop 0 (List.take (IntKind.i64.wrap ((↑(ints IntKind.u8 l).length : Int) - 4)).toNat (ints IntKind.u8 l)) = ints IntKind.u8 l_1 ∧
 (∀ (c : Int),List.Mem c l_1→0 ≤ c∧c < 256) ∧
 l_1.length ≤ 900000 ∧
 (l_1.length + 4 ≤ (ints IntKind.u8 (sealI l_1)).length∧True∧True) ∧
 ∃ (a : List Int),
 ∃ (b : List Int),
 List.drop 0 (List.take (l_1.length + 4) (ints IntKind.u8 (sealI l_1))) = ints IntKind.u8 a ∧
 ints IntKind.u8 l = ints IntKind.u8 b ∧
 a.length.le 1000000 ∧
 True ∧
 ((!decide (a = b)) = true→K (V.tup [V.any (Value.slice none 0 0),V.sb false]) []) ∧
 ((!decide (a = b)) = false →
 True ∧
 NonN (IntKind.i64.wrap ((↑(ints IntKind.u8 l).length : Int) - 4)) ∧
 0 ≤ (IntKind.i64.wrap ((↑(ints IntKind.u8 l).length : Int) - 4)).toNat ∧
 (IntKind.i64.wrap ((↑(ints IntKind.u8 l).length : Int) - 4)).toNat ≤ (ints IntKind.u8 l).length ∧
 (List.drop 0 (List.take (IntKind.i64.wrap ((↑(ints IntKind.u8 l).length : Int) - 4)).toNat (ints IntKind.u8 l))).length ≤ 140737488355328 ∧
 (List.drop 0 (List.take (IntKind.i64.wrap ((↑(ints IntKind.u8 l).length : Int) - 4)).toNat (ints IntKind.u8 l)) = []→K (V.tup [V.any (Value.slice none 0 0),V.sb true]) []) ∧
 K (V.tup [V.sl 0 0 (List.drop 0 (List.take (IntKind.i64.wrap ((↑(ints IntKind.u8 l).length : Int) - 4)).toNat (ints IntKind.u8 l))).length,V.sb true]) [KO.row 5 1 (List.drop 0 (List.take (IntKind.i64.wrap ((↑(ints IntKind.u8 l).length : Int) - 4)).toNat (ints IntKind.u8 l)))]))
 ) : runSpec Try.prog XO (noT 69) 69 [.dat (.sl 1 (ints .u8 l))] [] K:=by apply Eq.mp (a:=hvc_); kernel_rfl
theorem vcSeal (A : List (List D)) (K : V→KB→Prop) (hvc_ :
 (1 ≤ 1∧True) ∧
 ∃ (ls : List (List Int)),
 [[D.sl 1 A]] = List.map bsl ls ∧
 (ls.length ≤ 1000000∧∀ (l : List Int),List.Mem l ls→(∀ (c : Int),List.Mem c l→0 ≤ c∧c < 256)∧l.length.le 1000000) ∧
 True ∧
 A.length ≤ 140737488355328 ∧
 (A = []→4 ≤ 4∧4 * 1 ≤ 140737488355328∧K (V.sl 0 0 4) [KO.row 5 1 [[D.val (Value.int IntKind.u8 (IntKind.u8.wrap (crcI ls.flatten)))],[D.val (Value.int IntKind.u8 (IntKind.u8.wrap ((crcI ls.flatten).fdiv 256)))],[D.val (Value.int IntKind.u8 (IntKind.u8.wrap ((crcI ls.flatten).fdiv 65536)))],[D.val (Value.int IntKind.u8 (IntKind.u8.wrap ((crcI ls.flatten).fdiv 16777216)))]]]) ∧
 4 ≤ 4 ∧
 A.length ≤ A.length ∧
 (A.length + 4) * 1 ≤ 140737488355328 ∧
 K (V.sl 0 0 (A.length + 4)) [KO.row 5 1 (List.take A.length A ++ [[D.val (Value.int IntKind.u8 (IntKind.u8.wrap (crcI ls.flatten)))],[D.val (Value.int IntKind.u8 (IntKind.u8.wrap ((crcI ls.flatten).fdiv 256)))],[D.val (Value.int IntKind.u8 (IntKind.u8.wrap ((crcI ls.flatten).fdiv 65536)))],[D.val (Value.int IntKind.u8 (IntKind.u8.wrap ((crcI ls.flatten).fdiv 16777216)))]])]
 ) : runSpec Try.prog XS (noT 71) 71 [.dat (.sl 1 A)] [] K:=by apply Eq.mp (a:=hvc_); kernel_rfl
theorem sumS_ok : AllOk Try.prog sumS:=fun f k h => by
  unfold sumS at h
  split at h <;> first | (cases h; first | exact okSum | exact okRSum | exact okSame | exact okEqual | exact okClone) | cases h
theorem XS_ok : CallOk Try.prog XS:=callS_ok mixed sumS_ok noT 10
theorem crcI_one {l : List Int} : ([l] : List (List Int)).flatten = l:=by simp
theorem okSeal : SpecOk Try.prog 71 Sseal:=specOk_of' XS_ok mixed (fun args kb K h => by
  unfold Sseal at h; split at h <;> try exact h.elim
  obtain ⟨l,rfl,hb,hsm,h⟩:=h
  refine ⟨noT 71,vcSeal _ K ⟨⟨Nat.le_refl _,trivial⟩,[l],rfl,⟨Nat.le_of_ble_eq_true rfl,fun x hx => ?_⟩,trivial,by rw [ints_len]; omega,fun e => ⟨Nat.le_refl _,by omega,?_⟩,Nat.le_refl _,Nat.le_refl _,by rw [ints_len]; omega,?_⟩⟩
  · cases hx with
    | head => exact ⟨hb,Nat.le_trans hsm (by decide)⟩
    | tail _ hx => cases hx
  · cases l with
    | cons a l => simp [ints] at e
    | nil => exact h
  · rw [crcI_one,ints_len,List.take_of_length_le (by rw [ints_len]; omega)]
    have : ints .u8 (sealI l) = ints .u8 l ++ ints .u8 (le4 (crcI l)):=by unfold sealI; rw [ints_app]
    rw [this] at h
    exact h)
theorem sealS_ok : AllOk Try.prog sealS:=fun f k h => by
  unfold sealS at h
  split at h
  · cases h; exact okSeal
  · exact sumS_ok _ _ h
theorem XO_ok : CallOk Try.prog XO:=callS_ok mixed sealS_ok noT 10
theorem take_four {l : List Int} (h : 4 ≤ l.length) (hm : l.length ≤ 900000) : (IntKind.i64.wrap ((l.length : Int) - 4)).toNat = l.length - 4∧NonN (IntKind.i64.wrap ((l.length : Int) - 4)):=by
  rw [w64 (by omega) (by omega)]
  unfold NonN
  omega
theorem Byt.take {l : List Int} (h : Byt l) (n : Nat) : Byt (l.take n):=fun c hc => h c (List.mem_of_mem_take hc)
theorem dt (n : Nat) (l : List Int) : List.drop 0 (List.take n (ints .u8 l)) = ints .u8 (l.take n):=by rw [List.drop_zero,ints_take]
theorem okOpen : SpecOk Try.prog 69 Sopen:=specOk_of' XO_ok mixed (fun args kb K h => by
  unfold Sopen at h; split at h <;> try exact h.elim
  obtain ⟨l,rfl,hb,hsm,h1,h2⟩:=h
  refine ⟨noT 69,vcOpen l K ⟨fun hc => ?_,fun hc => ?_⟩⟩
  · simp only [ints_len,decide_eq_true_eq] at hc
    refine h1 ?_
    unfold openI
    rw [if_neg]
    rintro ⟨h4,_⟩
    rw [w64 (by omega) (by omega)] at hc; omega
  · simp only [ints_len,decide_eq_false_iff_not] at hc ⊢
    have h4 : 4 ≤ l.length:=by rw [w64 (by omega) (by omega)] at hc; omega
    obtain ⟨t1,t2⟩:=take_four h4 hsm
    rw [t1]
    refine ⟨trivial,t2,Nat.zero_le _,Nat.sub_le _ _,l.take (l.length - 4),dt _ _,Byt.take hb _,by simp; omega,⟨?_,trivial,trivial⟩,sealI (l.take (l.length - 4)),l,?_,rfl,?_,trivial,fun hx => ?_,fun hx => ?_⟩
    · simp only [ints_len,sealI_len]; exact Nat.le_refl _
    · rw [dt,← sealI_len,List.take_length]
    · show (sealI (l.take (l.length - 4))).length ≤ 1000000
      rw [sealI_len,List.length_take]; omega
    · refine h1 ?_
      unfold openI
      rw [if_neg]
      rintro ⟨_,he⟩
      simp [he] at hx
    · have ho : openI l = some (l.take (l.length - 4)):=by
        unfold openI
        rw [if_pos ⟨h4,by simpa using hx⟩]
      obtain ⟨k1,k2⟩:=h2 _ ho
      simp only [dt,ints_len]
      refine ⟨trivial,t2,Nat.zero_le _,Nat.sub_le _ _,by rw [List.length_take]; omega,fun e => k1 ?_,k2⟩
      have:=congrArg List.length e
      rw [ints_len] at this
      exact List.length_eq_zero_iff.1 this)
def codeS : FuncId→Option Known
  | 69 => some ⟨[.lend 1],Sopen⟩
  | f => sealS f
theorem codeS_ok : AllOk Try.prog codeS:=fun f k h => by
  unfold codeS at h
  split at h
  · cases h; exact okOpen
  · exact sealS_ok _ _ h
end Go.Proofs.Ytfcjngcnifdmnaa
set_option linter.unusedVariables false
set_option linter.unusedSimpArgs false
namespace Vc
open Go
theorem openI_some {l m : List Int} (h : openI l = some m) : l = sealI m:=by
  unfold openI at h
  split at h
  · rename_i hc
    cases h
    exact hc.2.symm
  · cases h
def Near (k : Nat) (s t : List Int) : Prop:=s.length = t.length∧s.take k = t.take k∧(s.drop k).drop 4 = (t.drop k).drop 4
theorem Near.refl (k : Nat) (s : List Int) : Near k s s:=⟨rfl,rfl,rfl⟩
theorem Near.set {k : Nat} {s t : List Int} (h : Near k s t) {i : Nat} (hi : i < 4) (c : Int) : Near k (s.set (k + i) c) t:=by
  obtain ⟨h1,h2,h3⟩:=h
  refine ⟨by simpa using h1,?_,?_⟩
  · rw [List.take_set_of_le (by omega)]; exact h2
  · rw [← h3]
    apply List.ext_getElem?
    intro j
    simp only [List.getElem?_drop]
    rw [List.getElem?_set_ne (by omega)]
theorem Byt.set {s : List Int} (h : Byt s) {i : Nat} {c : Int} (hc : 0 ≤ c∧c < 256) : Byt (s.set i c):=fun d hd => by
  rcases List.mem_or_eq_of_mem_set hd with hd | rfl
  · exact h d hd
  · exact hc
end Vc
set_option linter.unusedSimpArgs false
set_option linter.unusedVariables false
namespace Vc
open Go
def numF : Nat→Nat→List Int
  | 0,n => [(n : Int)]
  | k + 1,n => if n < 128 then [(n : Int)] else ((n % 128 + 128 : Nat) : Int) :: numF k (n / 128)
def numW (n : Int) : List Int:=numF 8 n.toNat
def textW (b : List Int) : List Int:=numW b.length ++ b
structure LeM (z : Int) : Prop where
  h : z ≤ 9223372036854775807
inductive RdN where
  | got (v n : Nat)
  | short
  | form
def numR : Nat→Nat→List Int→RdN
  | i,_,[] => if i < 9 then .short else .form
  | i,v,c :: r => if i = 9∨(c = 0∧0 < i) then .form else if 128 ≤ c then numR (i + 1) (v + (c.toNat % 128) * 128 ^ i) r else .got (v + c.toNat * 128 ^ i) (i + 1)
def rNum (l : List Int) (e most : Int) : Int × Nat × Int :=
  if e = 0 then (match numR 0 0 l with
    | .got v n => if most < (v : Int) then (0,0,5) else ((v : Int),n,0)
    | .short => (0,0,2)
    | .form => (0,0,3)) else (0,0,e)
def rText (l : List Int) (e most : Int) : List Int × Nat × Int :=
  if (rNum l e most).2.2 = 0 then
    (if ((l.drop (rNum l e most).2.1).length : Int) < (rNum l e most).1 then ([],(rNum l e most).2.1,2)
     else ((l.drop (rNum l e most).2.1).take (rNum l e most).1.toNat,(rNum l e most).2.1 + (rNum l e most).1.toNat,0))
  else ([],(rNum l e most).2.1,(rNum l e most).2.2)
def rEnd (l : List Int) (e : Int) : Int:=if l ≠ []∧e = 0 then 3 else e
theorem numF_ne : ∀ (k n : Nat),1 ≤ (numF k n).length
  | 0,n => by simp [numF]
  | k + 1,n => by unfold numF; split <;> simp
theorem numF_le : ∀ (k n : Nat),(numF k n).length ≤ k + 1
  | 0,n => by simp [numF]
  | k + 1,n => by
    unfold numF; split
    · simp
    · simp; exact numF_le k _
theorem numF_byt : ∀ (k n : Nat),n < 128 ^ (k + 1)→Byt (numF k n)
  | 0,n,h => fun c hc => by simp [numF] at hc h; omega
  | k + 1,n,h => fun c hc => by
    unfold numF at hc
    split at hc
    · simp at hc; omega
    · rcases List.mem_cons.1 hc with rfl | hc
      · have:=Nat.mod_lt n (show 128 > 0 by decide); omega
      · exact numF_byt k _ (by rw [Nat.div_lt_iff_lt_mul (by decide),← Nat.pow_succ]; exact h) c hc
theorem numW_len (n : Int) : 1 ≤ (numW n).length∧(numW n).length ≤ 9:=⟨numF_ne _ _,numF_le _ _⟩
theorem numW_byt {n : Int} (h : n ≤ 9223372036854775807) : Byt (numW n):=numF_byt _ _ (by have : (128 : Nat) ^ (8 + 1) = 9223372036854775808:=rfl; omega)
theorem numR_numF (r : List Int) : ∀ (k i v n : Nat),n < 128 ^ (k + 1)→i + k ≤ 8→(n ≠ 0∨i = 0)→numR i v (numF k n ++ r) = .got (v + n * 128 ^ i) (i + (numF k n).length)
  | 0,i,v,n,h,hi,hz => by
    simp at h
    simp only [numF,List.cons_append,List.nil_append,numR,List.length_cons,List.length_nil]
    rw [if_neg (by omega),if_neg (by omega)]
    simp
  | k + 1,i,v,n,h,hi,hz => by
    unfold numF
    split
    · simp only [List.cons_append,List.nil_append,numR,List.length_cons,List.length_nil]
      rw [if_neg (by omega),if_neg (by omega)]
      simp
    · rename_i hn
      have hm:=Nat.mod_lt n (show 128 > 0 by decide)
      simp only [List.cons_append,numR,List.length_cons]
      rw [if_neg (by omega),if_pos (by omega),numR_numF r k (i + 1) _ (n / 128) (by rw [Nat.div_lt_iff_lt_mul (by decide),← Nat.pow_succ]; exact h) (by omega) (.inl (by omega))]
      have e1 : (((n % 128 + 128 : Nat) : Int)).toNat % 128 = n % 128:=by omega
      have e2 : n * 128 ^ i = n % 128 * 128 ^ i + n / 128 * 128 ^ (i + 1):=by
        rw [Nat.pow_succ]
        have:=Nat.div_add_mod n 128
        calc n * 128 ^ i = (128 * (n / 128) + n % 128) * 128 ^ i:=by rw [this]
          _ = n % 128 * 128 ^ i + n / 128 * (128 ^ i * 128):=by rw [Nat.add_mul,Nat.add_comm,Nat.mul_comm 128 (n / 128),Nat.mul_assoc,Nat.mul_comm 128 (128 ^ i)]
      rw [e1,e2]
      congr 1
      · omega
      · omega
theorem numR_numW {n : Int} (h0 : 0 ≤ n) (h : n ≤ 9223372036854775807) (r : List Int) : numR 0 0 (numW n ++ r) = .got n.toNat (numW n).length:=by
  have:=numR_numF r 8 0 0 n.toNat (by have : (128 : Nat) ^ (8 + 1) = 9223372036854775808:=rfl; omega) (by omega) (.inr rfl)
  simpa [numW] using this
theorem numR_inv : ∀ (l : List Int) (i v w m : Nat),i ≤ 9→Byt l→numR i v l = .got w m→∃ n,i ≤ 8∧w = v + n * 128 ^ i∧n < 128 ^ (9 - i)∧(0 < i→n ≠ 0)∧m = i + (numF (8 - i) n).length∧∃ r,l = numF (8 - i) n ++ r
  | [],i,v,w,m,hi,hb,h => by unfold numR at h; split at h <;> cases h
  | c :: r,i,v,w,m,hi,hb,h => by
    have hc:=hb c List.mem_cons_self
    unfold numR at h
    split at h
    · cases h
    · rename_i h1
      have hi8 : i ≤ 8:=by omega
      split at h
      · rename_i h2
        obtain ⟨n,k1,k2,k3,k4,k5,r',k6⟩:=numR_inv r (i + 1) _ w m (by omega) (fun d hd => hb d (List.mem_cons_of_mem _ hd)) h
        have hn0 : n ≠ 0:=k4 (by omega)
        have e0 : 8 - i = (8 - (i + 1)) + 1:=by omega
        have e9 : 9 - i = (9 - (i + 1)) + 1:=by omega
        have ec : c.toNat % 128 = c.toNat - 128:=by omega
        have e1 : numF (8 - i) (c.toNat - 128 + 128 * n) = c :: numF (8 - (i + 1)) n:=by
          rw [e0]
          rw [numF.eq_2,if_neg (by omega)]
          have a1 : (c.toNat - 128 + 128 * n) % 128 = c.toNat - 128:=by omega
          have a2 : (c.toNat - 128 + 128 * n) / 128 = n:=by omega
          rw [a1,a2]
          congr 1
          omega
        refine ⟨c.toNat - 128 + 128 * n,hi8,?_,?_,fun _ => by omega,?_,r',?_⟩
        · rw [k2,ec,Nat.pow_succ,Nat.add_mul,Nat.mul_comm (128 ^ i) 128,← Nat.mul_assoc,Nat.mul_comm n 128]; omega
        · rw [e9,Nat.pow_succ]; omega
        · rw [e1,k5,List.length_cons]; omega
        · rw [e1,k6]; rfl
      · rename_i h2
        cases h
        have e1 : numF (8 - i) c.toNat = [c]:=by
          have : ((c.toNat : Nat) : Int) = c:=by omega
          cases h8 : 8 - i with
          | zero => rw [numF.eq_1,this]
          | succ k => rw [numF.eq_2,if_pos (by omega),this]
        refine ⟨c.toNat,hi8,rfl,?_,fun _ => by omega,by rw [e1]; rfl,r,by rw [e1]; rfl⟩
        have : 9 - i = (8 - i) + 1:=by omega
        rw [this,Nat.pow_succ]
        have : 0 < 128 ^ (8 - i):=Nat.pow_pos (by decide)
        omega
theorem numR_got {l : List Int} {w m : Nat} (hb : Byt l) (h : numR 0 0 l = .got w m) : (w : Int) ≤ 9223372036854775807∧m = (numW w).length∧∃ r,l = numW w ++ r:=by
  obtain ⟨n,_,h1,h2,_,h3,h4⟩:=numR_inv l 0 0 w m (by omega) hb h
  simp at h1
  subst h1
  have : (128 : Nat) ^ (9 - 0) = 9223372036854775808:=rfl
  have e : numW (w : Int) = numF (8 - 0) w:=by unfold numW; rw [Int.toNat_natCast]
  exact ⟨by omega,by rw [e,h3,Nat.zero_add],by rw [e]; exact h4⟩
theorem rNum_val {l : List Int} (hb : Byt l) (e most : Int) : 0 ≤ (rNum l e most).1∧(rNum l e most).1 ≤ 9223372036854775807∧(rNum l e most).2.1 ≤ l.length:=by
  unfold rNum
  split
  · split
    · rename_i v n h
      obtain ⟨h1,h2,r,h3⟩:=numR_got hb h
      split
      · simp
      · refine ⟨by simp,h1,?_⟩
        show n ≤ l.length
        rw [h2,h3,List.length_append]; omega
    · simp
    · simp
  · simp
theorem rNum_app {n : Int} (h0 : 0 ≤ n) (h : n ≤ 9223372036854775807) {most : Int} (hm : n ≤ most) (r : List Int) : rNum (numW n ++ r) 0 most = (n,(numW n).length,0):=by
  unfold rNum
  rw [if_pos rfl,numR_numW h0 h]
  show (if most < ((n.toNat : Nat) : Int) then _ else _) = _
  rw [if_neg (by omega)]
  rw [Int.toNat_of_nonneg h0]
theorem rText_app {b : List Int} {most : Int} (hm : (b.length : Int) ≤ most) (h : (b.length : Int) ≤ 9223372036854775807) (r : List Int) : rText (textW b ++ r) 0 most = (b,(textW b).length,0):=by
  unfold rText textW
  rw [List.append_assoc,rNum_app (by omega) h hm]
  simp
  omega
theorem or128 {n : Nat} : IntKind.u8.wrap (((BitVec.ofInt 8 (IntKind.u8.wrap (n : Int)) ||| BitVec.ofInt 8 128).toNat : Nat) : Int) = ((n % 128 + 128 : Nat) : Int):=by
  have e : IntKind.u8.wrap (n : Int) = ((n % 256 : Nat) : Int):=by
    show (n : Int) % 2 ^ 8 = _
    omega
  rw [e]
  have h : ∀ k : Fin 256,IntKind.u8.wrap (((BitVec.ofInt 8 ((k.1 : Nat) : Int) ||| BitVec.ofInt 8 128).toNat : Nat) : Int) = ((k.1 % 128 + 128 : Nat) : Int):=by decide +kernel
  have:=h ⟨n % 256,Nat.mod_lt _ (by decide)⟩
  simp only at this
  rw [this]
  omega
theorem and127 {n : Int} (h0 : 0 ≤ n) (h : n < 256) : IntKind.u8.wrap (((BitVec.ofInt 8 n &&& BitVec.ofInt 8 127).toNat : Nat) : Int) = ((n.toNat % 128 : Nat) : Int):=by
  have h : ∀ k : Fin 256,IntKind.u8.wrap (((BitVec.ofInt 8 ((k.1 : Nat) : Int) &&& BitVec.ofInt 8 127).toNat : Nat) : Int) = ((k.1 % 128 : Nat) : Int):=by decide +kernel
  have:=h ⟨n.toNat,by omega⟩
  simp only at this
  rw [Int.toNat_of_nonneg h0] at this
  exact this
theorem pow7 (i : Nat) : (128 : Nat) ^ i = 2 ^ (7 * i):=by rw [Nat.pow_mul]
theorem pow_le8 {i : Nat} (h : i ≤ 8) : (128 : Nat) ^ i ≤ 72057594037927936:=by
  have:=Nat.pow_le_pow_right (n:=128) (by decide) h
  exact Nat.le_trans this (by decide)
theorem num_or {v m i : Nat} (hv : v < 128 ^ i) (hm : m < 128) (hi : i ≤ 8) :
    IntKind.i64.wrap (((BitVec.ofInt 64 (v : Int) ||| BitVec.ofInt 64 (shlI .i64 (m : Int) (((7 * i : Nat)) : Int))).toNat : Nat) : Int) = ((v + m * 128 ^ i : Nat) : Int):=by
  have hp:=pow_le8 hi
  have hmul : m * 128 ^ i ≤ 127 * 72057594037927936:=Nat.mul_le_mul (by omega) hp
  have e1 : shlI .i64 (m : Int) (((7 * i : Nat)) : Int) = ((m * 128 ^ i : Nat) : Int):=by
    unfold shlI
    rw [Int.toNat_natCast,show min (7 * i) IntKind.i64.bits = 7 * i from Nat.min_eq_left (by show 7 * i ≤ 64; omega)]
    rw [show (m : Int) * 2 ^ (7 * i) = ((m * 128 ^ i : Nat) : Int) by rw [pow7]; simp]
    exact w64 (by omega) (by omega)
  rw [e1]
  have e2 : (BitVec.ofInt 64 (v : Int) ||| BitVec.ofInt 64 ((m * 128 ^ i : Nat) : Int)).toNat = v + m * 128 ^ i:=by
    rw [BitVec.toNat_or,BitVec.toNat_ofInt,BitVec.toNat_ofInt]
    have a1 : ((v : Int) % ((2 ^ 64 : Nat) : Int)).toNat = v:=by
      have : ((2 ^ 64 : Nat) : Int) = 18446744073709551616:=rfl
      rw [this]; omega
    have a2 : (((m * 128 ^ i : Nat) : Int) % ((2 ^ 64 : Nat) : Int)).toNat = m * 128 ^ i:=by
      have : ((2 ^ 64 : Nat) : Int) = 18446744073709551616:=rfl
      rw [this]; omega
    rw [a1,a2]
    have:=Nat.shiftLeft_add_eq_or_of_lt (i:=7 * i) (b:=v) (by rw [← pow7]; exact hv) m
    rw [Nat.shiftLeft_eq,← pow7] at this
    rw [Nat.or_comm,← this,Nat.add_comm]
  rw [e2]
  have : v < 72057594037927936:=Nat.lt_of_lt_of_le hv hp
  exact w64 (by omega) (by omega)
theorem textW_len (b : List Int) : 1 ≤ (textW b).length∧(textW b).length ≤ b.length + 9:=by
  have:=numW_len b.length
  unfold textW
  rw [List.length_append]
  omega
theorem textW_byt {b : List Int} (h : Byt b) (hl : (b.length : Int) ≤ 9223372036854775807) : Byt (textW b):=fun c hc => by
  unfold textW at hc
  rcases List.mem_append.1 hc with hc | hc
  · exact numW_byt hl c hc
  · exact h c hc
end Vc
namespace Go.Proofs.Ytfcjngcnifdmnaa
open Vc Go
set_option linter.unusedVariables false
set_option linter.unusedSimpArgs false
set_option maxRecDepth 100000
def wInv (tot : List Int) (n : Nat) (p : List Int × Nat × Nat) : Prop:=tot = p.1 ++ numF p.2.1 p.2.2∧p.2.2 < 128 ^ (p.2.1 + 1)∧p.1.length + p.2.1 ≤ n + 8
abbrev wLI (tot : List Int) (n : Nat) : LI where
  α:={p : List Int × Nat × Nat // wInv tot n p} ⊕ {p : List Int × Nat × Nat // wInv tot n p}
  live:=[0,1]
  st p:=match p with
    | .inl p => ([.ptr 0 0,.int .i64 (p.1.2.2 : Int)],[.cells [.sl 1 0 p.1.1.length],.row 5 1 (ints .u8 p.1.1)])
    | .inr p => ([.ptr 0 0,.int .i64 (p.1.2.2 : Int)],[.cells [.sl 2 0 p.1.1.length],.dead,.row 5 1 (ints .u8 p.1.1)])
  μ p:=match p with
    | .inl p => p.1.2.1
    | .inr p => p.1.2.1
  all:=fun Q => (∀ a,Q (.inl a))∧∀ b,Q (.inr b)
  all_ok:=fun Q h i => match i with
    | .inl a => h.1 a
    | .inr b => h.2 b
def nuInv (l : List Int) (p : Nat × Nat) : Prop:=p.1 ≤ 9∧p.1 ≤ l.length∧numR 0 0 l = numR p.1 p.2 (l.drop p.1)∧p.2 < 128 ^ p.1
abbrev nuLI (l : List Int) (lo : Nat) (e : Int) : LI where
  α:={p : Nat × Nat // nuInv (l.drop lo) p}
  live:=[0,2,3,9,10,11]
  st p:=([.ptr 0 0,.int .i64 (p.1.2 : Int),.int .i64 (p.1.1 : Int),.sl 1 lo l.length,.int .i64 ((l.length - lo : Nat) : Int),.int .i64 (p.1.1 : Int)],[.cells [.sl 1 lo l.length,.int .i64 e],.row 5 1 (ints .u8 l)])
  μ p:=l.length - lo - p.1.1
def wT (tot : List Int) (n : Nat) : FuncId→Nat→Option LI
  | 48,1 => some (wLI tot n)
  | _,_ => none
def nuT (l : List Int) (lo : Nat) (e : Int) : FuncId→Nat→Option LI
  | 67,2 => some (nuLI l lo e)
  | _,_ => none
def baS : FuncId→Option Known
  | 30 => some ⟨[.lend 1],ScloneB⟩
  | _ => none
theorem vcWNum (tot : List Int) (n : Nat) (z : Int) (a : List Int) (K : V→KB→Prop) (hvc_ :
 At (wLI tot n) ([V.ptr 0 0,V.int IntKind.i64 (if 0 > z then 0 else z)],[KO.cells [V.sl 1 0 a.length],KO.row 5 1 (ints IntKind.u8 a)]) ∧
 (∀ (a : { p : List Int × Nat × Nat // wInv tot n p }),
 (decide ((↑a.val.snd.snd : Int) ≥ 128) = true →
 1 ≤ 1 ∧
 a.val.fst.length ≤ (ints IntKind.u8 a.val.fst).length ∧
 (a.val.fst.length + 1) * 1 ≤ 140737488355328 ∧
 Nx (wLI tot n) (Sum.inl a) ([V.ptr 0 0,V.int IntKind.i64 ((↑a.val.snd.snd : Int).fdiv 128)],[KO.cells [V.sl 2 0 (a.val.fst.length + 1)],KO.dead,KO.row 5 1 (List.take a.val.fst.length (ints IntKind.u8 a.val.fst) ++ [[D.val (Value.int IntKind.u8 (IntKind.u8.wrap (↑(BitVec.ofInt 8 (IntKind.u8.wrap (↑a.val.snd.snd : Int)) ||| BitVec.ofInt 8 128).toNat : Int)))]])])) ∧
 (decide ((↑a.val.snd.snd : Int) ≥ 128) = false→1 ≤ 1∧a.val.fst.length ≤ (ints IntKind.u8 a.val.fst).length∧(a.val.fst.length + 1) * 1 ≤ 140737488355328∧K (V.tup []) [KO.cells [V.sl 2 0 (a.val.fst.length + 1)],KO.dead,KO.row 5 1 (List.take a.val.fst.length (ints IntKind.u8 a.val.fst) ++ [[D.val (Value.int IntKind.u8 (IntKind.u8.wrap (↑a.val.snd.snd : Int)))]])])) ∧
 ∀ (b : { p : List Int × Nat × Nat // wInv tot n p }),
 (decide ((↑b.val.snd.snd : Int) ≥ 128) = true →
 1 ≤ 1 ∧
 b.val.fst.length ≤ (ints IntKind.u8 b.val.fst).length ∧
 (b.val.fst.length + 1) * 1 ≤ 140737488355328 ∧
 Nx (wLI tot n) (Sum.inr b) ([V.ptr 0 0,V.int IntKind.i64 ((↑b.val.snd.snd : Int).fdiv 128)],[KO.cells [V.sl 2 0 (b.val.fst.length + 1)],KO.dead,KO.row 5 1 (List.take b.val.fst.length (ints IntKind.u8 b.val.fst) ++ [[D.val (Value.int IntKind.u8 (IntKind.u8.wrap (↑(BitVec.ofInt 8 (IntKind.u8.wrap (↑b.val.snd.snd : Int)) ||| BitVec.ofInt 8 128).toNat : Int)))]])])) ∧
 (decide ((↑b.val.snd.snd : Int) ≥ 128) = false→1 ≤ 1∧b.val.fst.length ≤ (ints IntKind.u8 b.val.fst).length∧(b.val.fst.length + 1) * 1 ≤ 140737488355328∧K (V.tup []) [KO.cells [V.sl 2 0 (b.val.fst.length + 1)],KO.dead,KO.row 5 1 (List.take b.val.fst.length (ints IntKind.u8 b.val.fst) ++ [[D.val (Value.int IntKind.u8 (IntKind.u8.wrap (↑b.val.snd.snd : Int)))]])])
 ) : runSpec Try.prog X0 (wT tot n 48) 48 [.ptr 0 0,.int .i64 z] [.cells [.sl 1 0 a.length],.row 5 1 (ints .u8 a)] (tidyRes 2 K):=by apply Eq.mp (a:=hvc_); kernel_rfl
theorem vcNumber (l : List Int) (lo : Nat) (e : Int) (K : V→KB→Prop) (hvc_ :
 At (nuLI l lo e) ([V.ptr 0 0,V.int IntKind.i64 0,V.int IntKind.i64 0,V.sl 1 lo l.length,V.int IntKind.i64 (↑(l.length - lo) : Int),V.int IntKind.i64 0],[KO.cells [V.sl 1 lo l.length,V.int IntKind.i64 e],KO.row 5 1 (ints IntKind.u8 l)]) ∧
 ∀ (i : { p : Nat × Nat // nuInv (List.drop lo l) p }),
 (decide ((↑i.val.fst : Int) < (↑(l.length - lo) : Int)) = true →
 InB (↑i.val.fst : Int) (l.length - lo) ∧
 ∃ (e_1 : List D),
 (ints IntKind.u8 l)[lo + (↑i.val.fst : Int).toNat]? = some e_1 ∧
 ∃ (n : Int),
 e_1[0]? = some (D.val (Value.int IntKind.u8 n)) ∧
 (((↑i.val.fst : Int) == 9) = true →
 (((↑i.val.fst : Int) == (↑(l.length - lo) : Int)) = true →
 (decide ((↑i.val.fst : Int) < 9) = true→((e == 0) = true→K (V.tup [V.int IntKind.i64 0,V.int IntKind.i64 0]) [KO.cells [V.sl 1 lo l.length,V.int IntKind.i64 2],KO.row 5 1 (ints IntKind.u8 l)])∧((e == 0) = false→K (V.tup [V.int IntKind.i64 0,V.int IntKind.i64 0]) [KO.cells [V.sl 1 lo l.length,V.int IntKind.i64 e],KO.row 5 1 (ints IntKind.u8 l)])) ∧
 (decide ((↑i.val.fst : Int) < 9) = false→((e == 0) = true→K (V.tup [V.int IntKind.i64 0,V.int IntKind.i64 0]) [KO.cells [V.sl 1 lo l.length,V.int IntKind.i64 3],KO.row 5 1 (ints IntKind.u8 l)])∧((e == 0) = false→K (V.tup [V.int IntKind.i64 0,V.int IntKind.i64 0]) [KO.cells [V.sl 1 lo l.length,V.int IntKind.i64 e],KO.row 5 1 (ints IntKind.u8 l)]))) ∧
 (((↑i.val.fst : Int) == (↑(l.length - lo) : Int)) = false →
 ((e == 0) = true→K (V.tup [V.int IntKind.i64 0,V.int IntKind.i64 0]) [KO.cells [V.sl 1 lo l.length,V.int IntKind.i64 3],KO.row 5 1 (ints IntKind.u8 l)])∧((e == 0) = false→K (V.tup [V.int IntKind.i64 0,V.int IntKind.i64 0]) [KO.cells [V.sl 1 lo l.length,V.int IntKind.i64 e],KO.row 5 1 (ints IntKind.u8 l)]))) ∧
 (((↑i.val.fst : Int) == 9) = false →
 ((n == 0) = true →
 (decide ((↑i.val.fst : Int) > 0) = true →
 (((↑i.val.fst : Int) == (↑(l.length - lo) : Int)) = true →
 (decide ((↑i.val.fst : Int) < 9) = true→((e == 0) = true→K (V.tup [V.int IntKind.i64 0,V.int IntKind.i64 0]) [KO.cells [V.sl 1 lo l.length,V.int IntKind.i64 2],KO.row 5 1 (ints IntKind.u8 l)])∧((e == 0) = false→K (V.tup [V.int IntKind.i64 0,V.int IntKind.i64 0]) [KO.cells [V.sl 1 lo l.length,V.int IntKind.i64 e],KO.row 5 1 (ints IntKind.u8 l)])) ∧
 (decide ((↑i.val.fst : Int) < 9) = false →
 ((e == 0) = true→K (V.tup [V.int IntKind.i64 0,V.int IntKind.i64 0]) [KO.cells [V.sl 1 lo l.length,V.int IntKind.i64 3],KO.row 5 1 (ints IntKind.u8 l)])∧((e == 0) = false→K (V.tup [V.int IntKind.i64 0,V.int IntKind.i64 0]) [KO.cells [V.sl 1 lo l.length,V.int IntKind.i64 e],KO.row 5 1 (ints IntKind.u8 l)]))) ∧
 (((↑i.val.fst : Int) == (↑(l.length - lo) : Int)) = false →
 ((e == 0) = true→K (V.tup [V.int IntKind.i64 0,V.int IntKind.i64 0]) [KO.cells [V.sl 1 lo l.length,V.int IntKind.i64 3],KO.row 5 1 (ints IntKind.u8 l)])∧((e == 0) = false→K (V.tup [V.int IntKind.i64 0,V.int IntKind.i64 0]) [KO.cells [V.sl 1 lo l.length,V.int IntKind.i64 e],KO.row 5 1 (ints IntKind.u8 l)]))) ∧
 (decide ((↑i.val.fst : Int) > 0) = false →
 (decide (n ≥ 128) = true →
 (IntKind.i64.wrap (7 * (↑i.val.fst : Int)) < 0→False) ∧
 Nx (nuLI l lo e) i
 ([V.ptr 0 0,V.int IntKind.i64 (IntKind.i64.wrap (↑(BitVec.ofInt 64 (↑i.val.snd : Int) ||| BitVec.ofInt 64 (shlI IntKind.i64 (IntKind.i64.wrap (IntKind.u8.wrap (↑(BitVec.ofInt 8 n &&& BitVec.ofInt 8 127).toNat : Int))) (IntKind.i64.wrap (7 * (↑i.val.fst : Int))))).toNat : Int)),V.int IntKind.i64 (IntKind.i64.wrap ((↑i.val.fst : Int) + 1)),V.sl 1 lo l.length,
 V.int IntKind.i64 (↑(l.length - lo) : Int),V.int IntKind.i64 (IntKind.i64.wrap ((↑i.val.fst : Int) + 1))],
 [KO.cells [V.sl 1 lo l.length,V.int IntKind.i64 e],KO.row 5 1 (ints IntKind.u8 l)])) ∧
 (decide (n ≥ 128) = false →
 (IntKind.i64.wrap (7 * (↑i.val.fst : Int)) < 0→False) ∧
 K (V.tup [V.int IntKind.i64 (IntKind.i64.wrap (↑(BitVec.ofInt 64 (↑i.val.snd : Int) ||| BitVec.ofInt 64 (shlI IntKind.i64 (IntKind.i64.wrap n) (IntKind.i64.wrap (7 * (↑i.val.fst : Int))))).toNat : Int)),V.int IntKind.i64 (IntKind.i64.wrap ((↑i.val.fst : Int) + 1))]) [KO.cells [V.sl 1 lo l.length,V.int IntKind.i64 e],KO.row 5 1 (ints IntKind.u8 l)]))) ∧
 ((n == 0) = false →
 (decide (n ≥ 128) = true →
 (IntKind.i64.wrap (7 * (↑i.val.fst : Int)) < 0→False) ∧
 Nx (nuLI l lo e) i
 ([V.ptr 0 0,V.int IntKind.i64 (IntKind.i64.wrap (↑(BitVec.ofInt 64 (↑i.val.snd : Int) ||| BitVec.ofInt 64 (shlI IntKind.i64 (IntKind.i64.wrap (IntKind.u8.wrap (↑(BitVec.ofInt 8 n &&& BitVec.ofInt 8 127).toNat : Int))) (IntKind.i64.wrap (7 * (↑i.val.fst : Int))))).toNat : Int)),V.int IntKind.i64 (IntKind.i64.wrap ((↑i.val.fst : Int) + 1)),V.sl 1 lo l.length,
 V.int IntKind.i64 (↑(l.length - lo) : Int),V.int IntKind.i64 (IntKind.i64.wrap ((↑i.val.fst : Int) + 1))],
 [KO.cells [V.sl 1 lo l.length,V.int IntKind.i64 e],KO.row 5 1 (ints IntKind.u8 l)])) ∧
 (decide (n ≥ 128) = false →
 (IntKind.i64.wrap (7 * (↑i.val.fst : Int)) < 0→False) ∧
 K (V.tup [V.int IntKind.i64 (IntKind.i64.wrap (↑(BitVec.ofInt 64 (↑i.val.snd : Int) ||| BitVec.ofInt 64 (shlI IntKind.i64 (IntKind.i64.wrap n) (IntKind.i64.wrap (7 * (↑i.val.fst : Int))))).toNat : Int)),V.int IntKind.i64 (IntKind.i64.wrap ((↑i.val.fst : Int) + 1))]) [KO.cells [V.sl 1 lo l.length,V.int IntKind.i64 e],KO.row 5 1 (ints IntKind.u8 l)])))) ∧
 (decide ((↑i.val.fst : Int) < (↑(l.length - lo) : Int)) = false →
 (((↑i.val.fst : Int) == (↑(l.length - lo) : Int)) = true →
 (decide ((↑i.val.fst : Int) < 9) = true→((e == 0) = true→K (V.tup [V.int IntKind.i64 0,V.int IntKind.i64 0]) [KO.cells [V.sl 1 lo l.length,V.int IntKind.i64 2],KO.row 5 1 (ints IntKind.u8 l)])∧((e == 0) = false→K (V.tup [V.int IntKind.i64 0,V.int IntKind.i64 0]) [KO.cells [V.sl 1 lo l.length,V.int IntKind.i64 e],KO.row 5 1 (ints IntKind.u8 l)])) ∧
 (decide ((↑i.val.fst : Int) < 9) = false→((e == 0) = true→K (V.tup [V.int IntKind.i64 0,V.int IntKind.i64 0]) [KO.cells [V.sl 1 lo l.length,V.int IntKind.i64 3],KO.row 5 1 (ints IntKind.u8 l)])∧((e == 0) = false→K (V.tup [V.int IntKind.i64 0,V.int IntKind.i64 0]) [KO.cells [V.sl 1 lo l.length,V.int IntKind.i64 e],KO.row 5 1 (ints IntKind.u8 l)]))) ∧
 (((↑i.val.fst : Int) == (↑(l.length - lo) : Int)) = false→((e == 0) = true→K (V.tup [V.int IntKind.i64 0,V.int IntKind.i64 0]) [KO.cells [V.sl 1 lo l.length,V.int IntKind.i64 3],KO.row 5 1 (ints IntKind.u8 l)])∧((e == 0) = false→K (V.tup [V.int IntKind.i64 0,V.int IntKind.i64 0]) [KO.cells [V.sl 1 lo l.length,V.int IntKind.i64 e],KO.row 5 1 (ints IntKind.u8 l)])))
 ) : runSpec Try.prog X0 (nuT l lo e 67) 67 [.ptr 0 0] [.cells [.sl 1 lo l.length,.int .i64 e],.row 5 1 (ints .u8 l)] K:=by apply Eq.mp (a:=hvc_); kernel_rfl
theorem w8 {n : Int} (h1 : 0 ≤ n) (h2 : n < 256) : IntKind.u8.wrap n = n:=IntWalk.u8_in n (by omega)
theorem snocT {a : List Int} {n : Int} : List.take a.length (ints .u8 a) ++ [[D.val (.int .u8 n)]] = ints .u8 (a ++ [n]):=by
  rw [ints_take,List.take_length,ints_app]; rfl
theorem wStep {tot : List Int} {n : Nat} {p : List Int × Nat × Nat} (h : wInv tot n p) (hc : 128 ≤ p.2.2) :
    ∃ q : List Int × Nat × Nat,wInv tot n q∧q.2.1 < p.2.1∧q.1 = p.1 ++ [((p.2.2 % 128 + 128 : Nat) : Int)]∧q.2.2 = p.2.2 / 128:=by
  obtain ⟨o,k,m⟩:=p
  obtain ⟨h1,h2,h3⟩:=h
  simp only at h1 h2 h3 hc
  cases k with
  | zero => simp at h2; omega
  | succ k =>
    rw [numF.eq_2,if_neg (by omega)] at h1
    refine ⟨(o ++ [((m % 128 + 128 : Nat) : Int)],k,m / 128),⟨by simp only; rw [h1,List.append_assoc]; rfl,?_,by simp only [List.length_append,List.length_cons,List.length_nil]; omega⟩,by simp only; omega,rfl,rfl⟩
    simp only
    rw [Nat.div_lt_iff_lt_mul (by decide),← Nat.pow_succ]; exact h2
theorem wLast {tot : List Int} {n : Nat} {p : List Int × Nat × Nat} (h : wInv tot n p) (hc : p.2.2 < 128) : tot = p.1 ++ [(p.2.2 : Int)]:=by
  obtain ⟨o,k,m⟩:=p
  obtain ⟨h1,h2,h3⟩:=h
  simp only at h1 hc
  cases k with
  | zero => rw [h1,numF.eq_1]
  | succ k => rw [h1,numF.eq_2,if_pos hc]
theorem lt63 {z : Int} (h : z ≤ 9223372036854775807) : z.toNat < 128 ^ (8 + 1):=by
  have : (128 : Nat) ^ (8 + 1) = 9223372036854775808:=rfl
  omega
def SwNum : FSpec:=fun args kb K => match args,kb with
  | [.ptr 0 0,.int .i64 z],[.cells [.sl 1 0 h],.row 5 1 A] => ∃ a : List Int,A = ints .u8 a∧h = a.length∧a.length ≤ 10000000∧LeM z ∧
    K (.tup []) [.cells [.sl 2 0 (a ++ numW z).length],.dead,.row 5 1 (ints .u8 (a ++ numW z))]
  | _,_ => False
theorem okWNum : SpecOk Try.prog 48 SwNum:=specOk_tidy X0_ok mixed (fun args kb K h => by
  unfold SwNum at h; split at h <;> try exact h.elim
  rename_i z _ _
  obtain ⟨a,rfl,rfl,hl,⟨hz⟩,h⟩:=h
  have e0 : (if 0 > z then 0 else z) = ((z.toNat : Nat) : Int):=by split <;> omega
  refine ⟨wT (a ++ numW z) a.length 48,vcWNum (a ++ numW z) a.length z a K ⟨?_,?_,?_⟩⟩
  · rw [e0]
    exact At.mk' (.inl ⟨(a,8,z.toNat),rfl,lt63 hz,Nat.le_refl _⟩) rfl
  · rintro ⟨p,hp⟩
    have hb:=hp.2.2
    simp only [ints_len,or128]
    refine ⟨fun hc => ⟨by omega,by omega,by omega,?_⟩,fun hc => ⟨by omega,by omega,by omega,?_⟩⟩
    · simp only [decide_eq_true_eq] at hc
      obtain ⟨q,h1,h2,h3,h4⟩:=wStep hp (by omega)
      have e1 : (p.2.2 : Int).fdiv 128 = ((q.2.2 : Nat) : Int):=by rw [h4,Int.fdiv_eq_ediv_of_nonneg _ (by omega)]; omega
      rw [e1,snocT,← h3,show p.1.length + 1 = q.1.length by rw [h3]; simp]
      exact Nx.mk' (.inr ⟨q,h1⟩) rfl h2
    · simp only [decide_eq_false_iff_not] at hc
      rw [w8 (by omega) (by omega),snocT,← wLast hp (by omega),show p.1.length + 1 = (a ++ numW z).length by rw [wLast hp (by omega)]; simp]
      exact h
  · rintro ⟨p,hp⟩
    have hb:=hp.2.2
    simp only [ints_len,or128]
    refine ⟨fun hc => ⟨by omega,by omega,by omega,?_⟩,fun hc => ⟨by omega,by omega,by omega,?_⟩⟩
    · simp only [decide_eq_true_eq] at hc
      obtain ⟨q,h1,h2,h3,h4⟩:=wStep hp (by omega)
      have e1 : (p.2.2 : Int).fdiv 128 = ((q.2.2 : Nat) : Int):=by rw [h4,Int.fdiv_eq_ediv_of_nonneg _ (by omega)]; omega
      rw [e1,snocT,← h3,show p.1.length + 1 = q.1.length by rw [h3]; simp]
      exact Nx.mk' (.inr ⟨q,h1⟩) rfl h2
    · simp only [decide_eq_false_iff_not] at hc
      rw [w8 (by omega) (by omega),snocT,← wLast hp (by omega),show p.1.length + 1 = (a ++ numW z).length by rw [wLast hp (by omega)]; simp]
      exact h)
def Snumber : FSpec:=fun args kb K => match args,kb with
  | [.ptr 0 0],[.cells [.sl 1 lo h,.int .i64 e],.row 5 1 A] => ∃ l : List Int,A = ints .u8 l∧h = l.length∧lo ≤ l.length∧Byt l∧l.length ≤ 140737488355328∧e = 0 ∧
    (∀ v n,numR 0 0 (l.drop lo) = .got v n→K (.tup [.int .i64 (v : Int),.int .i64 (n : Int)]) [.cells [.sl 1 lo l.length,.int .i64 0],.row 5 1 (ints .u8 l)]) ∧
    (numR 0 0 (l.drop lo) = .short→K (.tup [.int .i64 0,.int .i64 0]) [.cells [.sl 1 lo l.length,.int .i64 2],.row 5 1 (ints .u8 l)]) ∧
    (numR 0 0 (l.drop lo) = .form→K (.tup [.int .i64 0,.int .i64 0]) [.cells [.sl 1 lo l.length,.int .i64 3],.row 5 1 (ints .u8 l)])
  | _,_ => False
theorem mul7 {i : Nat} (h : i ≤ 9) : IntKind.i64.wrap (7 * (i : Int)) = ((7 * i : Nat) : Int):=by
  rw [w64 (by omega) (by omega)]; omega
theorem okNumber : SpecOk Try.prog 67 Snumber:=specOk_of' X0_ok mixed (fun args kb K h => by
  unfold Snumber at h; split at h <;> try exact h.elim
  rename_i lo _ _ _
  obtain ⟨l,rfl,rfl,hlo,hb,hl,rfl,hg,hs,hf⟩:=h
  refine ⟨nuT l lo 0 67,vcNumber l lo 0 K ⟨At.mk' ⟨(0,0),by omega,Nat.zero_le _,by rw [List.drop_zero],by decide⟩ rfl,?_⟩⟩
  rintro ⟨⟨i,v⟩,hh⟩
  obtain ⟨h9,hi,hn,hv⟩:=hh
  have hh : nuInv (l.drop lo) (i,v):=⟨h9,hi,hn,hv⟩
  simp only [List.length_drop] at h9 hi hn hv ⊢
  refine ⟨fun hc => ?_,fun hc => ?_⟩
  · simp only [decide_eq_true_eq] at hc
    have hil : i < l.length - lo:=by omega
    have hel : l[lo + i]? = some l[lo + i]:=List.getElem?_eq_getElem (by omega)
    have hdr : (l.drop lo).drop i = l[lo + i] :: (l.drop lo).drop (i + 1):=by
      rw [List.drop_drop,List.drop_drop,show lo + (i + 1) = lo + i + 1 by omega]
      exact List.drop_eq_getElem_cons (by omega)
    have hbd:=hb l[lo + i] (List.getElem_mem _)
    rw [hdr] at hn
    generalize l[lo + i] = c at hel hn hbd hdr
    rw [numR.eq_2] at hn
    have ff : (i = 9∨(c = 0∧0 < i))→numR 0 0 (l.drop lo) = .form:=fun h => by rw [hn,if_pos h]
    refine ⟨by unfold InB; omega,[D.val (.int .u8 c)],by rw [Int.toNat_natCast,ints_get,hel]; rfl,c,rfl,fun hx => ?_,fun hx => ?_⟩
    · simp only [beq_iff_eq] at hx
      have:=ff (.inl (by omega))
      refine ⟨fun hy => ?_,fun hy => ⟨fun _ => hf this,fun h => by simp at h⟩⟩
      simp only [beq_iff_eq] at hy
      omega
    · simp only [beq_eq_false_iff_ne,ne_eq] at hx
      have hi9 : i ≤ 8:=by omega
      have go : ¬ (c = 0∧0 < i)→((decide (c ≥ 128) = true →
 (IntKind.i64.wrap (7 * (i : Int)) < 0→False) ∧
 Nx (nuLI l lo 0) ⟨(i,v),hh⟩
 ([V.ptr 0 0,V.int IntKind.i64 (IntKind.i64.wrap ((BitVec.ofInt 64 (v : Int) ||| BitVec.ofInt 64 (shlI IntKind.i64 (IntKind.i64.wrap (IntKind.u8.wrap ((BitVec.ofInt 8 c &&& BitVec.ofInt 8 127).toNat : Int))) (IntKind.i64.wrap (7 * (i : Int))))).toNat : Int)),V.int IntKind.i64 (IntKind.i64.wrap ((i : Int) + 1)),V.sl 1 lo l.length,
 V.int IntKind.i64 ((l.length - lo : Nat) : Int),V.int IntKind.i64 (IntKind.i64.wrap ((i : Int) + 1))],
 [KO.cells [V.sl 1 lo l.length,V.int IntKind.i64 0],KO.row 5 1 (ints IntKind.u8 l)])) ∧
 (decide (c ≥ 128) = false →
 (IntKind.i64.wrap (7 * (i : Int)) < 0→False) ∧
 K (V.tup [V.int IntKind.i64 (IntKind.i64.wrap ((BitVec.ofInt 64 (v : Int) ||| BitVec.ofInt 64 (shlI IntKind.i64 (IntKind.i64.wrap c) (IntKind.i64.wrap (7 * (i : Int))))).toNat : Int)),V.int IntKind.i64 (IntKind.i64.wrap ((i : Int) + 1))]) [KO.cells [V.sl 1 lo l.length,V.int IntKind.i64 0],KO.row 5 1 (ints IntKind.u8 l)])):=by
        intro hz
        rw [if_neg (by omega)] at hn
        rw [mul7 (by omega),and127 hbd.1 hbd.2]
        have hm:=Nat.mod_lt c.toNat (show 128 > 0 by decide)
        refine ⟨fun h => ⟨fun f => by omega,?_⟩,fun h => ⟨fun f => by omega,?_⟩⟩
        · simp only [decide_eq_true_eq] at h
          rw [if_pos (by omega)] at hn
          rw [w64 (n:=((c.toNat % 128 : Nat) : Int)) (by omega) (by omega),num_or hv hm hi9,w64 (n:=(i : Int) + 1) (by omega) (by omega)]
          refine Nx.mk' (⟨(i + 1,v + c.toNat % 128 * 128 ^ i),by simp only; omega,by simp only [List.length_drop]; omega,hn,?_⟩ : {p // nuInv (l.drop lo) p}) rfl (by show l.length - lo - (i + 1) < l.length - lo - i; omega)
          simp only
          rw [Nat.pow_succ]
          have : c.toNat % 128 * 128 ^ i ≤ 127 * 128 ^ i:=Nat.mul_le_mul_right _ (by omega)
          omega
        · simp only [decide_eq_false_iff_not] at h
          rw [if_neg (by omega)] at hn
          have ec : c = ((c.toNat : Nat) : Int):=by omega
          have:=hg _ _ hn
          rw [w64 (n:=c) (by omega) (by omega),w64 (n:=(i : Int) + 1) (by omega) (by omega)]
          rw [show shlI IntKind.i64 c ((7 * i : Nat) : Int) = shlI IntKind.i64 ((c.toNat : Nat) : Int) ((7 * i : Nat) : Int) by rw [← ec],num_or hv (by omega) hi9]
          exact this
      refine ⟨fun h0 => ⟨fun h1 => ?_,fun h1 => ?_⟩,fun h0 => ?_⟩
      · simp only [beq_iff_eq] at h0
        simp only [decide_eq_true_eq] at h1
        have:=ff (.inr ⟨h0,by omega⟩)
        refine ⟨fun hy => ?_,fun hy => ⟨fun _ => hf this,fun h => by simp at h⟩⟩
        simp only [beq_iff_eq] at hy
        omega
      · simp only [decide_eq_false_iff_not] at h1
        exact go (fun h => h1 (by omega))
      · simp only [beq_eq_false_iff_ne,ne_eq] at h0
        exact go (fun h => h0 h.1)
  · simp only [decide_eq_false_iff_not] at hc
    have : i = l.length - lo:=by omega
    rw [show List.drop i (l.drop lo) = [] from List.drop_eq_nil_of_le (by rw [List.length_drop]; omega),numR.eq_1] at hn
    refine ⟨fun hy => ⟨fun h => ⟨fun _ => hs ?_,fun h => by simp at h⟩,fun h => ⟨fun _ => hf ?_,fun h => by simp at h⟩⟩,fun hy => ?_⟩
    · simp only [decide_eq_true_eq] at h
      rw [hn,if_pos (by omega)]
    · simp only [decide_eq_false_iff_not] at h
      rw [hn,if_neg (by omega)]
    · simp only [beq_eq_false_iff_ne,ne_eq] at hy
      omega)
end Go.Proofs.Ytfcjngcnifdmnaa
namespace Go.Proofs.Ytfcjngcnifdmnaa
open Vc Go
set_option linter.unusedVariables false
set_option linter.unusedSimpArgs false
set_option maxRecDepth 100000
def nuS : FuncId→Option Known
  | 67 => some ⟨[],Snumber⟩
  | f => baS f
noncomputable def XNu : CallT:=callS Try.prog nuS noT 10
def SrNum : FSpec:=fun args kb K => match args,kb with
  | [.ptr 0 0,.int .i64 most],[.cells [.sl 1 lo h,.int .i64 e],.row 5 1 A] => ∃ l : List Int,A = ints .u8 l∧h = l.length∧lo ≤ l.length∧Byt l∧l.length ≤ 140737488355328 ∧
    K (.int .i64 (rNum (l.drop lo) e most).1) [.cells [.sl 1 (lo + (rNum (l.drop lo) e most).2.1) l.length,.int .i64 (rNum (l.drop lo) e most).2.2],.row 5 1 (ints .u8 l)]
  | _,_ => False
def rdS : FuncId→Option Known
  | 43 => some ⟨[],SrNum⟩
  | 48 => some ⟨[],nilIn [.cell 0 0 5 1] SwNum⟩
  | f => nuS f
noncomputable def XRd : CallT:=callS Try.prog rdS noT 10
theorem vcNum (l : List Int) (lo : Nat) (e most : Int) (K : V→KB→Prop) (hvc_ :
 ((e != 0) = true→K (V.int IntKind.i64 0) [KO.cells [V.sl 1 lo l.length,V.int IntKind.i64 e],KO.row 5 1 (ints IntKind.u8 l)]) ∧
 ((e != 0) = false →
 ∃ (l_1 : List Int),
 ints IntKind.u8 l = ints IntKind.u8 l_1 ∧
 l.length = l_1.length ∧
 lo ≤ l_1.length ∧
 (∀ (c : Int),List.Mem c l_1→0 ≤ c∧c < 256) ∧
 l_1.length ≤ 140737488355328 ∧
 e = 0 ∧
 (∀ (v n : Nat),
 numR 0 0 (List.drop lo l_1) = RdN.got v n →
 (((↑n : Int) == 0) = true→K (V.int IntKind.i64 0) [KO.cells [V.sl 1 lo l_1.length,V.int IntKind.i64 0],KO.row 5 1 (ints IntKind.u8 l_1)]) ∧
 (((↑n : Int) == 0) = false →
 (decide ((↑v : Int) > most) = true→(true = true→K (V.int IntKind.i64 0) [KO.cells [V.sl 1 lo l_1.length,V.int IntKind.i64 5],KO.row 5 1 (ints IntKind.u8 l_1)])∧(true = false→K (V.int IntKind.i64 0) [KO.cells [V.sl 1 lo l_1.length,V.int IntKind.i64 0],KO.row 5 1 (ints IntKind.u8 l_1)])) ∧
 (decide ((↑v : Int) > most) = false→NonN (↑n : Int)∧True∧(↑n : Int).toNat ≤ l_1.length - lo∧l_1.length - lo ≤ l_1.length - lo∧K (V.int IntKind.i64 (↑v : Int)) [KO.cells [V.sl 1 (lo + (↑n : Int).toNat) (lo + (l_1.length - lo)),V.int IntKind.i64 0],KO.row 5 1 (ints IntKind.u8 l_1)]))) ∧
 (numR 0 0 (List.drop lo l_1) = RdN.short →
 (true = true→K (V.int IntKind.i64 0) [KO.cells [V.sl 1 lo l_1.length,V.int IntKind.i64 2],KO.row 5 1 (ints IntKind.u8 l_1)]) ∧
 (true = false →
 (decide (0 > most) = true→(false = true→K (V.int IntKind.i64 0) [KO.cells [V.sl 1 lo l_1.length,V.int IntKind.i64 5],KO.row 5 1 (ints IntKind.u8 l_1)])∧(false = false→K (V.int IntKind.i64 0) [KO.cells [V.sl 1 lo l_1.length,V.int IntKind.i64 2],KO.row 5 1 (ints IntKind.u8 l_1)])) ∧
 (decide (0 > most) = false→NonN 0∧True∧0 ≤ l_1.length - lo∧l_1.length - lo ≤ l_1.length - lo∧K (V.int IntKind.i64 0) [KO.cells [V.sl 1 (lo + 0) (lo + (l_1.length - lo)),V.int IntKind.i64 2],KO.row 5 1 (ints IntKind.u8 l_1)]))) ∧
 (numR 0 0 (List.drop lo l_1) = RdN.form →
 (true = true→K (V.int IntKind.i64 0) [KO.cells [V.sl 1 lo l_1.length,V.int IntKind.i64 3],KO.row 5 1 (ints IntKind.u8 l_1)]) ∧
 (true = false →
 (decide (0 > most) = true→(false = true→K (V.int IntKind.i64 0) [KO.cells [V.sl 1 lo l_1.length,V.int IntKind.i64 5],KO.row 5 1 (ints IntKind.u8 l_1)])∧(false = false→K (V.int IntKind.i64 0) [KO.cells [V.sl 1 lo l_1.length,V.int IntKind.i64 3],KO.row 5 1 (ints IntKind.u8 l_1)])) ∧
 (decide (0 > most) = false→NonN 0∧True∧0 ≤ l_1.length - lo∧l_1.length - lo ≤ l_1.length - lo∧K (V.int IntKind.i64 0) [KO.cells [V.sl 1 (lo + 0) (lo + (l_1.length - lo)),V.int IntKind.i64 3],KO.row 5 1 (ints IntKind.u8 l_1)]))))
 ) : runSpec Try.prog XNu (noT 43) 43 [.ptr 0 0,.int .i64 most] [.cells [.sl 1 lo l.length,.int .i64 e],.row 5 1 (ints .u8 l)] K:=by apply Eq.mp (a:=hvc_); kernel_rfl
theorem vcText (l : List Int) (lo : Nat) (e most : Int) (K : V→KB→Prop) (hvc_ :
 ∃ (l_1 : List Int),
 ints IntKind.u8 l = ints IntKind.u8 l_1 ∧
 l.length = l_1.length ∧
 lo ≤ l_1.length ∧
 (∀ (c : Int),List.Mem c l_1→0 ≤ c∧c < 256) ∧
 l_1.length ≤ 140737488355328 ∧
 (((rNum (List.drop lo l_1) e most).snd.snd != 0) = true→K (V.sl 2 0 0) [KO.cells [V.sl 1 (lo + (rNum (List.drop lo l_1) e most).snd.fst) l_1.length,V.int IntKind.i64 (rNum (List.drop lo l_1) e most).snd.snd],KO.row 5 1 (ints IntKind.u8 l_1),KO.row 5 1 []]) ∧
 (((rNum (List.drop lo l_1) e most).snd.snd != 0) = false →
 (decide ((rNum (List.drop lo l_1) e most).fst > (↑(l_1.length - (lo + (rNum (List.drop lo l_1) e most).snd.fst)) : Int)) = true →
 (((rNum (List.drop lo l_1) e most).snd.snd == 0) = true→K (V.sl 2 0 0) [KO.cells [V.sl 1 (lo + (rNum (List.drop lo l_1) e most).snd.fst) l_1.length,V.int IntKind.i64 2],KO.row 5 1 (ints IntKind.u8 l_1),KO.row 5 1 []]) ∧
 (((rNum (List.drop lo l_1) e most).snd.snd == 0) = false→K (V.sl 2 0 0) [KO.cells [V.sl 1 (lo + (rNum (List.drop lo l_1) e most).snd.fst) l_1.length,V.int IntKind.i64 (rNum (List.drop lo l_1) e most).snd.snd],KO.row 5 1 (ints IntKind.u8 l_1),KO.row 5 1 []])) ∧
 (decide ((rNum (List.drop lo l_1) e most).fst > (↑(l_1.length - (lo + (rNum (List.drop lo l_1) e most).snd.fst)) : Int)) = false →
 True ∧
 NonN (rNum (List.drop lo l_1) e most).fst ∧
 0 ≤ (rNum (List.drop lo l_1) e most).fst.toNat ∧
 (rNum (List.drop lo l_1) e most).fst.toNat ≤ l_1.length - (lo + (rNum (List.drop lo l_1) e most).snd.fst) ∧
 (lo + (rNum (List.drop lo l_1) e most).snd.fst + (rNum (List.drop lo l_1) e most).fst.toNat ≤ (ints IntKind.u8 l_1).length∧True) ∧
 (List.drop (lo + (rNum (List.drop lo l_1) e most).snd.fst + 0) (List.take (lo + (rNum (List.drop lo l_1) e most).snd.fst + (rNum (List.drop lo l_1) e most).fst.toNat) (ints IntKind.u8 l_1))).length ≤ 140737488355328 ∧
 PlainS (List.drop (lo + (rNum (List.drop lo l_1) e most).snd.fst + 0) (List.take (lo + (rNum (List.drop lo l_1) e most).snd.fst + (rNum (List.drop lo l_1) e most).fst.toNat) (ints IntKind.u8 l_1))).flatten ∧
 NonN (rNum (List.drop lo l_1) e most).fst ∧
 True ∧
 (rNum (List.drop lo l_1) e most).fst.toNat ≤ l_1.length - (lo + (rNum (List.drop lo l_1) e most).snd.fst) ∧
 l_1.length - (lo + (rNum (List.drop lo l_1) e most).snd.fst) ≤ l_1.length - (lo + (rNum (List.drop lo l_1) e most).snd.fst) ∧
 K (V.sl 2 0 (List.drop (lo + (rNum (List.drop lo l_1) e most).snd.fst + 0) (List.take (lo + (rNum (List.drop lo l_1) e most).snd.fst + (rNum (List.drop lo l_1) e most).fst.toNat) (ints IntKind.u8 l_1))).length)
 [KO.cells [V.sl 1 (lo + (rNum (List.drop lo l_1) e most).snd.fst + (rNum (List.drop lo l_1) e most).fst.toNat) (lo + (rNum (List.drop lo l_1) e most).snd.fst + (l_1.length - (lo + (rNum (List.drop lo l_1) e most).snd.fst))),V.int IntKind.i64 (rNum (List.drop lo l_1) e most).snd.snd],KO.row 5 1 (ints IntKind.u8 l_1),
 KO.row 5 1 (List.drop (lo + (rNum (List.drop lo l_1) e most).snd.fst + 0) (List.take (lo + (rNum (List.drop lo l_1) e most).snd.fst + (rNum (List.drop lo l_1) e most).fst.toNat) (ints IntKind.u8 l_1)))]))
 ) : runSpec Try.prog XRd (noT 44) 44 [.ptr 0 0,.int .i64 most] [.cells [.sl 1 lo l.length,.int .i64 e],.row 5 1 (ints .u8 l)] (nilRes [.slot 0 5 1] K):=by apply Eq.mp (a:=hvc_); kernel_rfl
theorem vcWText (a : List Int) (B : List (List D)) (K : V→KB→Prop) (hvc_ :
 ∃ (a_1 : List Int),
 ints IntKind.u8 a = ints IntKind.u8 a_1 ∧
 a.length = a_1.length ∧
 a_1.length ≤ 10000000 ∧
 LeM (↑B.length : Int) ∧
 True ∧
 (a_1 ++ numW (↑B.length : Int)).length ≤ (ints IntKind.u8 (a_1 ++ numW (↑B.length : Int))).length ∧
 ((a_1 ++ numW (↑B.length : Int)).length + B.length) * 1 ≤ 140737488355328∧K (V.tup []) [KO.cells [V.sl 2 0 ((a_1 ++ numW (↑B.length : Int)).length + B.length)],KO.dead,KO.row 5 1 (List.take (a_1 ++ numW (↑B.length : Int)).length (ints IntKind.u8 (a_1 ++ numW (↑B.length : Int))) ++ B)]
 ) : runSpec Try.prog XRd (noT 49) 49 [.ptr 0 0,.dat (.sl 1 B)] [.cells [.sl 1 0 a.length],.row 5 1 (ints .u8 a)] (tidyRes 2 K):=by apply Eq.mp (a:=hvc_); kernel_rfl
theorem vcBytes (A : List (List D)) (n : Nat) (K : V→KB→Prop) (hvc_ :
 (n ≤ A.length∧True)∧(List.drop 0 (List.take n A)).length ≤ 140737488355328∧PlainS (List.drop 0 (List.take n A)).flatten∧K (V.sl 2 0 (List.drop 0 (List.take n A)).length) [KO.cells [V.sl 1 0 n],KO.row 5 1 A,KO.row 5 1 (List.drop 0 (List.take n A))]
 ) : runSpec Try.prog XRd (noT 52) 52 [.ptr 0 0] [.cells [.sl 1 0 n],.row 5 1 A] K:=by apply Eq.mp (a:=hvc_); kernel_rfl
theorem vcRead (A : List (List D)) (K : V→KB→Prop) (hvc_ :
 A.length ≤ 140737488355328∧K (V.ptr 0 0) [KO.cells [V.sl 1 0 A.length,V.int IntKind.i64 0],KO.row 5 1 A]
 ) : runSpec Try.prog XRd (noT 42) 42 [.dat (.sl 1 A)] [] (tidyRes 0 K):=by apply Eq.mp (a:=hvc_); kernel_rfl
theorem vcEnd (l : List Int) (lo : Nat) (e : Int) (K : V→KB→Prop) (hvc_ :
 (decide ((↑(l.length - lo) : Int) > 0) = true→((e == 0) = true→K (V.int IntKind.i64 3) [KO.cells [V.sl 1 lo l.length,V.int IntKind.i64 3],KO.row 5 1 (ints IntKind.u8 l)])∧((e == 0) = false→K (V.int IntKind.i64 e) [KO.cells [V.sl 1 lo l.length,V.int IntKind.i64 e],KO.row 5 1 (ints IntKind.u8 l)])) ∧
 (decide ((↑(l.length - lo) : Int) > 0) = false→K (V.int IntKind.i64 e) [KO.cells [V.sl 1 lo l.length,V.int IntKind.i64 e],KO.row 5 1 (ints IntKind.u8 l)])
 ) : runSpec Try.prog XRd (noT 47) 47 [.ptr 0 0] [.cells [.sl 1 lo l.length,.int .i64 e],.row 5 1 (ints .u8 l)] K:=by apply Eq.mp (a:=hvc_); kernel_rfl
theorem vcErr (A : List (List D)) (lo hi : Nat) (e : Int) (K : V→KB→Prop) (hvc_ :
 K (V.int IntKind.i64 e) [KO.cells [V.sl 1 lo hi,V.int IntKind.i64 e],KO.row 5 1 A]
 ) : runSpec Try.prog XRd (noT 70) 70 [.ptr 0 0] [.cells [.sl 1 lo hi,.int .i64 e],.row 5 1 A] K:=by apply Eq.mp (a:=hvc_); kernel_rfl
theorem baS_ok : AllOk Try.prog baS:=fun f k h => by
  unfold baS at h
  split at h <;> first | (cases h; first | exact okSame | exact cloneB_of okClone) | cases h
theorem nuS_ok : AllOk Try.prog nuS:=fun f k h => by
  unfold nuS at h
  split at h
  · cases h; exact okNumber
  · exact baS_ok _ _ h
theorem XNu_ok : CallOk Try.prog XNu:=callS_ok mixed nuS_ok noT 10
theorem byt_drop {l : List Int} (h : Byt l) (n : Nat) : Byt (l.drop n):=fun c hc => h c (List.mem_of_mem_drop hc)
theorem okNum : SpecOk Try.prog 43 SrNum:=specOk_of' XNu_ok mixed (fun args kb K h => by
  unfold SrNum at h; split at h <;> try exact h.elim
  rename_i most lo _ e _
  obtain ⟨l,rfl,rfl,hlo,hb,hl,h⟩:=h
  refine ⟨noT 43,vcNum l lo e most K ⟨fun hc => ?_,fun hc => ?_⟩⟩
  · simp only [bne_iff_ne,ne_eq] at hc
    unfold rNum at h
    rw [if_neg hc] at h
    exact h
  · simp only [bne_eq_false_iff_eq] at hc
    subst hc
    refine ⟨l,rfl,rfl,hlo,hb,hl,rfl,fun v n hn => ⟨fun h0 => ?_,fun h0 => ⟨fun hv => ⟨fun _ => ?_,fun h => by simp at h⟩,fun hv => ⟨by unfold NonN; omega,trivial,?_,Nat.le_refl _,?_⟩⟩⟩,fun hn => ⟨fun _ => ?_,fun h => by simp at h⟩,fun hn => ⟨fun _ => ?_,fun h => by simp at h⟩⟩
    · obtain ⟨_,h2,_⟩:=numR_got (byt_drop hb lo) hn
      have:=numW_len (v : Int)
      simp only [beq_iff_eq] at h0
      omega
    · simp only [decide_eq_true_eq] at hv
      unfold rNum at h
      rw [if_pos rfl,hn] at h
      simp only [if_pos (show most < (v : Int) from hv)] at h
      exact h
    · obtain ⟨_,h2,r,h3⟩:=numR_got (byt_drop hb lo) hn
      have:=congrArg List.length h3
      rw [List.length_drop,List.length_append] at this
      omega
    · simp only [decide_eq_false_iff_not] at hv
      unfold rNum at h
      rw [if_pos rfl,hn] at h
      simp only [if_neg (show ¬ most < (v : Int) from hv)] at h
      rw [show lo + (l.length - lo) = l.length by omega]
      exact h
    · unfold rNum at h
      rw [if_pos rfl,hn] at h
      exact h
    · unfold rNum at h
      rw [if_pos rfl,hn] at h
      exact h)
theorem rdS_ok : AllOk Try.prog rdS:=fun f k h => by
  unfold rdS at h
  split at h
  · cases h; exact okNum
  · cases h; exact nilIn_ok okWNum _
  · exact nuS_ok _ _ h
theorem XRd_ok : CallOk Try.prog XRd:=callS_ok mixed rdS_ok noT 10
def SrText : FSpec:=fun args kb K => match args,kb with
  | [.ptr 0 0,.int .i64 most],[.cells [.sl 1 lo h,.int .i64 e],.row 5 1 A] => ∃ l : List Int,A = ints .u8 l∧h = l.length∧lo ≤ l.length∧Byt l∧l.length ≤ 140737488355328 ∧
    K (.sl 2 0 (rText (l.drop lo) e most).1.length) [.cells [.sl 1 (lo + (rText (l.drop lo) e most).2.1) l.length,.int .i64 (rText (l.drop lo) e most).2.2],.row 5 1 (ints .u8 l),.row 5 1 (ints .u8 (rText (l.drop lo) e most).1)]
  | _,_ => False
theorem okText : SpecOk Try.prog 44 SrText:=specOk_nil XRd_ok mixed [.slot 0 5 1] (fun args kb K h => by
  unfold SrText at h; split at h <;> try exact h.elim
  rename_i most lo _ e _
  obtain ⟨l,rfl,rfl,hlo,hb,hl,h⟩:=h
  refine ⟨noT 44,vcText l lo e most K ⟨l,rfl,rfl,hlo,hb,by omega,?_⟩⟩
  have hv:=rNum_val (byt_drop hb lo) e most
  rw [List.length_drop] at hv
  unfold rText at h
  generalize hr : rNum (l.drop lo) e most = r at h hv ⊢
  obtain ⟨n,u,e'⟩:=r
  simp only at h hv ⊢
  refine ⟨fun hc => ?_,fun hc => ⟨fun hx => ⟨fun hy => ?_,fun hy => ?_⟩,fun hx => ?_⟩⟩
  · simp only [bne_iff_ne,ne_eq] at hc
    rw [if_neg hc] at h
    exact h
  · simp only [decide_eq_true_eq] at hx
    simp only [bne_eq_false_iff_eq] at hc
    subst hc
    rw [if_pos rfl,if_pos (by rw [List.length_drop,List.length_drop]; omega)] at h
    exact h
  · rw [bne,hy] at hc
    cases hc
  · simp only [decide_eq_false_iff_not] at hx
    simp only [bne_eq_false_iff_eq] at hc
    subst hc
    rw [if_pos rfl,if_neg (by rw [List.length_drop,List.length_drop]; omega)] at h
    have hnn : NonN n:=hv.1
    have e1 : List.drop (lo + u + 0) (List.take (lo + u + n.toNat) (ints .u8 l)) = ints .u8 (List.take n.toNat (List.drop u (List.drop lo l))):=by
      rw [Nat.add_zero,List.drop_take,ints_drop,ints_take,List.drop_drop,Nat.add_sub_cancel_left]
    rw [e1]
    simp only [List.drop_drop,ints_len] at h ⊢
    have e3 : lo + u + (l.length - (lo + u)) = l.length:=by omega
    rw [e3]
    refine ⟨trivial,hnn,Nat.zero_le _,by omega,⟨by omega,trivial⟩,by rw [List.length_take,List.length_drop]; omega,⟨plain_ints⟩,hnn,trivial,by omega,Nat.le_refl _,?_⟩
    rw [show lo + u + n.toNat = lo + (u + n.toNat) by omega]
    exact h)
def SwText : FSpec:=fun args kb K => match args,kb with
  | [.ptr 0 0,.dat (.sl 1 B)],[.cells [.sl 1 0 h],.row 5 1 A] => ∃ a b : List Int,A = ints .u8 a∧B = ints .u8 b∧h = a.length∧a.length ≤ 1000000∧b.length ≤ 1000000 ∧
    K (.tup []) [.cells [.sl 2 0 (a ++ textW b).length],.dead,.row 5 1 (ints .u8 (a ++ textW b))]
  | _,_ => False
theorem okWText : SpecOk Try.prog 49 SwText:=specOk_tidy XRd_ok mixed (fun args kb K h => by
  unfold SwText at h; split at h <;> try exact h.elim
  obtain ⟨a,b,rfl,rfl,rfl,h1,h2,h⟩:=h
  refine ⟨noT 49,vcWText a _ K ⟨a,rfl,rfl,by omega,⟨by rw [ints_len]; omega⟩,trivial,by simp only [ints_len]; exact Nat.le_refl _,?_,?_⟩⟩
  · have:=(numW_len ((ints IntKind.u8 b).length : Int)).2
    rw [List.length_append,ints_len]
    rw [ints_len] at this
    omega
  · rw [ints_len,ints_take,List.take_length,← ints_app,← List.length_append,List.append_assoc]
    exact h)
def SwBytes : FSpec:=fun args kb K => match args,kb with
  | [.ptr 0 0],[.cells [.sl 1 0 h],.row 5 1 A] => ∃ a : List Int,A = ints .u8 a∧h = a.length∧a.length ≤ 1000000∧K (.sl 2 0 a.length) [.cells [.sl 1 0 a.length],.row 5 1 (ints .u8 a),.row 5 1 (ints .u8 a)]
  | _,_ => False
theorem dropTake {k : IntKind} {a : List Int} : List.drop 0 (List.take a.length (ints k a)) = ints k a:=by rw [List.drop_zero,ints_take,List.take_length]
theorem okBytesW : SpecOk Try.prog 52 SwBytes:=specOk_of' XRd_ok mixed (fun args kb K h => by
  unfold SwBytes at h; split at h <;> try exact h.elim
  obtain ⟨a,rfl,rfl,h1,h⟩:=h
  refine ⟨noT 52,vcBytes _ _ K ?_⟩
  rw [dropTake,ints_len]
  exact ⟨⟨Nat.le_refl _,trivial⟩,by omega,⟨plain_ints⟩,h⟩)
def SpRead : FSpec:=fun args kb K => match args,kb with
  | [.dat (.sl 1 A)],[] => A.length ≤ 140737488355328∧K (.ptr 0 0) [.cells [.sl 1 0 A.length,.int .i64 0],.row 5 1 A]
  | _,_ => False
theorem okPRead : SpecOk Try.prog 42 SpRead:=specOk_tidy XRd_ok mixed (fun args kb K h => by
  unfold SpRead at h; split at h <;> try exact h.elim
  exact ⟨noT 42,vcRead _ K h⟩)
def SrEnd : FSpec:=fun args kb K => match args,kb with
  | [.ptr 0 0],[.cells [.sl 1 lo h,.int .i64 e],.row 5 1 A] => ∃ l : List Int,A = ints .u8 l∧h = l.length ∧
    K (.int .i64 (rEnd (l.drop lo) e)) [.cells [.sl 1 lo l.length,.int .i64 (rEnd (l.drop lo) e)],.row 5 1 (ints .u8 l)]
  | _,_ => False
theorem okEnd : SpecOk Try.prog 47 SrEnd:=specOk_of' XRd_ok mixed (fun args kb K h => by
  unfold SrEnd at h; split at h <;> try exact h.elim
  rename_i lo _ e _
  obtain ⟨l,rfl,rfl,h⟩:=h
  have hd : l.drop lo = [] ↔ l.length - lo = 0:=by rw [← List.length_eq_zero_iff,List.length_drop]
  refine ⟨noT 47,vcEnd l lo e K ⟨fun hc => ⟨fun h0 => ?_,fun h0 => ?_⟩,fun hc => ?_⟩⟩
  · simp only [decide_eq_true_eq] at hc
    simp only [beq_iff_eq] at h0
    unfold rEnd at h
    rw [if_pos ⟨fun hh => by rw [hd] at hh; omega,h0⟩] at h
    exact h
  · simp only [beq_eq_false_iff_ne,ne_eq] at h0
    unfold rEnd at h
    rw [if_neg (fun hh => h0 hh.2)] at h
    exact h
  · simp only [decide_eq_false_iff_not] at hc
    unfold rEnd at h
    rw [if_neg (fun hh => hh.1 (hd.2 (by omega)))] at h
    exact h)
def SrErr : FSpec:=fun args kb K => match args,kb with
  | [.ptr 0 0],[.cells [.sl 1 lo hi,.int .i64 e],.row 5 1 A] => K (.int .i64 e) [.cells [.sl 1 lo hi,.int .i64 e],.row 5 1 A]
  | _,_ => False
theorem okErr : SpecOk Try.prog 70 SrErr:=specOk_of' XRd_ok mixed (fun args kb K h => by
  unfold SrErr at h; split at h <;> try exact h.elim
  exact ⟨noT 70,vcErr _ _ _ _ K h⟩)
end Go.Proofs.Ytfcjngcnifdmnaa
namespace Go.Proofs.Ytfcjngcnifdmnaa
open Vc Go
set_option linter.unusedVariables false
set_option linter.unusedSimpArgs false
set_option maxRecDepth 100000
def pkS : FuncId→Option Known
  | 44 => some ⟨[],SrText⟩
  | 49 => some ⟨[.asis,.lend 1],nilIn [.cell 0 0 5 1] SwText⟩
  | 52 => some ⟨[],nilIn [.cell 0 0 5 1] SwBytes⟩
  | 42 => some ⟨[.lend 1],SpRead⟩
  | 47 => some ⟨[],SrEnd⟩
  | 70 => some ⟨[],SrErr⟩
  | f => rdS f
theorem pkS_ok : AllOk Try.prog pkS:=fun f k h => by
  unfold pkS at h
  split at h
  · cases h; exact okText
  · cases h; exact nilIn_ok okWText _
  · cases h; exact nilIn_ok okBytesW _
  · cases h; exact okPRead
  · cases h; exact okEnd
  · cases h; exact okErr
  · exact rdS_ok _ _ h
end Go.Proofs.Ytfcjngcnifdmnaa
set_option linter.unusedSimpArgs false
set_option linter.unusedVariables false
namespace Vc
open Go Go.Shelf Go.Sort Go.RowKit Go.Proofs
theorem Inv.more {σ : Sg} {E : EH} {kb : KB} {W W' : World} (h : Inv σ E kb W) (hos : W'.os = W.os) (htp : W'.tape = W.tape) (hout : W'.output = W.output) (hsz : W.heap.size ≤ W'.heap.size)
    (hbl : ∀ b,b < W.heap.size→W'.heap[b]? = W.heap[b]?) : Step σ E kb W σ E kb W':=by
  refine ⟨⟨h.len,fun i r o h1 h2 => ?_,h.disj,fun b o hb => ?_,h.sep⟩,⟨hos,htp,hout,hsz,fun b hb _ => hbl b hb⟩,⟨[],by simp⟩,EH.le.refl E,fun _ h => .inl h,fun _ _ h => .inl h⟩
  · have ho:=h.obj i r o h1 h2
    have:=ho.mono (τ:=[]) (W':=W') (EH.le.refl E) (fun b hb => hbl b (ho.lt hb))
    simpa using this
  · have:=h.imm b o hb
    rw [hbl b ((Array.getElem?_eq_some_iff.1 this).1)]; exact this
def sortI (l : List Int) : List Int:=l.mergeSort fun x y => decide (x ≤ y)
theorem sortI_len (l : List Int) : (sortI l).length = l.length:=(List.mergeSort_perm l _).length_eq
theorem ints_den {E : EH} {k : IntKind} : ∀ (l : List Int),DenD E (ints k l).flatten (l.map (Value.int k))
  | [] => by simp [ints,DenD]
  | a :: l => by
    simp only [ints,List.map_cons,List.flatten_cons,List.cons_append,List.nil_append,DenD,RepD]
    exact ⟨_,_,rfl,⟨rfl,rfl⟩,by simpa [ints] using ints_den l⟩
end Vc
set_option linter.unusedSimpArgs false
set_option linter.unusedVariables false
namespace Vc
open Go Go.Shelf Go.Sort Go.RowKit Go.Proofs Go.Maps
def SmapClone : FSpec:=fun args kb K => match args,kb with
  | [.mp 0],[.mp kks kagg agg sz M] => K (.mp 1) [.mp kks kagg agg sz M,.mp kks kagg agg sz M]
  | [.any (.map none)],[] => K (.any (.map none)) []
  | [.imp kks kagg agg sz M],[] => (M = []→K (.any (.map none)) [])∧K (.mp 0) [.mp kks kagg agg sz M]
  | _,_ => False
theorem okMapClone_of {P : Program} {ρ : Ren} (L : SlLaysW.n5 P ρ) : SpecOk P (ρ.f 5) SmapClone:=fun args kb K h σ E W xs hi hd => by
  unfold SmapClone at h
  split at h <;> try exact h.elim
  · rename_i kks kagg agg sz M
    simp only [DenL,Den] at hd
    obtain ⟨x,xs',rfl,⟨r,hr,rfl⟩,rfl⟩:=hd
    obtain ⟨h1,es,clock,h2,h3,h4⟩:=hi.obj 0 r _ hr rfl
    refine (AnyW.maps_Clone L r.blk es clock W h2).mono ?_
    rintro e W' ⟨rfl,rfl⟩
    have hlen : σ.length = 1:=hi.len
    have ho : HoldsO (σ ++ [⟨W.heap.size,0,0⟩]) E (W.alloc (.map es clock)) ⟨W.heap.size,0,0⟩ (.mp kks kagg agg sz M) :=
      ⟨h1,es,clock,(MapKept.heap_alloc W _).1,h3,h4⟩
    have hst:=hi.alloc (.map es clock) ⟨W.heap.size,0,0⟩ (.mp kks kagg agg sz M) (fun b hb => hb) ho
    refine ⟨_,.mp 1,_,E,_,rfl,hst,?_,h⟩
    simp only [Den]
    exact ⟨⟨W.heap.size,0,0⟩,by rw [List.getElem?_append_right (by omega),hlen]; rfl,rfl⟩
  · simp only [DenL,Den] at hd
    obtain ⟨x,xs',rfl,rfl,rfl⟩:=hd
    refine (AnyW.maps_Clone_nil L W).mono ?_
    rintro e W' ⟨rfl,rfl⟩
    exact ⟨_,.any (.map none),σ,E,_,rfl,Step.refl hi,by simp only [Den],h⟩
  · rename_i kks kagg agg sz M
    simp only [DenL,Den] at hd
    obtain ⟨x,xs',rfl,⟨a,rfl,ha⟩,rfl⟩:=hd
    cases a with
    | none =>
      have ha : M = []:=ha
      refine (AnyW.maps_Clone_nil L W).mono ?_
      rintro e W' ⟨rfl,rfl⟩
      exact ⟨_,.any (.map none),σ,E,_,rfl,Step.refl hi,by simp only [Den],h.1 ha⟩
    | some b =>
      obtain ⟨h1,es,clock,h2,h3,h4⟩:=ha
      refine (AnyW.maps_Clone L b es clock W (hi.imm b _ h2)).mono ?_
      rintro e W' ⟨rfl,rfl⟩
      have hlen : σ.length = 0:=hi.len
      have ho : HoldsO (σ ++ [⟨W.heap.size,0,0⟩]) E (W.alloc (.map es clock)) ⟨W.heap.size,0,0⟩ (.mp kks kagg agg sz M) :=
        ⟨h1,es,clock,(MapKept.heap_alloc W _).1,h3,h4⟩
      have hst:=hi.alloc (.map es clock) ⟨W.heap.size,0,0⟩ (.mp kks kagg agg sz M) (fun b hb => hb) ho
      refine ⟨_,.mp 0,_,E,_,rfl,hst,?_,h.2⟩
      simp only [Den]
      exact ⟨⟨W.heap.size,0,0⟩,by rw [List.getElem?_append_right (by omega),hlen]; rfl,rfl⟩
def SmapKeys (g : FuncId) : FSpec:=fun args kb K => match args,kb with
  | [.mp 0],[.mp kks kagg agg sz M] => K (.fn g [.ptr 1 0]) [.mp kks kagg agg sz M,.cells [.mp 0]]
  | [.any (.map none)],[] => K (.fn g [.ptr 0 0]) [.cells [.any (.map none)]]
  | [.imp kks kagg agg sz M],[] => K (.fn g [.ptr 0 0]) [.cells [.imp kks kagg agg sz M]]
  | _,_ => False
theorem okMapKeys_of {P : Program} {ρ : Ren} (L : SlLaysZI.n7 P ρ) : SpecOk P (ρ.f 7) (SmapKeys (ρ.f 10)):=fun args kb K h σ E W xs hi hd => by
  unfold SmapKeys at h
  split at h <;> try exact h.elim
  · rename_i kks kagg agg sz M
    simp only [DenL,Den] at hd
    obtain ⟨x,xs',rfl,⟨r,hr,rfl⟩,rfl⟩:=hd
    refine (callsIn_wide.1 (AnyZI.keys_in L Fence.wide 5 trivial rfl (some r.blk) W)).mono ?_
    rintro e W' ⟨rfl,rfl⟩
    have hlen : σ.length = 1:=hi.len
    have hD : DenC (σ ++ [⟨W.heap.size,0,0⟩]) E [V.mp 0] [Value.map (some r.blk)] :=
      DenC.cons1 (by simp only [Den]; exact ⟨r,by rw [List.getElem?_append_left (by omega)]; exact hr,rfl⟩) rfl DenC.nil
    have hst:=hi.alloc (.cells #[.map (some r.blk)] (ρ.t 23)) ⟨W.heap.size,0,0⟩ (.cells [.mp 0]) (fun b hb => hb) ⟨_,_,(MapKept.heap_alloc W _).1,hD⟩
    refine ⟨_,.fn (ρ.f 10) [.ptr 1 0],_,E,_,rfl,hst,?_,h⟩
    simp only [Den,DenL]
    exact ⟨_,rfl,_,_,rfl,⟨⟨W.heap.size,0,0⟩,by rw [List.getElem?_append_right (by omega),hlen]; rfl,rfl⟩,rfl⟩
  · simp only [DenL,Den] at hd
    obtain ⟨x,xs',rfl,rfl,rfl⟩:=hd
    refine (callsIn_wide.1 (AnyZI.keys_in L Fence.wide 5 trivial rfl none W)).mono ?_
    rintro e W' ⟨rfl,rfl⟩
    have hlen : σ.length = 0:=hi.len
    have hD : DenC (σ ++ [⟨W.heap.size,0,0⟩]) E [V.any (.map none)] [Value.map none] :=
      DenC.cons1 (by simp only [Den]) rfl DenC.nil
    have hst:=hi.alloc (.cells #[.map none] (ρ.t 23)) ⟨W.heap.size,0,0⟩ (.cells [.any (.map none)]) (fun b hb => hb) ⟨_,_,(MapKept.heap_alloc W _).1,hD⟩
    refine ⟨_,.fn (ρ.f 10) [.ptr 0 0],_,E,_,rfl,hst,?_,h⟩
    simp only [Den,DenL]
    exact ⟨_,rfl,_,_,rfl,⟨⟨W.heap.size,0,0⟩,by rw [List.getElem?_append_right (by omega),hlen]; rfl,rfl⟩,rfl⟩
  · rename_i kks kagg agg sz M
    simp only [DenL,Den] at hd
    obtain ⟨x,xs',rfl,⟨a,rfl,ha⟩,rfl⟩:=hd
    refine (callsIn_wide.1 (AnyZI.keys_in L Fence.wide 5 trivial rfl a W)).mono ?_
    rintro e W' ⟨rfl,rfl⟩
    have hlen : σ.length = 0:=hi.len
    have hD : DenC (σ ++ [⟨W.heap.size,0,0⟩]) E [V.imp kks kagg agg sz M] [Value.map a] :=
      DenC.cons1 (by simp only [Den]; exact ⟨a,rfl,ha⟩) rfl DenC.nil
    have hst:=hi.alloc (.cells #[.map a] (ρ.t 23)) ⟨W.heap.size,0,0⟩ (.cells [.imp kks kagg agg sz M]) (fun b hb => hb) ⟨_,_,(MapKept.heap_alloc W _).1,hD⟩
    refine ⟨_,.fn (ρ.f 10) [.ptr 0 0],_,E,_,rfl,hst,?_,h⟩
    simp only [Den,DenL]
    exact ⟨_,rfl,_,_,rfl,⟨⟨W.heap.size,0,0⟩,by rw [List.getElem?_append_right (by omega),hlen]; rfl,rfl⟩,rfl⟩
structure KeysOk (M : ML) : Prop where
  one : ∀ e ∈ M,∃ n,e.1 = [n]∧-9223372036854775808 ≤ n∧n ≤ 9223372036854775807
  nd : (M.map (·.1)).Nodup
  len : M.length ≤ 1000000
def keysM (M : ML) : List Int:=M.map fun e => e.1.headD 0
theorem keysM_nodup {M : ML} (h : KeysOk M) : (keysM M).Nodup:=by
  unfold keysM
  have h1:=h.nd
  have h2:=h.one
  clear h
  induction M with
  | nil => simp
  | cons e M ih =>
    simp only [List.map_cons,List.nodup_cons] at h1 ⊢
    refine ⟨fun hm => h1.1 ?_,ih h1.2 (fun x hx => h2 x (List.mem_cons_of_mem _ hx))⟩
    obtain ⟨x,hx,he⟩:=List.mem_map.1 hm
    obtain ⟨n,hn,_⟩:=h2 e List.mem_cons_self
    obtain ⟨m,hm',_⟩:=h2 x (List.mem_cons_of_mem _ hx)
    rw [hn,hm'] at he
    simp only [List.headD_cons] at he
    exact List.mem_map.2 ⟨x,hx,by rw [hn,hm',he]⟩
def anyR : Value→Option (DataW Unit × List MemPlace):=fun _ => some (.nil,[])
theorem ent_keys {E : EH} {agg : Bool} : ∀ {es : List MapEntry} {M : ML},EntL E [.i64] false agg es M→(∀ e ∈ M,∃ n,e.1 = [n]∧-9223372036854775808 ≤ n∧n ≤ 9223372036854775807) →
    es.map (·.key) = (keysM M).map (Value.int .i64)∧es.length = M.length
  | [],M,h,_ => by simp only [EntL] at h; subst h; exact ⟨rfl,rfl⟩
  | e :: es,M,h,hk => by
    simp only [EntL] at h
    obtain ⟨k,c,l',rfl,⟨_,h2,_⟩,h4⟩:=h
    obtain ⟨ih1,ih2⟩:=ent_keys h4 (fun x hx => hk x (List.mem_cons_of_mem _ hx))
    obtain ⟨n,hn,_⟩:=hk _ List.mem_cons_self
    simp only at hn
    subst hn
    refine ⟨?_,by simp [ih2]⟩
    simp only [List.map_cons,keysM,ih1,h2]
    rfl
theorem wf_of {n : Int} (h1 : -9223372036854775808 ≤ n) (h2 : n ≤ 9223372036854775807) : (Lit.int .i64 n).wf = true:=by
  have e1 : IntKind.i64.min = -9223372036854775808:=by decide
  have e2 : IntKind.i64.max = 9223372036854775807:=by decide
  simp only [Lit.wf,Bool.and_eq_true,decide_eq_true_eq,e1,e2]
  exact ⟨h1,h2⟩
theorem insert_perm {x : Lit × DataW Unit} : ∀ (l : List (Lit × DataW Unit)),(DataW.insert x l).Perm (x :: l)
  | [] => List.Perm.refl _
  | y :: r => by
    simp only [DataW.insert]
    split
    · exact List.Perm.refl _
    · exact ((insert_perm r).cons y).trans (List.Perm.swap x y r)
theorem foldr_perm (l : List (Lit × DataW Unit)) : (l.foldr DataW.insert []).Perm l:=by
  induction l with
  | nil => exact List.Perm.refl _
  | cons x l ih => exact (insert_perm _).trans (ih.cons x)
theorem owns_of {P : Program} {k : TypeId} (hk : P.underlying k = some (.int .i64)) {E : EH} {agg : Bool} {es : Array MapEntry} {clock : Nat} {M : ML} (h : EntL E [.i64] false agg es.toList M) (hb : BornOk es.toList clock) (hM : KeysOk M) {w : World} {b : Nat} (hw : w.heap[b]? = some (.map es clock)) :
    ∃ D0 : DataW Unit,w.ownsMap P k anyR b es.size D0∧(intKeys D0).Perm (keysM M)∧Maps.size D0 = M.length:=by
  obtain ⟨h1,h2⟩:=ent_keys h hM.one
  have hread : ∀ x ∈ es.toList,∃ n : Int,x.key = .int .i64 n∧Go.WideElems.rd P k anyR x = some (.int .i64 n,.nil):=fun x hx => by
    have hx' : x.key ∈ es.toList.map (·.key):=List.mem_map.2 ⟨x,hx,rfl⟩
    rw [h1] at hx'
    obtain ⟨n,hn,he⟩:=List.mem_map.1 hx'
    obtain ⟨e,heM,hen⟩:=List.mem_map.1 hn
    obtain ⟨m,hm,b1,b2⟩:=hM.one e heM
    rw [hm] at hen
    simp only [List.headD_cons] at hen
    subst hen
    refine ⟨m,he.symm,?_⟩
    have hkey : keyOf P k x.key = some (.int .i64 m):=by
      rw [← he]
      simp [keyOf,hk,mapKey,wf_of b1 b2]
    simp [Go.WideElems.rd,hkey,anyR]
  have hnd : (es.toList.map (·.key)).Nodup:=by
    rw [h1]
    exact List.pairwise_map.2 ((keysM_nodup hM).imp fun hne e => hne (by simpa using e))
  have hF : Go.WideElems.Fit P k anyR es clock:=⟨by
    have:=hM.len
    simp only [maxLen]
    simp only [Array.length_toList] at h2
    omega,⟨fun x hx => hb.2 x hx,hb.1,hnd⟩,fun x hx => by obtain ⟨n,_,h3⟩:=hread x hx; exact ⟨_,h3⟩⟩
  refine ⟨.map ((es.toList.map (Go.WideElems.rg P k anyR)).foldr DataW.insert []),⟨es,clock,hw,hF,Nat.le_refl _,rfl⟩,?_,?_⟩
  · show ((List.foldr DataW.insert [] (es.toList.map (Go.WideElems.rg P k anyR))).map fun p => Go.intOf p.1).Perm _
    refine ((foldr_perm _).map _).trans ?_
    have e2 : (es.toList.map (Go.WideElems.rg P k anyR)).map (fun p => Go.intOf p.1) = keysM M:=by
      have e3 : (es.toList.map (Go.WideElems.rg P k anyR)).map (fun p => Value.int .i64 (Go.intOf p.1)) = es.toList.map (·.key):=by
        rw [List.map_map]
        refine List.map_congr_left fun x hx => ?_
        obtain ⟨n,h3,h4⟩:=hread x hx
        simp only [Function.comp,Go.WideElems.rg,h4,Option.getD_some,Go.intOf,h3]
      rw [h1] at e3
      have e4 : ((es.toList.map (Go.WideElems.rg P k anyR)).map (fun p => Go.intOf p.1)).map (Value.int .i64) = (keysM M).map (Value.int .i64):=by rw [List.map_map]; exact e3
      exact (List.map_inj_right (fun a b e => by simpa using e)).1 e4
    rw [e2]
  · show (List.foldr DataW.insert [] (es.toList.map (Go.WideElems.rg P k anyR))).length = _
    rw [(foldr_perm _).length_eq,List.length_map]
    exact h2
def Ssorted (g : FuncId) (ty : TypeId) : FSpec:=fun args kb K => match args,kb with
  | [.fn g' [.ptr 0 0]],[.cells [.mp 1],.mp kks kagg agg sz M] => g' = g∧kks = [.i64]∧kagg = false∧KeysOk M∧(M = []→K (.any (.slice none 0 0)) [.cells [.mp 1],.mp kks kagg agg sz M]) ∧
      K (.sl 2 0 M.length) [.cells [.mp 1],.mp kks kagg agg sz M,.row ty 1 (ints .i64 (sortI (keysM M)))]
  | [.fn g' [.ptr 0 0]],[.cells [.any (.map none)]] => g' = g∧K (.any (.slice none 0 0)) [.cells [.any (.map none)]]
  | [.fn g' [.ptr 0 0]],[.cells [.imp kks kagg agg sz M]] => g' = g∧kks = [.i64]∧kagg = false∧KeysOk M∧(M = []→K (.any (.slice none 0 0)) [.cells [.imp kks kagg agg sz M]]) ∧
      K (.sl 1 0 M.length) [.cells [.imp kks kagg agg sz M],.row ty 1 (ints .i64 (sortI (keysM M)))]
  | _,_ => False
theorem sortI_perm {a b : List Int} (h : a.Perm b) : sortI a = sortI b:=mergeSort_of_perm_i h
theorem sorted_map {P : Program} {ρk ρs : Ren} (Lk : SlLaysZI.n10 P ρk) (Ls : SlLaysZI.n6 P ρs) (hs : ∀ m,AnyZI.SortsIn P ρs Fence.wide m)
    (e9 : ∀ args w,(callFunc (ρs.f 9) args).run P w = .ok (.enter (ρs.f 9) args) w) (eg : ∀ args w,(callFunc (ρk.f 10) args).run P w = .ok (.enter (ρk.f 10) args) w)
    {W : World} {E : EH} {rb b : Nat} {agg : Bool} {es : Array MapEntry} {clock : Nat} {M : ML} (hlt : rb < W.heap.size) (hcell : W.cell? ⟨rb,0,none⟩ = some (.map (some b))) (m2 : W.heap[b]? = some (.map es clock)) (m3 : EntL E [.i64] false agg es.toList M) (m4 : BornOk es.toList clock) (hM : KeysOk M) :
    Calls P (ρs.f 6) #[.func (.func (ρk.f 10)) #[] #[.pointer (some ⟨rb,0,none⟩)]] W fun e W' => ∃ v,e = .returned v∧RowKit.Below W.heap.size W W'∧((M = []∧v = .slice none 0 0) ∨
      ∃ gb cap,v = .slice (some ⟨gb,0,none⟩) M.length cap∧M.length ≤ cap∧W.heap.size ≤ gb∧HoldsO [] E W' ⟨gb,cap,1⟩ (.row (ρs.t 26) 1 (ints .i64 (sortI (keysM M))))):=by
  obtain ⟨D0,o1,o2,o3⟩:=owns_of Lk.t26 m3 m4 hM m2
  have hseq : SeqGives Fence.wide 2 P (ρk.f 10) #[.pointer (some ⟨rb,0,none⟩)] encZ (fun ss => ss.Perm (intKeys D0)) (Maps.size D0) W :=
    AnyZI.keys_gives Lk Fence.wide _ trivial rfl (by omega) rb b es.size D0 W hlt hcell o1
  have hlen:=hM.len
  have cS:=AnyZI.sorted_in Ls Fence.wide 5 trivial trivial trivial trivial rfl (by omega) (hs _) e9 (ρk.f 10) #[.pointer (some ⟨rb,0,none⟩)] trivial eg _ _ (by rw [o3]; simp only [maxLen]; omega) (by rw [o3]; omega) W hseq
  refine (callsIn_wide.1 cS).mono ?_
  rintro e W' ⟨v,ss,rfl,hS,hrow,hvn,hbl⟩
  have hp : ss.Perm (keysM M):=hS.trans o2
  have hsl : ss.length = M.length:=by rw [hp.length_eq]; unfold keysM; rw [List.length_map]
  rcases hrow.2 with ⟨rfl,hz⟩ | ⟨gb,cap,cur,rfl,hbase,hgb,c1,c2,c3,c4⟩
  · exact ⟨_,rfl,hbl,.inl ⟨List.eq_nil_of_length_eq_zero (by omega),rfl⟩⟩
  · have hss : ss.mergeSort (fun x y => decide (x ≤ y)) = sortI (keysM M):=sortI_perm hp
    have hslen : (sortI (keysM M)).length = M.length:=by rw [sortI_len]; unfold keysM; rw [List.length_map]
    refine ⟨_,rfl,hbl,.inr ⟨gb,cap,by rw [hsl],by omega,by omega,rfl,fun e he => by simp only [ints,List.mem_map] at he; obtain ⟨_,_,rfl⟩:=he; rfl,by rw [ints_len,hslen]; simp only; omega,c2,.inr ⟨cur,hgb,by simp only; omega,?_⟩⟩⟩
    rw [ints_len,hslen,← hsl]
    simp only [Nat.mul_one] at c4 ⊢
    rw [c4,hss]
    exact ints_den _
theorem sorted_none {P : Program} {ρk ρs : Ren} (Lk : SlLaysZI.n10 P ρk) (Ls : SlLaysZI.n6 P ρs) (hs : ∀ m,AnyZI.SortsIn P ρs Fence.wide m)
    (e9 : ∀ args w,(callFunc (ρs.f 9) args).run P w = .ok (.enter (ρs.f 9) args) w) (eg : ∀ args w,(callFunc (ρk.f 10) args).run P w = .ok (.enter (ρk.f 10) args) w)
    {W : World} {rb : Nat} (hlt : rb < W.heap.size) (hcell : W.cell? ⟨rb,0,none⟩ = some (.map none)) :
    Calls P (ρs.f 6) #[.func (.func (ρk.f 10)) #[] #[.pointer (some ⟨rb,0,none⟩)]] W fun e W' => e = .returned (.slice none 0 0)∧RowKit.Below W.heap.size W W':=by
  have hseq : SeqGives Fence.wide 2 P (ρk.f 10) #[.pointer (some ⟨rb,0,none⟩)] encZ (fun ss : List Int => ss = []) 0 W :=
    AnyZI.keys_gives_nil Lk Fence.wide _ trivial rfl rb W hlt hcell
  have cS:=AnyZI.sorted_in Ls Fence.wide 5 trivial trivial trivial trivial rfl (by omega) (hs _) e9 (ρk.f 10) #[.pointer (some ⟨rb,0,none⟩)] trivial eg _ 0 (Nat.zero_le _) (by omega) W hseq
  refine (callsIn_wide.1 cS).mono ?_
  rintro e W' ⟨v,ss,rfl,hS,hrow,hvn,hbl⟩
  exact ⟨by rw [hvn.2 hS],hbl⟩
theorem cell_one {σ : Sg} {E : EH} {W : World} {kb : KB} (hi : Inv σ E kb W) {r : Re} (hr : σ[0]? = some r) {v : V} (hk : kb[0]? = some (.cells [v])) (hna : ∀ m cs,v ≠ .arr m cs) : ∃ y,Den σ E v y∧W.cell? ⟨r.blk,0,none⟩ = some y∧r.blk < W.heap.size:=by
  obtain ⟨arr,ty',k1,k2⟩:=hi.obj 0 r _ hr hk
  obtain ⟨zs,zs',k3,k4,k5⟩:=k2.uncons
  simp only [DenC] at k5
  subst k5
  rcases k4 with ⟨y,rfl,_,k4⟩ | ⟨m,cs,e,_,_⟩
  · refine ⟨y,k4,?_,(Array.getElem?_eq_some_iff.1 k1).1⟩
    have : arr = #[y]:=by apply Array.ext'; rw [k3]; rfl
    rw [cell_of_heap k1,this]; rfl
  · exact (hna _ _ e).elim
theorem okSorted_of {P : Program} {ρk ρs : Ren} (Lk : SlLaysZI.n10 P ρk) (Ls : SlLaysZI.n6 P ρs) (hs : ∀ m,AnyZI.SortsIn P ρs Fence.wide m)
    (e9 : ∀ args w,(callFunc (ρs.f 9) args).run P w = .ok (.enter (ρs.f 9) args) w) (eg : ∀ args w,(callFunc (ρk.f 10) args).run P w = .ok (.enter (ρk.f 10) args) w) :
    SpecOk P (ρs.f 6) (Ssorted (ρk.f 10) (ρs.t 26)):=fun args kb K h σ E W xs hi hd => by
  unfold Ssorted at h
  split at h <;> try exact h.elim
  · rename_i g' kks kagg agg sz M
    obtain ⟨rfl,rfl,rfl,hM,hnil,h⟩:=h
    simp only [DenL,Den] at hd
    obtain ⟨x,xs',rfl,⟨vs,rfl,y,ys,rfl,⟨r,hr,rfl⟩,rfl⟩,rfl⟩:=hd
    obtain ⟨y,k4,hcell,hlt⟩:=cell_one hi hr rfl (fun _ _ e => by cases e)
    simp only [Den] at k4
    obtain ⟨r1,hr1,rfl⟩:=k4
    obtain ⟨m1,es,clock,m2,m3,m4⟩:=hi.obj 1 r1 _ hr1 rfl
    refine (sorted_map Lk Ls hs e9 eg hlt hcell m2 m3 m4 hM).mono ?_
    rintro e W' ⟨v,rfl,hbl,⟨hM0,rfl⟩ | ⟨gb,cap,rfl,c1,c2,c3⟩⟩
    · exact ⟨_,.any (.slice none 0 0),σ,E,_,rfl,hi.more hbl.os hbl.tape hbl.output hbl.size hbl.block,by simp only [Den],hnil hM0⟩
    · have hgrow:=hi.grow (W':=W') ⟨gb,cap,1⟩ (.row (ρs.t 26) 1 (ints .i64 (sortI (keysM M)))) hbl.os hbl.tape hbl.output hbl.size hbl.block (fun b hb => by have:=hb.2; simp only at this; omega) c3
      refine ⟨_,.sl 2 0 M.length,_,E,_,rfl,hgrow,?_,h⟩
      simp only [Den]
      exact ⟨⟨gb,cap,1⟩,some ⟨gb,0,none⟩,by rw [List.getElem?_append_right (by rw [hi.len]; exact Nat.le_refl _),hi.len]; rfl,rfl,Nat.zero_le _,c1,fun _ => by simp⟩
  · rename_i g'
    obtain ⟨rfl,h⟩:=h
    simp only [DenL,Den] at hd
    obtain ⟨x,xs',rfl,⟨vs,rfl,y,ys,rfl,⟨r,hr,rfl⟩,rfl⟩,rfl⟩:=hd
    obtain ⟨y,k4,hcell,hlt⟩:=cell_one hi hr rfl (fun _ _ e => by cases e)
    simp only [Den] at k4
    subst k4
    refine (sorted_none Lk Ls hs e9 eg hlt hcell).mono ?_
    rintro e W' ⟨rfl,hbl⟩
    exact ⟨_,.any (.slice none 0 0),σ,E,_,rfl,hi.more hbl.os hbl.tape hbl.output hbl.size hbl.block,by simp only [Den],h⟩
  · rename_i g' kks kagg agg sz M
    obtain ⟨rfl,rfl,rfl,hM,hnil,h⟩:=h
    simp only [DenL,Den] at hd
    obtain ⟨x,xs',rfl,⟨vs,rfl,y,ys,rfl,⟨r,hr,rfl⟩,rfl⟩,rfl⟩:=hd
    obtain ⟨y,k4,hcell,hlt⟩:=cell_one hi hr rfl (fun _ _ e => by cases e)
    simp only [Den] at k4
    obtain ⟨a,rfl,ha⟩:=k4
    cases a with
    | none =>
      refine (sorted_none Lk Ls hs e9 eg hlt hcell).mono ?_
      rintro e W' ⟨rfl,hbl⟩
      exact ⟨_,.any (.slice none 0 0),σ,E,_,rfl,hi.more hbl.os hbl.tape hbl.output hbl.size hbl.block,by simp only [Den],hnil ha⟩
    | some b =>
      obtain ⟨m1,es,clock,m2,m3,m4⟩:=ha
      refine (sorted_map Lk Ls hs e9 eg hlt hcell (hi.imm b _ m2) m3 m4 hM).mono ?_
      rintro e W' ⟨v,rfl,hbl,⟨hM0,rfl⟩ | ⟨gb,cap,rfl,c1,c2,c3⟩⟩
      · exact ⟨_,.any (.slice none 0 0),σ,E,_,rfl,hi.more hbl.os hbl.tape hbl.output hbl.size hbl.block,by simp only [Den],hnil hM0⟩
      · have hgrow:=hi.grow (W':=W') ⟨gb,cap,1⟩ (.row (ρs.t 26) 1 (ints .i64 (sortI (keysM M)))) hbl.os hbl.tape hbl.output hbl.size hbl.block (fun b hb => by have:=hb.2; simp only at this; omega) c3
        refine ⟨_,.sl 1 0 M.length,_,E,_,rfl,hgrow,?_,h⟩
        simp only [Den]
        exact ⟨⟨gb,cap,1⟩,some ⟨gb,0,none⟩,by rw [List.getElem?_append_right (by rw [hi.len]; exact Nat.le_refl _),hi.len]; rfl,rfl,Nat.zero_le _,c1,fun _ => by simp⟩
end Vc
