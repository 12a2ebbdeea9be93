import Derived.WalkKit
import Derived.Orders
import Derived.Deep.AppendSrc
import Derived.Laws.StructEq
import Derived.Laws.Tables
set_option linter.unusedSimpArgs false
set_option linter.unusedVariables false
namespace Vc
open Go
inductive D where
  | val (v : Value)
  | sl (sz : Nat) (l : List (List D))
  deriving Inhabited
abbrev EH:=Nat→Option Obj
def EH.cell (E : EH) (b o : Nat) : Option Value :=
  match E b with
  | some (.cells c _ _) => c[o]?
  | _ => none
def EH.le (E E' : EH) : Prop:=∀ b o,E b = some o→E' b = some o
theorem EH.le.refl (E : EH) : E.le E:=fun _ _ h => h
theorem EH.le.trans {A B C : EH} (h : A.le B) (k : B.le C) : A.le C:=fun b o x => k b o (h b o x)
theorem EH.le.cell {E E' : EH} (h : E.le E') {b o : Nat} {v : Value} (hc : E.cell b o = some v) : E'.cell b o = some v:=by
  unfold EH.cell at *
  cases hb : E b with
  | none => simp [hb] at hc
  | some x => rw [h b x hb]; rw [hb] at hc; exact hc
mutual
def RepD (E : EH) : D→Value→Prop
  | .val v,x => x = v∧v.oneCell' = true
  | .sl sz l,x => ∃ a cap,x = .slice a l.length cap∧l.length ≤ cap∧(l.length = 0∨∃ b off,a = some ⟨b,off,none⟩∧RepL E sz l b off)
def RepC (E : EH) : List D→Nat→Nat→Prop
  | [],_,_ => True
  | c :: cs,b,off => (∃ v,E.cell b off = some v∧RepD E c v)∧RepC E cs b (off + 1)
def RepL (E : EH) (sz : Nat) : List (List D)→Nat→Nat→Prop
  | [],_,_ => True
  | e :: l,b,off => (e.length = sz∧RepC E e b off)∧RepL E sz l b (off + sz)
end
mutual
theorem RepD.mono {E E' : EH} (h : E.le E') : ∀ {d : D} {v : Value},RepD E d v→RepD E' d v
  | .val _,_,hr => by simpa [RepD] using hr
  | .sl sz l,x,hr => by
    simp only [RepD] at hr ⊢
    obtain ⟨a,cap,h1,h2,h3⟩:=hr
    exact ⟨a,cap,h1,h2,h3.elim .inl (fun ⟨b,off,e,r⟩ => .inr ⟨b,off,e,RepL.mono h r⟩)⟩
theorem RepC.mono {E E' : EH} (h : E.le E') : ∀ {cs : List D} {b off : Nat},RepC E cs b off→RepC E' cs b off
  | [],_,_,_ => by simp [RepC]
  | c :: cs,b,off,hr => by
    simp only [RepC] at hr ⊢
    obtain ⟨⟨v,h1,h2⟩,h3⟩:=hr
    exact ⟨⟨v,h.cell h1,RepD.mono h h2⟩,RepC.mono h h3⟩
theorem RepL.mono {E E' : EH} (h : E.le E') : ∀ {sz : Nat} {l : List (List D)} {b off : Nat},RepL E sz l b off→RepL E' sz l b off
  | _,[],_,_,_ => by simp [RepL]
  | sz,e :: l,b,off,hr => by
    simp only [RepL] at hr ⊢
    exact ⟨⟨hr.1.1,RepC.mono h hr.1.2⟩,RepL.mono h hr.2⟩
end
theorem RepD.one {E : EH} {d : D} {v : Value} (h : RepD E d v) : v.oneCell' = true:=by
  cases d with
  | val w => simp only [RepD] at h; rw [h.1]; exact h.2
  | sl sz l => simp only [RepD] at h; obtain ⟨a,cap,rfl,_⟩:=h; rfl
theorem RepC.at {E : EH} : ∀ {cs : List D} {b off : Nat},RepC E cs b off→∀ {j : Nat} {d : D},cs[j]? = some d→∃ v,E.cell b (off + j) = some v∧RepD E d v
  | [],_,_,_,_,_,h => by simp at h
  | c :: cs,b,off,hr,j,d,h => by
    simp only [RepC] at hr
    cases j with
    | zero => simp at h; subst h; exact hr.1
    | succ j =>
      obtain ⟨v,h1,h2⟩:=RepC.at hr.2 (j:=j) (by simpa using h)
      exact ⟨v,by rw [show off + (j + 1) = off + 1 + j by omega]; exact h1,h2⟩
theorem RepC.of_at {E : EH} : ∀ {cs : List D} {b off : Nat},(∀ (j : Nat) (d : D),cs[j]? = some d→∃ v,E.cell b (off + j) = some v∧RepD E d v)→RepC E cs b off
  | [],_,_,_ => by simp [RepC]
  | c :: cs,b,off,h => by
    simp only [RepC]
    refine ⟨by simpa using h 0 c rfl,RepC.of_at fun j d hj => ?_⟩
    have:=h (j + 1) d (by simpa using hj)
    rwa [show off + 1 + j = off + (j + 1) by omega]
theorem RepC.sub {E : EH} {cs : List D} {b off : Nat} (h : RepC E cs b off) (k m : Nat) : RepC E ((cs.drop k).take m) b (off + k) :=
  RepC.of_at fun j d hj => by
    have hj' : cs[k + j]? = some d:=by
      rw [← List.getElem?_drop]
      have hlt : j < m:=by
        have:=(List.getElem?_eq_some_iff.1 hj).1
        simp only [List.length_take] at this
        omega
      rwa [List.getElem?_take_of_lt hlt] at hj
    have:=h.at hj'
    rwa [Nat.add_assoc]
theorem RepC.append {E : EH} {cs ds : List D} {b off : Nat} (h : RepC E cs b off) (k : RepC E ds b (off + cs.length)) : RepC E (cs ++ ds) b off :=
  RepC.of_at fun j d hj => by
    rcases Nat.lt_or_ge j cs.length with hl | hl
    · rw [List.getElem?_append_left hl] at hj; exact h.at hj
    · rw [List.getElem?_append_right hl] at hj
      have:=k.at hj
      rwa [show off + cs.length + (j - cs.length) = off + j by omega] at this
def wl (sz : Nat) (l : List (List D)) : Prop:=∀ e ∈ l,e.length = sz
theorem wl.append {sz : Nat} {l m : List (List D)} (h : wl sz l) (k : wl sz m) : wl sz (l ++ m):=fun e he => by
  rcases List.mem_append.1 he with h1 | h1
  · exact h e h1
  · exact k e h1
theorem wl.take {sz : Nat} {l : List (List D)} (h : wl sz l) (n : Nat) : wl sz (l.take n):=fun e he => h e (List.mem_of_mem_take he)
theorem wl.drop {sz : Nat} {l : List (List D)} (h : wl sz l) (n : Nat) : wl sz (l.drop n):=fun e he => h e (List.mem_of_mem_drop he)
theorem wl.nil {sz : Nat} : wl sz []:=fun e he => by cases he
theorem wl.set {sz : Nat} {l : List (List D)} (h : wl sz l) (n : Nat) {e : List D} (he : e.length = sz) : wl sz (l.set n e):=fun x hx => by
  rcases List.mem_or_eq_of_mem_set hx with h2 | h2
  · exact h x h2
  · rw [h2]; exact he
theorem wl.cons {sz : Nat} {e : List D} {l : List (List D)} (h : wl sz (e :: l)) : wl sz l:=fun x hx => h x (List.mem_cons_of_mem _ hx)
theorem flat_len {α : Type} {sz : Nat} : ∀ {l : List (List α)},(∀ e ∈ l,e.length = sz)→l.flatten.length = l.length * sz
  | [],_ => by simp
  | e :: l,h => by
    rw [List.flatten_cons,List.length_append,flat_len (fun x hx => h x (List.mem_cons_of_mem _ hx)),h e (by simp),List.length_cons,Nat.succ_mul]; omega
theorem flat_at {α : Type} {sz : Nat} : ∀ {l : List (List α)},(∀ e ∈ l,e.length = sz)→∀ {i j : Nat} {e : List α} {c : α},l[i]? = some e→e[j]? = some c→l.flatten[i * sz + j]? = some c
  | [],_,_,_,_,_,h,_ => by simp at h
  | a :: l,hs,0,j,e,c,h,k => by
    simp at h; subst h
    rw [List.flatten_cons,Nat.zero_mul,Nat.zero_add,List.getElem?_append_left (List.getElem?_eq_some_iff.1 k).1]; exact k
  | a :: l,hs,i + 1,j,e,c,h,k => by
    have ha:=hs a (by simp)
    rw [List.flatten_cons,show (i + 1) * sz + j = a.length + (i * sz + j) by rw [Nat.succ_mul,ha]; omega,List.getElem?_append_right (by omega),Nat.add_sub_cancel_left]
    exact flat_at (fun x hx => hs x (List.mem_cons_of_mem _ hx)) (by simpa using h) k
theorem flat_drop {α : Type} {sz : Nat} : ∀ {l : List (List α)},(∀ e ∈ l,e.length = sz)→∀ n,(l.drop n).flatten = l.flatten.drop (n * sz)
  | _,_,0 => by simp
  | [],_,n + 1 => by simp
  | c :: l,hs,n + 1 => by
    have hc : c.length = sz:=hs c (by simp)
    rw [List.drop_succ_cons,List.flatten_cons,show (n + 1) * sz = c.length + n * sz by rw [Nat.succ_mul,hc]; omega,List.drop_length_add_append]
    exact flat_drop (fun e he => hs e (List.mem_cons_of_mem _ he)) n
theorem flat_take {α : Type} {sz : Nat} : ∀ {l : List (List α)},(∀ e ∈ l,e.length = sz)→∀ n,(l.take n).flatten = l.flatten.take (n * sz)
  | _,_,0 => by simp
  | [],_,n + 1 => by simp
  | c :: l,hs,n + 1 => by
    have hc : c.length = sz:=hs c (by simp)
    rw [List.take_succ_cons,List.flatten_cons,List.flatten_cons,show (n + 1) * sz = c.length + n * sz by rw [Nat.succ_mul,hc]; omega,List.take_length_add_append]
    rw [flat_take (fun e he => hs e (List.mem_cons_of_mem _ he)) n]
theorem flat_sub {α : Type} {sz : Nat} : ∀ {l : List (List α)},(∀ e ∈ l,e.length = sz)→∀ {ix : Nat} {e : List α},l[ix]? = some e→(l.flatten.drop (ix * sz)).take sz = e
  | [],_,_,_,h => by simp at h
  | c :: l,hs,0,e,h => by
    have hc : c.length = sz:=hs c (by simp)
    simp at h; subst h
    simp [← hc]
  | c :: l,hs,ix + 1,e,h => by
    have hc : c.length = sz:=hs c (by simp)
    rw [List.flatten_cons,show (ix + 1) * sz = c.length + ix * sz by rw [Nat.succ_mul,hc]; omega,List.drop_length_add_append]
    exact flat_sub (fun e he => hs e (List.mem_cons_of_mem _ he)) (by simpa using h)
theorem RepL.wl {E : EH} : ∀ {sz : Nat} {l : List (List D)} {b off : Nat},RepL E sz l b off→Vc.wl sz l
  | _,[],_,_,_ => wl.nil
  | sz,e :: l,b,off,h => by
    simp only [RepL] at h
    intro x hx
    rcases List.mem_cons.1 hx with rfl | hx
    · exact h.1.1
    · exact RepL.wl h.2 x hx
theorem RepL.flat {E : EH} : ∀ {sz : Nat} {l : List (List D)} {b off : Nat},RepL E sz l b off→RepC E l.flatten b off
  | _,[],_,_,_ => by simp [RepC]
  | sz,e :: l,b,off,h => by
    simp only [RepL] at h
    rw [List.flatten_cons]
    exact h.1.2.append (by rw [h.1.1]; exact RepL.flat h.2)
theorem RepL.of_flat {E : EH} : ∀ {sz : Nat} {l : List (List D)} {b off : Nat},Vc.wl sz l→RepC E l.flatten b off→RepL E sz l b off
  | _,[],_,_,_,_ => by simp [RepL]
  | sz,e :: l,b,off,hw,h => by
    simp only [RepL]
    have he:=hw e (by simp)
    rw [List.flatten_cons] at h
    refine ⟨⟨he,?_⟩,RepL.of_flat hw.cons ?_⟩
    · have:=h.sub 0 e.length
      rw [List.drop_zero,List.take_left] at this
      exact this
    · have:=h.sub e.length l.flatten.length
      rw [List.drop_left,List.take_length,he] at this
      exact this
def DenD (E : EH) : List D→List Value→Prop
  | [],xs => xs = []
  | d :: ds,xs => ∃ x xs',xs = x :: xs'∧RepD E d x∧DenD E ds xs'
theorem DenD.len {E : EH} : ∀ {ds : List D} {xs : List Value},DenD E ds xs→xs.length = ds.length
  | [],_,h => by simp only [DenD] at h; simp [h]
  | d :: ds,_,h => by simp only [DenD] at h; obtain ⟨x,xs',rfl,_,h2⟩:=h; simp [DenD.len h2]
theorem DenD.mono {E E' : EH} (hE : E.le E') : ∀ {ds : List D} {xs : List Value},DenD E ds xs→DenD E' ds xs
  | [],_,h => by simpa only [DenD] using h
  | d :: ds,_,h => by simp only [DenD] at h ⊢; obtain ⟨x,xs',h0,h1,h2⟩:=h; exact ⟨x,xs',h0,h1.mono hE,h2.mono hE⟩
theorem DenD.nil {E : EH} : DenD E [] []:=by simp [DenD]
theorem DenD.cons {E : EH} {d : D} {x : Value} {ds : List D} {xs : List Value} (h : RepD E d x) (k : DenD E ds xs) : DenD E (d :: ds) (x :: xs):=by
  simp only [DenD]; exact ⟨x,xs,rfl,h,k⟩
theorem DenD.get {E : EH} : ∀ {ds : List D} {xs : List Value},DenD E ds xs→∀ {i : Nat} {d : D},ds[i]? = some d→∃ x,xs[i]? = some x∧RepD E d x
  | [],_,_,_,_,hv => by simp at hv
  | c :: ds,_,h,i,d,hv => by
    simp only [DenD] at h
    obtain ⟨x,xs',rfl,h1,h2⟩:=h
    cases i with
    | zero => simp at hv; subst hv; exact ⟨x,rfl,h1⟩
    | succ i => simpa using DenD.get h2 (i:=i) (by simpa using hv)
theorem DenD.get' {E : EH} {ds : List D} {xs : List Value} (h : DenD E ds xs) {i : Nat} {x : Value} (hx : xs[i]? = some x) : ∃ d,ds[i]? = some d∧RepD E d x:=by
  have hi:=(List.getElem?_eq_some_iff.1 hx).1
  rw [h.len] at hi
  obtain ⟨y,hy,hd⟩:=h.get (List.getElem?_eq_getElem hi)
  rw [hx] at hy; cases hy
  exact ⟨_,List.getElem?_eq_getElem hi,hd⟩
theorem DenD.one {E : EH} {ds : List D} {xs : List Value} (h : DenD E ds xs) : ∀ c ∈ xs,c.oneCell' = true:=fun c hc => by
  obtain ⟨i,hi⟩:=List.getElem?_of_mem hc
  obtain ⟨d,_,hd⟩:=h.get' hi
  exact hd.one
theorem DenD.append {E : EH} : ∀ {ds : List D} {xs : List Value},DenD E ds xs→∀ {es : List D} {ys : List Value},DenD E es ys→DenD E (ds ++ es) (xs ++ ys)
  | [],_,h,_,_,k => by simp only [DenD] at h; simpa [h] using k
  | d :: ds,_,h,_,_,k => by
    simp only [DenD] at h
    obtain ⟨x,xs',rfl,h1,h2⟩:=h
    exact .cons h1 (h2.append k)
theorem DenD.drop {E : EH} : ∀ {ds : List D} {xs : List Value},DenD E ds xs→∀ n,DenD E (ds.drop n) (xs.drop n)
  | _,_,h,0 => by simpa using h
  | [],_,h,n + 1 => by simp only [DenD] at h; simp [h,DenD]
  | d :: ds,_,h,n + 1 => by
    simp only [DenD] at h
    obtain ⟨x,xs',rfl,_,h2⟩:=h
    simpa using h2.drop n
theorem DenD.take {E : EH} : ∀ {ds : List D} {xs : List Value},DenD E ds xs→∀ n,DenD E (ds.take n) (xs.take n)
  | _,_,_,0 => by simp [DenD]
  | [],_,h,n + 1 => by simp only [DenD] at h; simp [h,DenD]
  | d :: ds,_,h,n + 1 => by
    simp only [DenD] at h
    obtain ⟨x,xs',rfl,h1,h2⟩:=h
    simp only [List.take_succ_cons]
    exact .cons h1 (h2.take n)
theorem DenD.split {E : EH} {ds es : List D} {xs : List Value} (h : DenD E (ds ++ es) xs) : ∃ ys zs,xs = ys ++ zs∧DenD E ds ys∧DenD E es zs:=by
  refine ⟨xs.take ds.length,xs.drop ds.length,(List.take_append_drop _ _).symm,?_,?_⟩
  · have:=h.take ds.length
    rwa [List.take_left] at this
  · have:=h.drop ds.length
    rwa [List.drop_left] at this
theorem DenD.rep {E : EH} {ds : List D} {xs : List Value} (h : DenD E ds xs) {b off : Nat} (hc : ∀ (j : Nat) (x : Value),xs[j]? = some x→E.cell b (off + j) = some x) : RepC E ds b off :=
  RepC.of_at fun j d hj => by
    obtain ⟨x,h1,h2⟩:=h.get hj
    exact ⟨x,hc j x h1,h2⟩
theorem RepC.denD {E : EH} : ∀ {ds : List D} {b off : Nat},RepC E ds b off→∃ xs,DenD E ds xs∧∀ (j : Nat) (x : Value),xs[j]? = some x→E.cell b (off + j) = some x
  | [],b,off,_ => ⟨[],.nil,by simp⟩
  | d :: ds,b,off,h => by
    simp only [RepC] at h
    obtain ⟨⟨v,h1,h2⟩,h3⟩:=h
    obtain ⟨xs,h4,h5⟩:=h3.denD
    refine ⟨v :: xs,.cons h2 h4,fun j x hj => ?_⟩
    cases j with
    | zero => simp at hj; subst hj; exact h1
    | succ j => rw [show off + (j + 1) = off + 1 + j by omega]; exact h5 j x (by simpa using hj)
theorem DenD.replicate {E : EH} {d : D} {x : Value} (h : RepD E d x) : ∀ n,DenD E (List.replicate n d) (List.replicate n x)
  | 0 => .nil
  | n + 1 => by rw [List.replicate_succ,List.replicate_succ]; exact .cons h (DenD.replicate h n)
def splice {α : Type} (l : List α) (off : Nat) (vs : List α) : List α:=l.take off ++ vs ++ l.drop (off + vs.length)
theorem splice_len {α : Type} {l : List α} {off : Nat} {vs : List α} (h : off + vs.length ≤ l.length) : (splice l off vs).length = l.length:=by
  simp [splice]; omega
theorem DenD.splice {E : EH} {ds es : List D} {xs ys : List Value} (h : DenD E ds xs) (k : DenD E es ys) (off : Nat) : DenD E (Vc.splice ds off es) (Vc.splice xs off ys):=by
  unfold Vc.splice
  rw [k.len]
  exact ((h.take off).append k).append (h.drop _)
def cellV (agg : Bool) (cs : List Value) : Value:=if agg then .agg cs.toArray else cs.getD 0 undef
def keyC (kks : List IntKind) (k : List Int) : List Value:=List.zipWith Value.int kks k
def EntL (E : EH) (kks : List IntKind) (kagg agg : Bool) : List MapEntry→List (List Int × List D)→Prop
  | [],l => l = []
  | e :: es,l => ∃ k c l',l = (k,c) :: l'∧(k.length = kks.length∧e.key = cellV kagg (keyC kks k)∧∃ ys,e.val = cellV agg ys∧DenD E c ys)∧EntL E kks kagg agg es l'
theorem EntL.mono {E E' : EH} (hE : E.le E') {kks : List IntKind} {kagg agg : Bool} : ∀ {es : List MapEntry} {l : List (List Int × List D)},EntL E kks kagg agg es l→EntL E' kks kagg agg es l
  | [],_,h => by simpa only [EntL] using h
  | e :: es,_,h => by
    simp only [EntL] at h ⊢
    obtain ⟨k,c,l',h0,⟨h1,h1',ys,h2,h3⟩,h4⟩:=h
    exact ⟨k,c,l',h0,⟨h1,h1',ys,h2,h3.mono hE⟩,h4.mono hE⟩
theorem EntL.len {E : EH} {kks : List IntKind} {kagg agg : Bool} : ∀ {es : List MapEntry} {l : List (List Int × List D)},EntL E kks kagg agg es l→es.length = l.length
  | [],_,h => by simp only [EntL] at h; simp [h]
  | e :: es,_,h => by
    simp only [EntL] at h
    obtain ⟨k,c,l',rfl,_,h4⟩:=h
    simp [h4.len]
def BornOk (es : List MapEntry) (clock : Nat) : Prop:=(es.map (·.born)).Nodup∧∀ e ∈ es,e.born < clock
def ImpOk (E : EH) (kks : List IntKind) (kagg agg : Bool) (sz : Nat) (a : Option Nat) (l : List (List Int × List D)) : Prop:=match a with
  | none => l = []
  | some b => wl sz (l.map (·.2))∧∃ es clock,E b = some (.map es clock)∧EntL E kks kagg agg es.toList l∧BornOk es.toList clock
theorem ImpOk.mono {E E' : EH} (hE : E.le E') {kks : List IntKind} {kagg agg : Bool} {sz : Nat} {a : Option Nat} {l : List (List Int × List D)} (h : ImpOk E kks kagg agg sz a l) : ImpOk E' kks kagg agg sz a l:=by
  cases a with
  | none => exact h
  | some b =>
    obtain ⟨h1,es,clock,h2,h3,h4⟩:=h
    exact ⟨h1,es,clock,hE _ _ h2,h3.mono hE,h4⟩
def IpoOk (E : EH) (o : Option (List D)) (x : Value) : Prop:=(o = none∧x = .pointer none)∨∃ e b,o = some e∧x = .pointer (some ⟨b,0,none⟩)∧RepC E e b 0
theorem IpoOk.mono {E E' : EH} (hE : E.le E') {o : Option (List D)} {x : Value} (h : IpoOk E o x) : IpoOk E' o x:=h.elim .inl fun ⟨e,b,h1,h2,h3⟩ => .inr ⟨e,b,h1,h2,RepC.mono hE h3⟩
inductive V where
  | any (v : Value)
  | int (k : IntKind) (n : Int)
  | lit (k : IntKind) (n : Int)
  | sb (b : Bool)
  | tt
  | ff
  | ptr (i off : Nat)
  | pa (i base o : Nat)
  | sl (i lo hi : Nat)
  | pe (i ix fld : Nat)
  | pw (i ix : Nat)
  | e0
  | sa (i base o s n c : Nat)
  | se (i ix o s n c : Nat)
  | dat (d : D)
  | ipe (e : List D) (fld : Nat)
  | ipo (o : Option (List D))
  | imp (kks : List IntKind) (kagg agg : Bool) (sz : Nat) (l : List (List Int × List D))
  | agg (l : List V)
  | tup (l : List V)
  | fn (f : FuncId) (cap : List V)
  | mp (i : Nat)
  | ch (i : Nat)
  | arr (m : Nat) (cs : List D)
  deriving Inhabited
structure Re where
  blk : Nat
  cap : Nat
  sz : Nat
abbrev Sg:=List Re
inductive KO where
  | cells (l : List V)
  | row (ty : TypeId) (sz : Nat) (l : List (List D))
  | mp (kks : List IntKind) (kagg : Bool) (agg : Bool) (sz : Nat) (l : List (List Int × List D))
  | ch (agg : Bool) (sz cap : Nat) (l : List (List D))
  | objs (A : List (List Re × List KO))
  | obj1 (a : List Re × List KO)
  | dead
  deriving Inhabited
abbrev KB:=List KO
mutual
def Den (σ : Sg) (E : EH) : V→Value→Prop
  | .any v,x => x = v
  | .int k n,x => x = .int k n
  | .lit k n,x => x = .int k n
  | .sb b,x => x = .bool b
  | .tt,x => x = .bool true
  | .ff,x => x = .bool false
  | .ptr i off,x => ∃ r,σ[i]? = some r∧x = .pointer (some ⟨r.blk,off,none⟩)
  | .pa i base o,x => ∃ r,σ[i]? = some r∧x = .pointer (some ⟨r.blk,base + o,none⟩)
  | .sl i lo hi,x => ∃ r a,σ[i]? = some r∧x = .slice a (hi - lo) (r.cap - lo)∧lo ≤ hi∧hi ≤ r.cap∧(lo < r.cap→a = some ⟨r.blk,lo * r.sz,none⟩)
  | .pe i ix fld,x => ∃ r,σ[i]? = some r∧x = .pointer (some ⟨r.blk,ix * r.sz + fld,none⟩)
  | .pw i ix,x => ∃ r,σ[i]? = some r∧x = .pointer (some ⟨r.blk,ix * r.sz,none⟩)
  | .e0,x => ∃ a,x = .slice a 0 0
  | .sa i base o s n c,x => ∃ r a,σ[i]? = some r∧x = .slice a n c∧n ≤ c∧(0 < c→a = some ⟨r.blk,base + o,none⟩)
  | .se i ix o s n c,x => ∃ r a,σ[i]? = some r∧x = .slice a n c∧n ≤ c∧(0 < c→a = some ⟨r.blk,ix * r.sz + o,none⟩)
  | .dat d,x => RepD E d x
  | .ipe e fld,x => ∃ b off,x = .pointer (some ⟨b,off + fld,none⟩)∧RepC E e b off
  | .ipo o,x => IpoOk E o x
  | .imp kks kagg agg sz l,x => ∃ a,x = .map a∧ImpOk E kks kagg agg sz a l
  | .agg l,x => ∃ vs,x = .agg vs.toArray∧DenC σ E l vs
  | .tup l,x => ∃ vs,x = .tuple vs.toArray∧DenL σ E l vs
  | .fn f cap,x => ∃ vs,x = .func (.func f) #[] vs.toArray∧DenL σ E cap vs
  | .mp i,x => ∃ r,σ[i]? = some r∧x = .map (some r.blk)
  | .ch i,x => ∃ r,σ[i]? = some r∧x = .chan (some r.blk)
  | .arr _ _,_ => False
def DenL (σ : Sg) (E : EH) : List V→List Value→Prop
  | [],xs => xs = []
  | v :: vs,xs => ∃ x xs',xs = x :: xs'∧Den σ E v x∧DenL σ E vs xs'
def DenC (σ : Sg) (E : EH) : List V→List Value→Prop
  | [],xs => xs = []
  | v :: vs,xs => ∃ ys zs,xs = ys ++ zs∧((∃ y,ys = [y]∧y.oneCell' = true∧Den σ E v y)∨(∃ m cs,v = .arr m cs∧cs.length = m∧DenD E cs ys))∧DenC σ E vs zs
end
def DenP1 (σ : Sg) (E : EH) (v : V) (ys : List Value) : Prop:=(∃ y,ys = [y]∧y.oneCell' = true∧Den σ E v y)∨(∃ m cs,v = .arr m cs∧cs.length = m∧DenD E cs ys)
theorem sg_ext {σ τ : Sg} {i : Nat} {r : Re} (h : σ[i]? = some r) : (σ ++ τ)[i]? = some r:=by
  have hi : i < σ.length:=by
    rcases Nat.lt_or_ge i σ.length with h' | h'
    · exact h'
    · simp [List.getElem?_eq_none h'] at h
  rw [List.getElem?_append_left hi]; exact h
mutual
theorem Den.mono {σ τ : Sg} {E E' : EH} (h : E.le E') : ∀ {v : V} {x : Value},Den σ E v x→Den (σ ++ τ) E' v x
  | .any _,_,hd | .int ..,_,hd | .lit ..,_,hd | .sb _,_,hd | .tt,_,hd | .ff,_,hd | .e0,_,hd => by simpa [Den] using hd
  | .arr ..,_,hd => by simp only [Den] at hd
  | .ptr i off,_,hd => by simp only [Den] at hd ⊢; obtain ⟨r,h1,h2⟩:=hd; exact ⟨r,sg_ext h1,h2⟩
  | .pa i base o,_,hd => by simp only [Den] at hd ⊢; obtain ⟨r,h1,h2⟩:=hd; exact ⟨r,sg_ext h1,h2⟩
  | .mp i,_,hd => by simp only [Den] at hd ⊢; obtain ⟨r,h1,h2⟩:=hd; exact ⟨r,sg_ext h1,h2⟩
  | .ch i,_,hd => by simp only [Den] at hd ⊢; obtain ⟨r,h1,h2⟩:=hd; exact ⟨r,sg_ext h1,h2⟩
  | .sl i lo hi,_,hd => by simp only [Den] at hd ⊢; obtain ⟨r,a,h1,h2⟩:=hd; exact ⟨r,a,sg_ext h1,h2⟩
  | .sa ..,_,hd => by simp only [Den] at hd ⊢; obtain ⟨r,a,h1,h2⟩:=hd; exact ⟨r,a,sg_ext h1,h2⟩
  | .se ..,_,hd => by simp only [Den] at hd ⊢; obtain ⟨r,a,h1,h2⟩:=hd; exact ⟨r,a,sg_ext h1,h2⟩
  | .pe i ix fld,_,hd => by simp only [Den] at hd ⊢; obtain ⟨r,h1,h2⟩:=hd; exact ⟨r,sg_ext h1,h2⟩
  | .pw i ix,_,hd => by simp only [Den] at hd ⊢; obtain ⟨r,h1,h2⟩:=hd; exact ⟨r,sg_ext h1,h2⟩
  | .ipe e fld,_,hd => by simp only [Den] at hd ⊢; obtain ⟨b,off,h1,h2⟩:=hd; exact ⟨b,off,h1,RepC.mono h h2⟩
  | .ipo o,_,hd => by simp only [Den] at hd ⊢; exact hd.mono h
  | .imp ..,_,hd => by simp only [Den] at hd ⊢; obtain ⟨a,h1,h2⟩:=hd; exact ⟨a,h1,h2.mono h⟩
  | .dat d,_,hd => by simp only [Den] at hd ⊢; exact RepD.mono h hd
  | .agg l,_,hd => by simp only [Den] at hd ⊢; obtain ⟨vs,h1,h2⟩:=hd; exact ⟨vs,h1,DenC.mono h h2⟩
  | .tup l,_,hd => by simp only [Den] at hd ⊢; obtain ⟨vs,h1,h2⟩:=hd; exact ⟨vs,h1,DenL.mono h h2⟩
  | .fn f cap,_,hd => by simp only [Den] at hd ⊢; obtain ⟨vs,h1,h2⟩:=hd; exact ⟨vs,h1,DenL.mono h h2⟩
theorem DenL.mono {σ τ : Sg} {E E' : EH} (h : E.le E') : ∀ {vs : List V} {xs : List Value},DenL σ E vs xs→DenL (σ ++ τ) E' vs xs
  | [],_,hd => by simpa [DenL] using hd
  | v :: vs,_,hd => by
    simp only [DenL] at hd ⊢
    obtain ⟨x,xs',h1,h2,h3⟩:=hd
    exact ⟨x,xs',h1,Den.mono h h2,DenL.mono h h3⟩
theorem DenC.mono {σ τ : Sg} {E E' : EH} (h : E.le E') : ∀ {vs : List V} {xs : List Value},DenC σ E vs xs→DenC (σ ++ τ) E' vs xs
  | [],_,hd => by simpa [DenC] using hd
  | v :: vs,_,hd => by
    simp only [DenC] at hd ⊢
    obtain ⟨ys,zs,h1,h2,h3⟩:=hd
    refine ⟨ys,zs,h1,?_,DenC.mono h h3⟩
    rcases h2 with ⟨y,e,o,hy⟩ | ⟨m,cs,e,hl,hd⟩
    · exact .inl ⟨y,e,o,Den.mono h hy⟩
    · exact .inr ⟨m,cs,e,hl,hd.mono h⟩
end
theorem DenL.len {σ : Sg} {E : EH} : ∀ {vs : List V} {xs : List Value},DenL σ E vs xs→xs.length = vs.length
  | [],_,h => by simp only [DenL] at h; simp [h]
  | v :: vs,_,h => by
    simp only [DenL] at h
    obtain ⟨x,xs',rfl,_,h2⟩:=h
    simp [DenL.len h2]
theorem DenL.get {σ : Sg} {E : EH} : ∀ {vs : List V} {xs : List Value},DenL σ E vs xs→∀ {i : Nat} {v : V},vs[i]? = some v→∃ x,xs[i]? = some x∧Den σ E v x
  | [],_,_,_,_,hv => by simp at hv
  | v :: vs,_,h,i,u,hv => by
    simp only [DenL] at h
    obtain ⟨x,xs',rfl,h1,h2⟩:=h
    cases i with
    | zero => simp at hv; subst hv; exact ⟨x,rfl,h1⟩
    | succ i => simpa using DenL.get h2 (i:=i) (by simpa using hv)
theorem DenL.append {σ : Sg} {E : EH} : ∀ {vs : List V} {xs : List Value},DenL σ E vs xs→∀ {us : List V} {ys : List Value},DenL σ E us ys→DenL σ E (vs ++ us) (xs ++ ys)
  | [],_,h,_,_,hu => by simp only [DenL] at h; simpa [h] using hu
  | v :: vs,_,h,_,_,hu => by
    simp only [DenL] at h
    obtain ⟨x,xs',rfl,h1,h2⟩:=h
    simp only [List.cons_append,DenL]
    exact ⟨x,xs' ++ _,rfl,h1,h2.append hu⟩
theorem DenL.nil {σ : Sg} {E : EH} : DenL σ E [] []:=by simp [DenL]
theorem DenL.cons {σ : Sg} {E : EH} {v : V} {x : Value} {vs : List V} {xs : List Value} (h : Den σ E v x) (k : DenL σ E vs xs) : DenL σ E (v :: vs) (x :: xs):=by
  simp only [DenL]; exact ⟨x,xs,rfl,h,k⟩
theorem DenC.nil {σ : Sg} {E : EH} : DenC σ E [] []:=by simp [DenC]
theorem DenC.cons {σ : Sg} {E : EH} {v : V} {ys : List Value} {vs : List V} {xs : List Value} (h : DenP1 σ E v ys) (k : DenC σ E vs xs) : DenC σ E (v :: vs) (ys ++ xs):=by
  simp only [DenC]; exact ⟨ys,xs,rfl,h,k⟩
theorem DenC.cons1 {σ : Sg} {E : EH} {v : V} {y : Value} {vs : List V} {xs : List Value} (h : Den σ E v y) (h1 : y.oneCell' = true) (k : DenC σ E vs xs) : DenC σ E (v :: vs) (y :: xs) :=
  DenC.cons (ys:=[y]) (.inl ⟨y,rfl,h1,h⟩) k
theorem DenC.uncons {σ : Sg} {E : EH} {v : V} {vs : List V} {xs : List Value} (h : DenC σ E (v :: vs) xs) : ∃ ys zs,xs = ys ++ zs∧DenP1 σ E v ys∧DenC σ E vs zs:=by
  simp only [DenC] at h; exact h
theorem DenC.append {σ : Sg} {E : EH} : ∀ {vs : List V} {xs : List Value},DenC σ E vs xs→∀ {us : List V} {ys : List Value},DenC σ E us ys→DenC σ E (vs ++ us) (xs ++ ys)
  | [],_,h,_,_,hu => by simp only [DenC] at h; simpa [h] using hu
  | v :: vs,_,h,_,_,hu => by
    obtain ⟨ys,zs,rfl,h1,h2⟩:=h.uncons
    rw [List.append_assoc]
    exact DenC.cons h1 (h2.append hu)
def V.w : V→Nat
  | .arr m _ => m
  | _ => 1
theorem DenP1.len {σ : Sg} {E : EH} {v : V} {ys : List Value} (h : DenP1 σ E v ys) : ys.length = v.w:=by
  rcases h with ⟨y,rfl,_,hy⟩ | ⟨m,cs,rfl,hl,hd⟩
  · cases v <;> first | rfl | (simp only [Den] at hy)
  · rw [hd.len,hl]; rfl
theorem DenP1.one {σ : Sg} {E : EH} {v : V} {ys : List Value} (h : DenP1 σ E v ys) : ∀ c ∈ ys,c.oneCell' = true:=by
  rcases h with ⟨y,rfl,h1,hy⟩ | ⟨m,cs,rfl,hl,hd⟩
  · intro c hc; simp at hc; subst hc; exact h1
  · exact hd.one
def wid : List V→Nat
  | [] => 0
  | v :: vs => v.w + wid vs
theorem DenC.len {σ : Sg} {E : EH} : ∀ {vs : List V} {xs : List Value},DenC σ E vs xs→xs.length = wid vs
  | [],_,h => by simp only [DenC] at h; simp [h,wid]
  | v :: vs,_,h => by
    obtain ⟨ys,zs,rfl,h1,h2⟩:=h.uncons
    rw [List.length_append,h1.len,h2.len]; rfl
theorem DenC.one {σ : Sg} {E : EH} : ∀ {vs : List V} {xs : List Value},DenC σ E vs xs→∀ c ∈ xs,c.oneCell' = true
  | [],_,h,c,hc => by simp only [DenC] at h; subst h; cases hc
  | v :: vs,_,h,c,hc => by
    obtain ⟨ys,zs,rfl,h1,h2⟩:=h.uncons
    rcases List.mem_append.1 hc with hc | hc
    · exact h1.one c hc
    · exact h2.one c hc
def subN : Nat→Nat→Option Nat
  | n,0 => some n
  | 0,_ + 1 => none
  | n + 1,w + 1 => subN n w
theorem subN_ok : ∀ {n w k : Nat},subN n w = some k→n = w + k
  | n,0,k,h => by simp [subN] at h; omega
  | 0,w + 1,k,h => by simp [subN] at h
  | n + 1,w + 1,k,h => by have:=subN_ok (n:=n) (w:=w) (by simpa [subN] using h); omega
def dropW : List V→Nat→Option (List V)
  | l,0 => some l
  | [],_ + 1 => none
  | v :: l,n + 1 => match subN (n + 1) v.w with | some k => dropW l k | none => none
def takeW : List V→Nat→Option (List V)
  | _,0 => some []
  | [],_ + 1 => none
  | v :: l,n + 1 => match subN (n + 1) v.w with
    | some k => match takeW l k with | some r => some (v :: r) | none => none
    | none => none
theorem dropW_ok {σ : Sg} {E : EH} : ∀ {l : List V} {n : Nat} {r : List V},dropW l n = some r→∀ {xs : List Value},DenC σ E l xs→DenC σ E r (xs.drop n)∧n ≤ xs.length
  | l,0,r,h,xs,hd => by simp [dropW] at h; subst h; exact ⟨by simpa using hd,Nat.zero_le _⟩
  | [],n + 1,r,h,xs,hd => by simp [dropW] at h
  | v :: l,n + 1,r,h,xs,hd => by
    simp only [dropW] at h
    split at h
    · rename_i k hk
      have e:=subN_ok hk
      obtain ⟨ys,zs,rfl,h1,h2⟩:=hd.uncons
      obtain ⟨h3,h4⟩:=dropW_ok h h2
      have hl:=h1.len
      rw [e,← hl,List.drop_length_add_append]
      exact ⟨h3,by simp; omega⟩
    · cases h
theorem takeW_ok {σ : Sg} {E : EH} : ∀ {l : List V} {n : Nat} {r : List V},takeW l n = some r→∀ {xs : List Value},DenC σ E l xs→DenC σ E r (xs.take n)∧n ≤ xs.length
  | l,0,r,h,xs,hd => by simp [takeW] at h; subst h; exact ⟨by simp [DenC],Nat.zero_le _⟩
  | [],n + 1,r,h,xs,hd => by simp [takeW] at h
  | v :: l,n + 1,r,h,xs,hd => by
    simp only [takeW] at h
    split at h <;> try (cases h; done)
    rename_i k hk
    split at h <;> try (cases h; done)
    rename_i r' hr
    cases h
    have e:=subN_ok hk
    obtain ⟨ys,zs,rfl,h1,h2⟩:=hd.uncons
    obtain ⟨h3,h4⟩:=takeW_ok hr h2
    have hl:=h1.len
    rw [e,← hl,List.take_length_add_append]
    exact ⟨DenC.cons h1 h3,by simp; omega⟩
def spliceW : List V→Nat→List V→Option (List V)
  | l,0,vs => match dropW l (wid vs) with | some r => some (vs ++ r) | none => none
  | [],_ + 1,_ => none
  | v :: l,n + 1,vs => match subN (n + 1) v.w with
    | some k => match spliceW l k vs with | some r => some (v :: r) | none => none
    | none => none
theorem spliceW_ok {σ : Sg} {E : EH} : ∀ {l : List V} {n : Nat} {vs r : List V},spliceW l n vs = some r→∀ {xs : List Value},DenC σ E l xs→∀ {ys : List Value},DenC σ E vs ys→DenC σ E r (splice xs n ys)∧n + ys.length ≤ xs.length
  | l,0,vs,r,h,xs,hd,ys,hv => by
    simp only [spliceW] at h
    split at h <;> try (cases h; done)
    rename_i t ht
    cases h
    obtain ⟨h1,h2⟩:=dropW_ok ht hd
    rw [← hv.len] at h1 h2
    refine ⟨?_,by omega⟩
    unfold splice
    simpa using hv.append h1
  | [],n + 1,vs,r,h,xs,hd,ys,hv => by simp [spliceW] at h
  | v :: l,n + 1,vs,r,h,xs,hd,ys,hv => by
    simp only [spliceW] at h
    split at h <;> try (cases h; done)
    rename_i k hk
    split at h <;> try (cases h; done)
    rename_i r' hr
    cases h
    have e:=subN_ok hk
    obtain ⟨us,zs,rfl,h1,h2⟩:=hd.uncons
    obtain ⟨h3,h4⟩:=spliceW_ok hr h2 hv
    have hl:=h1.len
    refine ⟨?_,by simp; omega⟩
    have : splice (us ++ zs) (n + 1) ys = us ++ splice zs k ys:=by
      unfold splice
      rw [e,← hl,List.take_length_add_append,Nat.add_assoc,List.drop_length_add_append]
      simp
    rw [this]
    exact DenC.cons h1 h3
def pieceAt (l : List V) (base : Nat) : Option V:=match dropW l base with | some (v :: _) => some v | _ => none
theorem pieceAt_arr {σ : Sg} {E : EH} {l : List V} {base m : Nat} {cs : List D} (h : pieceAt l base = some (.arr m cs)) {xs : List Value} (hd : DenC σ E l xs) :
    ∃ ys,DenD E cs ys∧cs.length = m∧base + m ≤ xs.length∧(xs.drop base).take m = ys:=by
  unfold pieceAt at h
  split at h <;> try (cases h; done)
  rename_i v r hr
  cases h
  obtain ⟨h1,h2⟩:=dropW_ok hr hd
  obtain ⟨ys,zs,e,h3,h4⟩:=h1.uncons
  rcases h3 with ⟨y,_,_,hy⟩ | ⟨m',cs',e',hl,hdd⟩
  · simp only [Den] at hy
  · cases e'
    have hyl:=hdd.len
    refine ⟨ys,hdd,hl,?_,?_⟩
    · have:=congrArg List.length e
      simp at this
      omega
    · rw [e,← hl,← hyl,List.take_left]
end Vc
set_option linter.unusedSimpArgs false
set_option linter.unusedVariables false
namespace Vc
open Go
def BufL (E : EH) (agg : Bool) : List Value→List (List D)→Prop
  | [],l => l = []
  | v :: vs,l => ∃ c l',l = c :: l'∧(∃ ys,v = cellV agg ys∧DenD E c ys)∧BufL E agg vs l'
theorem BufL.mono {E E' : EH} (hE : E.le E') {agg : Bool} : ∀ {vs : List Value} {l : List (List D)},BufL E agg vs l→BufL E' agg vs l
  | [],_,h => by simpa only [BufL] using h
  | v :: vs,_,h => by
    simp only [BufL] at h ⊢
    obtain ⟨c,l',h0,⟨ys,h1,h2⟩,h3⟩:=h
    exact ⟨c,l',h0,⟨ys,h1,h2.mono hE⟩,h3.mono hE⟩
theorem BufL.len {E : EH} {agg : Bool} : ∀ {vs : List Value} {l : List (List D)},BufL E agg vs l→vs.length = l.length
  | [],_,h => by simp only [BufL] at h; subst h; rfl
  | v :: vs,_,h => by
    simp only [BufL] at h
    obtain ⟨c,l',rfl,_,h3⟩:=h
    simp [h3.len]
theorem BufL.snoc {E : EH} {agg : Bool} {v : Value} {c : List D} (h1 : ∃ ys,v = cellV agg ys∧DenD E c ys) : ∀ {vs : List Value} {l : List (List D)},BufL E agg vs l→BufL E agg (vs ++ [v]) (l ++ [c])
  | [],_,h => by
    simp only [BufL] at h; subst h
    simp only [List.nil_append,BufL]
    exact ⟨c,[],rfl,h1,rfl⟩
  | u :: vs,_,h => by
    simp only [BufL] at h
    obtain ⟨d,l',rfl,h2,h3⟩:=h
    simp only [List.cons_append,BufL]
    exact ⟨d,l' ++ [c],rfl,h2,h3.snoc h1⟩
def HoldsB (σ : Sg) (E : EH) (W : World) (r : Re) : KO→Prop
  | .cells l => ∃ arr ty,W.heap[r.blk]? = some (.cells arr ty (0,0))∧DenC σ E l arr.toList
  | .row ty sz l => r.sz = sz∧wl sz l∧l.length ≤ r.cap∧r.cap ≤ maxLen ∧
      (r.cap = 0∨∃ arr,W.heap[r.blk]? = some (.cells arr ty (0,0))∧arr.size = r.cap * sz∧DenD E l.flatten (arr.toList.take (l.length * sz)))
  | .mp kks kagg agg sz l => wl sz (l.map (·.2))∧∃ es clock,W.heap[r.blk]? = some (.map es clock)∧EntL E kks kagg agg es.toList l∧BornOk es.toList clock
  | .ch agg sz cap l => wl sz l∧l.length ≤ cap∧∃ buf s r',W.heap[r.blk]? = some (.chan cap buf false s r' false)∧BufL E agg buf.toList l
  | .objs _ => False
  | .obj1 _ => False
  | .dead => True
def ownedB (r : Re) : KO→Nat→Prop
  | .cells _,b => b = r.blk
  | .row ..,b => r.cap ≠ 0∧b = r.blk
  | .mp ..,b => b = r.blk
  | .ch ..,b => b = r.blk
  | .objs _,_ => False
  | .obj1 _,_ => False
  | .dead,_ => False
def OwnsB (a : Sg × KB) (b : Nat) : Prop:=∃ (i : Nat) (r : Re) (o : KO),a.1[i]? = some r∧a.2[i]? = some o∧ownedB r o b
structure ObjOk (E : EH) (W : World) (a : Sg × KB) : Prop where
  len : a.1.length = a.2.length
  obj : ∀ (i : Nat) (r : Re) (o : KO),a.1[i]? = some r→a.2[i]? = some o→HoldsB a.1 E W r o
  disj : ∀ (i j : Nat) (r r' : Re) (o o' : KO) (b : Nat),i ≠ j→a.1[i]? = some r→a.2[i]? = some o→a.1[j]? = some r'→a.2[j]? = some o'→ownedB r o b→ownedB r' o' b→False
structure PoolOk (E : EH) (W : World) (A : List (Sg × KB)) : Prop where
  ok : ∀ a ∈ A,ObjOk E W a
  disj : ∀ (k m : Nat) (a a' : Sg × KB) (b : Nat),k ≠ m→A[k]? = some a→A[m]? = some a'→OwnsB a b→OwnsB a' b→False
def rootIs (τ : Sg) (b : Nat) : Prop:=∃ r,τ[0]? = some r∧r.blk = b
def HoldsO (σ : Sg) (E : EH) (W : World) (r : Re) : KO→Prop
  | .objs A => PoolOk E W A
  | .obj1 a => ObjOk E W a∧rootIs a.1 r.blk
  | .cells l => HoldsB σ E W r (.cells l)
  | .row ty sz l => HoldsB σ E W r (.row ty sz l)
  | .mp kks kagg agg sz l => HoldsB σ E W r (.mp kks kagg agg sz l)
  | .ch agg sz cap l => HoldsB σ E W r (.ch agg sz cap l)
  | .dead => True
def owned (r : Re) : KO→Nat→Prop
  | .cells _,b => b = r.blk
  | .row ..,b => r.cap ≠ 0∧b = r.blk
  | .mp ..,b => b = r.blk
  | .ch ..,b => b = r.blk
  | .objs A,b => ∃ a ∈ A,OwnsB a b
  | .obj1 a,b => OwnsB a b
  | .dead,_ => False
theorem HoldsB.up {σ : Sg} {E : EH} {W : World} {r : Re} {o : KO} (h : HoldsB σ E W r o) : HoldsO σ E W r o:=by
  cases o <;> first | exact h | exact h.elim
theorem ownedB.up {r : Re} {o : KO} {b : Nat} (h : ownedB r o b) : owned r o b:=by
  cases o <;> first | exact h | exact h.elim
theorem HoldsB.lt {σ : Sg} {E : EH} {W : World} {r : Re} {o : KO} (h : HoldsB σ E W r o) {b : Nat} (ho : ownedB r o b) : b < W.heap.size:=by
  cases o with
  | cells l =>
    obtain ⟨arr,ty,h1,_⟩:=h
    simp only [ownedB] at ho
    subst ho
    exact (Array.getElem?_eq_some_iff.1 h1).1
  | row ty sz l =>
    simp only [ownedB] at ho
    obtain ⟨_,_,_,_,h4⟩:=h
    rcases h4 with h4 | ⟨arr,h4,_⟩
    · exact absurd h4 ho.1
    · rw [ho.2]; exact (Array.getElem?_eq_some_iff.1 h4).1
  | mp kks kagg agg sz l =>
    obtain ⟨_,es,ck,h1,_⟩:=h
    simp only [ownedB] at ho
    subst ho
    exact (Array.getElem?_eq_some_iff.1 h1).1
  | ch agg sz cap l =>
    obtain ⟨_,_,bf,s,rr,h1,_⟩:=h
    simp only [ownedB] at ho
    subst ho
    exact (Array.getElem?_eq_some_iff.1 h1).1
  | objs A => exact h.elim
  | obj1 a => exact h.elim
  | dead => exact ho.elim
theorem HoldsB.mono {σ τ : Sg} {E E' : EH} {W W' : World} (hE : E.le E') {r : Re} {o : KO} (h : HoldsB σ E W r o) (hb : ∀ b,ownedB r o b→W'.heap[b]? = W.heap[b]?) : HoldsB (σ ++ τ) E' W' r o:=by
  cases o with
  | cells l =>
    obtain ⟨arr,ty,h1,h2⟩:=h
    exact ⟨arr,ty,by rw [hb r.blk rfl]; exact h1,DenC.mono hE h2⟩
  | row ty sz l =>
    obtain ⟨h0,h1,h2,h3,h4⟩:=h
    refine ⟨h0,h1,h2,h3,?_⟩
    rcases h4 with h4 | ⟨arr,h4,h5⟩
    · exact .inl h4
    · by_cases hc : r.cap = 0
      · exact .inl hc
      · exact .inr ⟨arr,by rw [hb r.blk ⟨hc,rfl⟩]; exact h4,h5.1,h5.2.mono hE⟩
  | mp kks kagg agg sz l =>
    obtain ⟨h0,es,ck,h1,h2,h3⟩:=h
    exact ⟨h0,es,ck,by rw [hb r.blk rfl]; exact h1,h2.mono hE,h3⟩
  | ch agg sz cap l =>
    obtain ⟨h0,h00,bf,s,rr,h1,h2⟩:=h
    exact ⟨h0,h00,bf,s,rr,by rw [hb r.blk rfl]; exact h1,h2.mono hE⟩
  | objs A => exact h.elim
  | obj1 a => exact h.elim
  | dead => trivial
theorem ObjOk.lt {E : EH} {W : World} {a : Sg × KB} (h : ObjOk E W a) {b : Nat} (hb : OwnsB a b) : b < W.heap.size:=by
  obtain ⟨i,r,o,h1,h2,h3⟩:=hb
  exact (h.obj i r o h1 h2).lt h3
theorem ObjOk.mono {E E' : EH} {W W' : World} (hE : E.le E') {a : Sg × KB} (h : ObjOk E W a) (hb : ∀ b,OwnsB a b→W'.heap[b]? = W.heap[b]?) : ObjOk E' W' a :=
  ⟨h.len,fun i r o h1 h2 => by
    have:=(h.obj i r o h1 h2).mono (τ:=[]) (W':=W') hE (fun b h3 => hb b ⟨i,r,o,h1,h2,h3⟩)
    simpa using this,h.disj⟩
theorem PoolOk.mono {E E' : EH} {W W' : World} (hE : E.le E') {A : List (Sg × KB)} (h : PoolOk E W A) (hb : ∀ b,(∃ a ∈ A,OwnsB a b)→W'.heap[b]? = W.heap[b]?) : PoolOk E' W' A :=
  ⟨fun a ha => (h.ok a ha).mono hE (fun b h1 => hb b ⟨a,ha,h1⟩),h.disj⟩
def Owns (σ : Sg) (kb : KB) (b : Nat) : Prop:=∃ (i : Nat) (r : Re) (o : KO),σ[i]? = some r∧kb[i]? = some o∧owned r o b
structure Inv (σ : Sg) (E : EH) (kb : KB) (W : World) : Prop where
  len : σ.length = kb.length
  obj : ∀ (i : Nat) (r : Re) (o : KO),σ[i]? = some r→kb[i]? = some o→HoldsO σ E W r o
  disj : ∀ (i j : Nat) (r r' : Re) (o o' : KO) (b : Nat),i ≠ j→σ[i]? = some r→kb[i]? = some o→σ[j]? = some r'→kb[j]? = some o'→owned r o b→owned r' o' b→False
  imm : ∀ b o,E b = some o→W.heap[b]? = some o
  sep : ∀ b,Owns σ kb b→E b = none
theorem HoldsO.lt {σ : Sg} {E : EH} {W : World} {r : Re} {o : KO} (h : HoldsO σ E W r o) {b : Nat} (ho : owned r o b) : b < W.heap.size:=by
  cases o with
  | objs A => obtain ⟨a,ha,hb⟩:=ho; exact (h.ok a ha).lt hb
  | obj1 a => exact h.1.lt ho
  | cells l => exact HoldsB.lt (σ:=σ) (o:=.cells l) h ho
  | row ty sz l => exact HoldsB.lt (σ:=σ) (o:=.row ty sz l) h ho
  | mp kks kagg agg sz l => exact HoldsB.lt (σ:=σ) (o:=.mp kks kagg agg sz l) h ho
  | ch agg sz cap l => exact HoldsB.lt (σ:=σ) (o:=.ch agg sz cap l) h ho
  | dead => exact ho.elim
theorem Inv.lt {σ : Sg} {E : EH} {kb : KB} {W : World} (h : Inv σ E kb W) {b : Nat} (ho : Owns σ kb b) : b < W.heap.size:=by
  obtain ⟨i,r,o,h1,h2,h3⟩:=ho
  exact (h.obj i r o h1 h2).lt h3
theorem HoldsO.mono {σ τ : Sg} {E E' : EH} {W W' : World} (hE : E.le E') {r : Re} {o : KO} (h : HoldsO σ E W r o) (hb : ∀ b,owned r o b→W'.heap[b]? = W.heap[b]?) : HoldsO (σ ++ τ) E' W' r o:=by
  cases o with
  | objs A => exact PoolOk.mono hE h hb
  | obj1 a => exact ⟨h.1.mono hE hb,h.2⟩
  | cells l => exact HoldsB.mono (σ:=σ) (τ:=τ) (o:=.cells l) hE h hb
  | row ty sz l => exact HoldsB.mono (σ:=σ) (τ:=τ) (o:=.row ty sz l) hE h hb
  | mp kks kagg agg sz l => exact HoldsB.mono (σ:=σ) (τ:=τ) (o:=.mp kks kagg agg sz l) hE h hb
  | ch agg sz cap l => exact HoldsB.mono (σ:=σ) (τ:=τ) (o:=.ch agg sz cap l) hE h hb
  | dead => trivial
structure Stp (O : Nat→Prop) (W W' : World) : Prop where
  os : W'.os = W.os
  tape : W'.tape = W.tape
  output : W'.output = W.output
  size : W.heap.size ≤ W'.heap.size
  block : ∀ k,k < W.heap.size→¬ O k→W'.heap[k]? = W.heap[k]?
theorem Stp.refl (O : Nat→Prop) (W : World) : Stp O W W:=⟨rfl,rfl,rfl,Nat.le_refl _,fun _ _ _ => rfl⟩
structure Step (σ : Sg) (E : EH) (kb : KB) (W : World) (σ' : Sg) (E' : EH) (kb' : KB) (W' : World) : Prop where
  inv : Inv σ' E' kb' W'
  stp : Stp (Owns σ kb) W W'
  pre : ∃ τ,σ' = σ ++ τ
  le : E.le E'
  own : ∀ b,Owns σ' kb' b→Owns σ kb b∨W.heap.size ≤ b
  new : ∀ b o,E' b = some o→E b = some o∨Owns σ kb b∨W.heap.size ≤ b
theorem Step.refl {σ : Sg} {E : EH} {kb : KB} {W : World} (h : Inv σ E kb W) : Step σ E kb W σ E kb W :=
  ⟨h,Stp.refl _ _,⟨[],by simp⟩,EH.le.refl E,fun _ h => .inl h,fun _ _ h => .inl h⟩
theorem Step.trans {σ σ' σ'' : Sg} {E E' E'' : EH} {kb kb' kb'' : KB} {W W' W'' : World}
    (h : Step σ E kb W σ' E' kb' W') (k : Step σ' E' kb' W' σ'' E'' kb'' W'') : Step σ E kb W σ'' E'' kb'' W'':=by
  have hsz:=h.stp.size
  refine ⟨k.inv,⟨k.stp.os.trans h.stp.os,k.stp.tape.trans h.stp.tape,k.stp.output.trans h.stp.output,Nat.le_trans hsz k.stp.size,fun b hb hn => ?_⟩,?_,h.le.trans k.le,fun b hb => ?_,fun b o hb => ?_⟩
  · rw [k.stp.block b (by omega) (fun ho => ?_)]
    · exact h.stp.block b hb hn
    · rcases h.own b ho with h1 | h1
      · exact hn h1
      · omega
  · obtain ⟨τ,rfl⟩:=h.pre
    obtain ⟨τ',rfl⟩:=k.pre
    exact ⟨τ ++ τ',by simp⟩
  · rcases k.own b hb with h1 | h1
    · exact h.own b h1
    · exact .inr (by omega)
  · rcases k.new b o hb with h1 | h1 | h1
    · exact h.new b o h1
    · rcases h.own b h1 with h2 | h2
      · exact .inr (.inl h2)
      · exact .inr (.inr h2)
    · exact .inr (.inr (by omega))
theorem Inv.grow {σ : Sg} {E : EH} {kb : KB} {W W' : World} (h : Inv σ E kb W) (r : Re) (o : KO) (hos : W'.os = W.os) (htp : W'.tape = W.tape) (hout : W'.output = W.output) (hsz : W.heap.size ≤ W'.heap.size)
    (hold : ∀ b,b < W.heap.size→W'.heap[b]? = W.heap[b]?) (hr : ∀ b,owned r o b→W.heap.size ≤ b) (ho : HoldsO (σ ++ [r]) E W' r o) : Step σ E kb W (σ ++ [r]) E (kb ++ [o]) W':=by
  have hown : ∀ b,Owns (σ ++ [r]) (kb ++ [o]) b→Owns σ kb b∨W.heap.size ≤ b:=by
    rintro b ⟨i,r',o',h1,h2,h3⟩
    rcases Nat.lt_trichotomy i σ.length with hi | hi | hi
    · rw [List.getElem?_append_left hi] at h1
      rw [List.getElem?_append_left (by rw [← h.len]; exact hi)] at h2
      exact .inl ⟨i,r',o',h1,h2,h3⟩
    · subst hi
      rw [List.getElem?_append_right (Nat.le_refl _)] at h1
      rw [h.len,List.getElem?_append_right (Nat.le_refl _)] at h2
      simp at h1 h2
      subst h1; subst h2
      exact .inr (hr b h3)
    · rw [List.getElem?_eq_none (by simp; omega)] at h1; cases h1
  refine ⟨⟨by simp [h.len],fun i r' o' h1 h2 => ?_,fun i j r1 r2 o1 o2 b hij h1 h2 h3 h4 h5 h6 => ?_,fun b x hb => ?_,fun b hb => ?_⟩,⟨hos,htp,hout,hsz,fun b hb _ => hold b hb⟩,⟨[r],rfl⟩,EH.le.refl E,hown,fun b x hb => .inl hb⟩
  · rcases Nat.lt_trichotomy i σ.length with hi | hi | hi
    · rw [List.getElem?_append_left hi] at h1
      rw [List.getElem?_append_left (by rw [← h.len]; exact hi)] at h2
      exact (h.obj i r' o' h1 h2).mono (EH.le.refl E) (fun b hb => hold b ((h.obj i r' o' h1 h2).lt hb))
    · subst hi
      rw [List.getElem?_append_right (Nat.le_refl _)] at h1
      rw [h.len,List.getElem?_append_right (Nat.le_refl _)] at h2
      simp at h1 h2
      subst h1; subst h2
      exact ho
    · rw [List.getElem?_eq_none (by simp; omega)] at h1; cases h1
  · have case : ∀ (i : Nat) (r' : Re) (o' : KO),(σ ++ [r])[i]? = some r'→(kb ++ [o])[i]? = some o'→(σ[i]? = some r'∧kb[i]? = some o')∨(i = σ.length∧r' = r∧o' = o):=by
      intro i r' o' h1 h2
      rcases Nat.lt_trichotomy i σ.length with hi | hi | hi
      · rw [List.getElem?_append_left hi] at h1
        rw [List.getElem?_append_left (by rw [← h.len]; exact hi)] at h2
        exact .inl ⟨h1,h2⟩
      · subst hi
        rw [List.getElem?_append_right (Nat.le_refl _)] at h1
        rw [h.len,List.getElem?_append_right (Nat.le_refl _)] at h2
        simp at h1 h2
        exact .inr ⟨rfl,h1.symm,h2.symm⟩
      · rw [List.getElem?_eq_none (by simp; omega)] at h1; cases h1
    rcases case i r1 o1 h1 h2 with ⟨a1,a2⟩ | ⟨a1,a2,a3⟩ <;> rcases case j r2 o2 h3 h4 with ⟨b1,b2⟩ | ⟨b1,b2,b3⟩
    · exact h.disj i j r1 r2 o1 o2 b hij a1 a2 b1 b2 h5 h6
    · subst b2; subst b3
      have:=(h.obj i r1 o1 a1 a2).lt h5
      have:=hr b h6
      omega
    · subst a2; subst a3
      have:=(h.obj j r2 o2 b1 b2).lt h6
      have:=hr b h5
      omega
    · omega
  · have:=h.imm b x hb
    rw [hold b (Array.getElem?_eq_some_iff.1 this).1]
    exact this
  · rcases hown b hb with h1 | h1
    · exact h.sep b h1
    · cases hE : E b with
      | none => rfl
      | some x =>
        have:=(Array.getElem?_eq_some_iff.1 (h.imm b x hE)).1
        omega
theorem Inv.alloc {σ : Sg} {E : EH} {kb : KB} {W : World} (h : Inv σ E kb W) (ob : Obj) (r : Re) (o : KO) (hr : ∀ b,owned r o b→b = W.heap.size)
    (ho : HoldsO (σ ++ [r]) E (W.alloc ob) r o) : Step σ E kb W (σ ++ [r]) E (kb ++ [o]) (W.alloc ob) :=
  h.grow r o rfl rfl rfl (by simp) (fun b hb => by
    show (W.heap.push ob)[b]? = _
    rw [Array.getElem?_push,if_neg (by omega)]) (fun b hb => by rw [hr b hb]; exact Nat.le_refl _) ho
theorem Inv.set {σ : Sg} {E : EH} {kb : KB} {W W' : World} (h : Inv σ E kb W) {i : Nat} {r : Re} {o o' : KO} (hs : σ[i]? = some r) (hk : kb[i]? = some o)
    (hos : W'.os = W.os) (htp : W'.tape = W.tape) (hout : W'.output = W.output) (hsz : W'.heap.size = W.heap.size)
    (hbl : ∀ b,¬ owned r o b→W'.heap[b]? = W.heap[b]?) (hr : ∀ b,owned r o' b→owned r o b) (ho : HoldsO σ E W' r o') : Step σ E kb W σ E (kb.set i o') W':=by
  have hi : i < kb.length:=by
    rcases Nat.lt_or_ge i kb.length with h' | h'
    · exact h'
    · simp [List.getElem?_eq_none h'] at hk
  have hget : ∀ (j : Nat) (x : KO),(kb.set i o')[j]? = some x→(j = i∧x = o')∨(j ≠ i∧kb[j]? = some x):=by
    intro j x hj
    by_cases hji : j = i
    · subst hji
      rw [List.getElem?_set_self hi] at hj
      exact .inl ⟨rfl,(Option.some.inj hj).symm⟩
    · rw [List.getElem?_set_ne (Ne.symm hji)] at hj
      exact .inr ⟨hji,hj⟩
  have hown : ∀ b,Owns σ (kb.set i o') b→Owns σ kb b:=by
    rintro b ⟨j,r',x,h1,h2,h3⟩
    rcases hget j x h2 with ⟨rfl,rfl⟩ | ⟨hji,h4⟩
    · rw [hs] at h1; cases h1
      exact ⟨_,r,o,hs,hk,hr b h3⟩
    · exact ⟨j,r',x,h1,h4,h3⟩
  refine ⟨⟨by simp [h.len],fun j r' x h1 h2 => ?_,fun a c r1 r2 o1 o2 b hac h1 h2 h3 h4 h5 h6 => ?_,fun b x hb => ?_,fun b hb => h.sep b (hown b hb)⟩,⟨hos,htp,hout,by omega,fun b _ hn => hbl b (fun hb => hn ⟨i,r,o,hs,hk,hb⟩)⟩,⟨[],by simp⟩,EH.le.refl E,fun b hb => .inl (hown b hb),fun b x hb => .inl hb⟩
  · rcases hget j x h2 with ⟨rfl,rfl⟩ | ⟨hji,h4⟩
    · rw [hs] at h1; cases h1; exact ho
    · have:=(h.obj j r' x h1 h4).mono (τ:=[]) (W':=W') (EH.le.refl E) (fun b hb => hbl b (fun hb' => h.disj i j r r' o x b (Ne.symm hji) hs hk h1 h4 hb' hb))
      simpa using this
  · have up : ∀ (j : Nat) (r' : Re) (x : KO),σ[j]? = some r'→(kb.set i o')[j]? = some x→owned r' x b→∃ y,kb[j]? = some y∧owned r' y b:=by
      intro j r' x h1 h2 h3
      rcases hget j x h2 with ⟨rfl,rfl⟩ | ⟨hji,h4⟩
      · rw [hs] at h1; cases h1; exact ⟨o,hk,hr b h3⟩
      · exact ⟨x,h4,h3⟩
    obtain ⟨y1,p1,q1⟩:=up a r1 o1 h1 h2 h5
    obtain ⟨y2,p2,q2⟩:=up c r2 o2 h3 h4 h6
    exact h.disj a c r1 r2 y1 y2 b hac h1 p1 h3 p2 q1 q2
  · rw [hbl b (fun hb' => ?_)]
    · exact h.imm b x hb
    · have:=h.sep b ⟨i,r,o,hs,hk,hb'⟩
      rw [this] at hb; cases hb
theorem Inv.drew {σ : Sg} {E : EH} {kb : KB} {W : World} (h : Inv σ E kb W) : Step σ E kb W σ E kb W.drew :=
  ⟨⟨h.len,fun i r o h1 h2 => by
      have:=(h.obj i r o h1 h2).mono (τ:=[]) (W':=W.drew) (EH.le.refl E) (fun _ _ => rfl)
      simpa using this,h.disj,h.imm,h.sep⟩,⟨rfl,rfl,rfl,Nat.le_refl _,fun _ _ _ => rfl⟩,⟨[],by simp⟩,EH.le.refl E,fun _ h => .inl h,fun _ _ h => .inl h⟩
theorem Inv.freeze {σ : Sg} {E : EH} {kb : KB} {W : World} (h : Inv σ E kb W) {i : Nat} {r : Re} {ty : TypeId} {sz : Nat} {l : List (List D)} (hs : σ[i]? = some r) (hk : kb[i]? = some (.row ty sz l)) :
    ∃ E',Step σ E kb W σ E' (kb.set i .dead) W∧(r.cap ≠ 0→RepC E' l.flatten r.blk 0):=by
  have hi : i < kb.length:=(List.getElem?_eq_some_iff.1 hk).1
  have ho:=h.obj i r _ hs hk
  let E' : EH:=fun b => if r.cap ≠ 0∧b = r.blk then W.heap[b]? else E b
  have hle : E.le E':=fun b x hb => by
    show (if r.cap ≠ 0∧b = r.blk then W.heap[b]? else E b) = some x
    by_cases hc : r.cap ≠ 0∧b = r.blk
    · have:=h.sep b ⟨i,r,_,hs,hk,hc⟩
      rw [this] at hb; cases hb
    · rw [if_neg hc]; exact hb
  have hget : ∀ (j : Nat) (x : KO),(kb.set i .dead)[j]? = some x→(j = i∧x = .dead)∨(j ≠ i∧kb[j]? = some x):=by
    intro j x hj
    by_cases hji : j = i
    · subst hji
      rw [List.getElem?_set_self hi] at hj
      exact .inl ⟨rfl,(Option.some.inj hj).symm⟩
    · rw [List.getElem?_set_ne (Ne.symm hji)] at hj
      exact .inr ⟨hji,hj⟩
  have hown : ∀ b,Owns σ (kb.set i .dead) b→Owns σ kb b∧¬ (r.cap ≠ 0∧b = r.blk):=by
    rintro b ⟨j,r',x,h1,h2,h3⟩
    rcases hget j x h2 with ⟨rfl,rfl⟩ | ⟨hji,h4⟩
    · exact h3.elim
    · exact ⟨⟨j,r',x,h1,h4,h3⟩,fun hc => h.disj i j r r' _ x b (Ne.symm hji) hs hk h1 h4 hc h3⟩
  refine ⟨E',⟨⟨by simp [h.len],fun j r' x h1 h2 => ?_,fun a c r1 r2 o1 o2 b hac h1 h2 h3 h4 h5 h6 => ?_,fun b x hb => ?_,fun b hb => ?_⟩,Stp.refl _ W,⟨[],by simp⟩,hle,fun b hb => .inl (hown b hb).1,fun b x hb => ?_⟩,fun hc => ?_⟩
  · rcases hget j x h2 with ⟨rfl,rfl⟩ | ⟨hji,h4⟩
    · trivial
    · have:=(h.obj j r' x h1 h4).mono (τ:=[]) (W':=W) hle (fun b hb => rfl)
      simpa using this
  · rcases hget a o1 h2 with ⟨rfl,rfl⟩ | ⟨_,k2⟩
    · exact h5.elim
    rcases hget c o2 h4 with ⟨rfl,rfl⟩ | ⟨_,k4⟩
    · exact h6.elim
    exact h.disj a c r1 r2 o1 o2 b hac h1 k2 h3 k4 h5 h6
  · by_cases hc : r.cap ≠ 0∧b = r.blk
    · simp only [E',if_pos hc] at hb; exact hb
    · simp only [E',if_neg hc] at hb; exact h.imm b x hb
  · obtain ⟨h1,h2⟩:=hown b hb
    show (if r.cap ≠ 0∧b = r.blk then W.heap[b]? else E b) = none
    rw [if_neg h2]
    exact h.sep b h1
  · by_cases hc : r.cap ≠ 0∧b = r.blk
    · exact .inr (.inl ⟨i,r,_,hs,hk,hc⟩)
    · simp only [E',if_neg hc] at hb; exact .inl hb
  · obtain ⟨rfl,k1,k2,k3,k4⟩:=ho
    rcases k4 with k4 | ⟨arr,k4,k5,k6⟩
    · exact absurd k4 hc
    refine (k6.mono hle).rep fun j x hj => ?_
    have e : E' r.blk = some (.cells arr ty (0,0)):=by simp only [E',if_pos (show r.cap ≠ 0∧r.blk = r.blk from ⟨hc,rfl⟩),k4]
    unfold EH.cell
    rw [e,Nat.zero_add]
    have hlt : j < l.length * r.sz:=by
      have:=(List.getElem?_eq_some_iff.1 hj).1
      simp only [List.length_take] at this
      omega
    rw [List.getElem?_take_of_lt hlt] at hj
    simpa using hj
theorem Inv.freezeM {σ : Sg} {E : EH} {kb : KB} {W : World} (h : Inv σ E kb W) {i : Nat} {r : Re} {ty : TypeId} {sz : Nat} {l : List (List D)} (hs : σ[i]? = some r) (hk : kb[i]? = some (.row ty sz l)) (hc : r.cap ≠ 0) :
    ∃ E' arr,W.heap[r.blk]? = some (.cells arr ty (0,0))∧(∀ W',W'.os = W.os→W'.tape = W.tape→W'.output = W.output→W'.heap.size = W.heap.size→W'.heap[r.blk]? = some (.cells arr ty (arr.size,arr.size + 1))→(∀ k,k ≠ r.blk→W'.heap[k]? = W.heap[k]?) →
      Step σ E kb W σ E' (kb.set i .dead) W')∧RepC E' l.flatten r.blk 0:=by
  have hi : i < kb.length:=(List.getElem?_eq_some_iff.1 hk).1
  have ho:=h.obj i r _ hs hk
  obtain ⟨rfl,k1,k2,k3,k4⟩:=ho
  rcases k4 with k4 | ⟨arr,k4,k5,k6⟩
  · exact absurd k4 hc
  let E' : EH:=fun b => if b = r.blk then some (.cells arr ty (arr.size,arr.size + 1)) else E b
  have hle : E.le E':=fun b x hb => by
    show (if b = r.blk then _ else E b) = some x
    by_cases hcb : b = r.blk
    · have:=h.sep b ⟨i,r,_,hs,hk,hc,hcb⟩
      rw [this] at hb; cases hb
    · rw [if_neg hcb]; exact hb
  have hget : ∀ (j : Nat) (x : KO),(kb.set i .dead)[j]? = some x→(j = i∧x = .dead)∨(j ≠ i∧kb[j]? = some x):=by
    intro j x hj
    by_cases hji : j = i
    · subst hji
      rw [List.getElem?_set_self hi] at hj
      exact .inl ⟨rfl,(Option.some.inj hj).symm⟩
    · rw [List.getElem?_set_ne (Ne.symm hji)] at hj
      exact .inr ⟨hji,hj⟩
  have hown : ∀ b,Owns σ (kb.set i .dead) b→Owns σ kb b∧¬ b = r.blk:=by
    rintro b ⟨j,r',x,h1,h2,h3⟩
    rcases hget j x h2 with ⟨rfl,rfl⟩ | ⟨hji,h4⟩
    · exact h3.elim
    · exact ⟨⟨j,r',x,h1,h4,h3⟩,fun hcb => h.disj i j r r' _ x b (Ne.symm hji) hs hk h1 h4 ⟨hc,hcb⟩ h3⟩
  refine ⟨E',arr,k4,fun W' w1 w2 w3 w4 w5 w6 => ⟨⟨by simp [h.len],fun j r' x h1 h2 => ?_,fun a c r1 r2 o1 o2 b hac h1 h2 h3 h4 h5 h6 => ?_,fun b x hb => ?_,fun b hb => ?_⟩,⟨w1,w2,w3,by omega,fun k hkk hno => w6 k (fun e => hno (by rw [e]; exact ⟨i,r,_,hs,hk,hc,rfl⟩))⟩,⟨[],by simp⟩,hle,fun b hb => .inl (hown b hb).1,fun b x hb => ?_⟩,?_⟩
  · rcases hget j x h2 with ⟨rfl,rfl⟩ | ⟨hji,h4⟩
    · trivial
    · have:=(h.obj j r' x h1 h4).mono (τ:=[]) (W':=W') hle (fun b hb => w6 b (fun e => h.disj i j r r' _ x b (Ne.symm hji) hs hk h1 h4 ⟨hc,e⟩ hb))
      simpa using this
  · rcases hget a o1 h2 with ⟨rfl,rfl⟩ | ⟨_,k2⟩
    · exact h5.elim
    rcases hget c o2 h4 with ⟨rfl,rfl⟩ | ⟨_,k4⟩
    · exact h6.elim
    exact h.disj a c r1 r2 o1 o2 b hac h1 k2 h3 k4 h5 h6
  · by_cases hcb : b = r.blk
    · simp only [E',if_pos hcb] at hb; cases hb; rw [hcb]; exact w5
    · simp only [E',if_neg hcb] at hb; rw [w6 b hcb]; exact h.imm b x hb
  · obtain ⟨h1,h2⟩:=hown b hb
    show (if b = r.blk then _ else E b) = none
    rw [if_neg h2]
    exact h.sep b h1
  · by_cases hcb : b = r.blk
    · exact .inr (.inl ⟨i,r,_,hs,hk,hc,hcb⟩)
    · simp only [E',if_neg hcb] at hb; exact .inl hb
  · refine (k6.mono hle).rep fun j x hj => ?_
    have e : E' r.blk = some (.cells arr ty (arr.size,arr.size + 1)):=by simp only [E',if_pos rfl]
    unfold EH.cell
    rw [e,Nat.zero_add]
    have hlt : j < l.length * r.sz:=by
      have:=(List.getElem?_eq_some_iff.1 hj).1
      simp only [List.length_take] at this
      omega
    rw [List.getElem?_take_of_lt hlt] at hj
    simpa using hj
theorem Inv.growE {σ : Sg} {E : EH} {kb : KB} {W : World} (h : Inv σ E kb W) (ob : Obj) :
    Step σ E kb W σ (fun b => if b = W.heap.size then some ob else E b) kb (W.alloc ob):=by
  have hne : E W.heap.size = none:=by
    cases he : E W.heap.size with
    | none => rfl
    | some x => have:=(Array.getElem?_eq_some_iff.1 (h.imm _ x he)).1; omega
  have hle : E.le (fun b => if b = W.heap.size then some ob else E b):=fun b x hb => by
    by_cases hc : b = W.heap.size
    · subst hc; rw [hne] at hb; cases hb
    · simp [hc,hb]
  have hold : ∀ b,b < W.heap.size→(W.alloc ob).heap[b]? = W.heap[b]?:=fun b hb => by
    show (W.heap.push ob)[b]? = _
    rw [Array.getElem?_push,if_neg (by omega)]
  refine ⟨⟨h.len,fun j r x h1 h2 => ?_,h.disj,fun b x hb => ?_,fun b hb => ?_⟩,⟨rfl,rfl,rfl,by simp,fun k hk _ => hold k hk⟩,⟨[],by simp⟩,hle,fun b hb => .inl hb,fun b x hb => ?_⟩
  · have:=(h.obj j r x h1 h2).mono (τ:=[]) (W':=W.alloc ob) hle (fun b hb => hold b ((h.obj j r x h1 h2).lt hb))
    simpa using this
  · by_cases hc : b = W.heap.size
    · subst hc
      simp only [if_true,Option.some.injEq] at hb
      subst hb
      show (W.heap.push ob)[W.heap.size]? = _
      simp
    · simp only [hc,if_false] at hb
      have:=h.imm b x hb
      rw [hold b (Array.getElem?_eq_some_iff.1 this).1]; exact this
  · have:=h.lt hb
    rw [if_neg (by omega)]
    exact h.sep b hb
  · by_cases hc : b = W.heap.size
    · exact .inr (.inr (by omega))
    · simp only [hc,if_false] at hb; exact .inl hb
end Vc
set_option linter.unusedSimpArgs false
set_option linter.unusedVariables false
namespace Vc
open Go
def calm {α : Type} (P : Program) : Sem α→Option α
  | .pure a => some a
  | .program k => calm P (k P)
  | .mark _ k => calm P k
  | _ => none
theorem calm_run {α : Type} {P : Program} : ∀ {s : Sem α} {a : α},calm P s = some a→∀ w,s.run P w = .ok a w
  | .pure _,_,h,_ => by simp [calm] at h; subst h; rfl
  | .program k,a,h,w => by
    simp only [calm] at h
    show (k P).run P w = _
    exact calm_run h w
  | .mark _ k,a,h,w => by
    simp only [calm] at h
    show k.run P w = _
    exact calm_run h w
  | .load ..,_,h,_ | .store ..,_,h,_ | .new ..,_,h,_ | .shape ..,_,h,_ | .freeze ..,_,h,_ | .frozen ..,_,h,_ | .getObj ..,_,h,_ | .setObj ..,_,h,_
  | .choose ..,_,h,_ | .sys ..,_,h,_ | .halt ..,_,h,_ => by simp [calm] at h
def cv0 : Value→V
  | .int k n => .int k n
  | .bool b => .sb b
  | v => .any v
theorem cv0_den (σ : Sg) (E : EH) (v : Value) : Den σ E (cv0 v) v:=by
  cases v <;> simp [cv0,Den]
theorem denL_cv0 (σ : Sg) (E : EH) : ∀ (l : List Value),DenL σ E (l.map cv0) l
  | [] => .nil
  | v :: l => .cons (cv0_den σ E v) (denL_cv0 σ E l)
theorem denC_cv0 (σ : Sg) (E : EH) : ∀ (l : List Value),l.all Value.oneCell' = true→DenC σ E (l.map cv0) l
  | [],_ => .nil
  | v :: l,h => by
    simp only [List.all_cons,Bool.and_eq_true] at h
    exact .cons1 (cv0_den σ E v) h.1 (denC_cv0 σ E l h.2)
def cv : Value→V
  | .agg cs => match cs.toList.all Value.oneCell' with | true => .agg (cs.toList.map cv0) | false => .any (.agg cs)
  | .tuple cs => .tup (cs.toList.map cv0)
  | .int k n => .int k n
  | .bool b => .sb b
  | v => .any v
theorem cv_den (σ : Sg) (E : EH) (v : Value) : Den σ E (cv v) v:=by
  cases v with
  | agg cs =>
    simp only [cv]
    split
    · rename_i h; simp only [Den]; exact ⟨cs.toList,by simp,denC_cv0 σ E _ h⟩
    · simp [Den]
  | tuple cs => simp only [cv,Den]; exact ⟨cs.toList,by simp,denL_cv0 σ E _⟩
  | _ => simp [cv,Den]
def cvc1 : Value→V
  | .bool true => .tt
  | .bool false => .ff
  | .int k n => .lit k n
  | v => .any v
theorem cvc1_den (σ : Sg) (E : EH) (v : Value) : Den σ E (cvc1 v) v:=by
  cases v with
  | bool b => cases b <;> simp [cvc1,Den]
  | _ => simp [cvc1,Den]
theorem denL_cvc1 (σ : Sg) (E : EH) : ∀ (l : List Value),DenL σ E (l.map cvc1) l
  | [] => .nil
  | v :: l => .cons (cvc1_den σ E v) (denL_cvc1 σ E l)
theorem denC_cvc1 (σ : Sg) (E : EH) : ∀ (l : List Value),l.all Value.oneCell' = true→DenC σ E (l.map cvc1) l
  | [],_ => .nil
  | v :: l,h => by
    simp only [List.all_cons,Bool.and_eq_true] at h
    exact .cons1 (cvc1_den σ E v) h.1 (denC_cvc1 σ E l h.2)
def cvc : Value→V
  | .agg cs => match cs.toList.all Value.oneCell' with | true => .agg (cs.toList.map cvc1) | false => .any (.agg cs)
  | .tuple cs => .tup (cs.toList.map cvc1)
  | v => cvc1 v
theorem cvc_den (σ : Sg) (E : EH) (v : Value) : Den σ E (cvc v) v:=by
  cases v with
  | agg cs =>
    simp only [cvc]
    split
    · rename_i h; simp only [Den]; exact ⟨cs.toList,by simp,denC_cvc1 σ E _ h⟩
    · simp [Den]
  | tuple cs => simp only [cvc,Den]; exact ⟨cs.toList,by simp,denL_cvc1 σ E _⟩
  | bool b => simp only [cvc]; exact cvc1_den σ E _
  | _ => simp [cvc,cvc1,Den]
mutual
def V.val? : V→Option Value
  | .any v => some v
  | .int k n => some (.int k n)
  | .lit k n => some (.int k n)
  | .sb b => some (.bool b)
  | .tt => some (.bool true)
  | .ff => some (.bool false)
  | .dat (.val v) => some v
  | .agg l => match V.vals? l with | some vs => some (.agg vs.toArray) | none => none
  | .tup l => match V.vals? l with | some vs => some (.tuple vs.toArray) | none => none
  | .fn f cap => match V.vals? cap with | some vs => some (.func (.func f) #[] vs.toArray) | none => none
  | _ => none
def V.vals? : List V→Option (List Value)
  | [] => some []
  | v :: vs => match V.val? v with
    | some x => match V.vals? vs with | some xs => some (x :: xs) | none => none
    | none => none
end
mutual
theorem val?_den {σ : Sg} {E : EH} : ∀ {v : V} {x : Value},V.val? v = some x→∀ {y : Value},Den σ E v y→y = x
  | .any _,_,h,_,hd | .int ..,_,h,_,hd | .lit ..,_,h,_,hd | .sb _,_,h,_,hd | .tt,_,h,_,hd | .ff,_,h,_,hd => by
    simp [V.val?] at h; subst h; simpa [Den] using hd
  | .dat d,x,h,y,hd => by
    cases d with
    | val v => simp [V.val?] at h; subst h; simp only [Den,RepD] at hd; exact hd.1
    | sl _ _ => simp [V.val?] at h
  | .agg l,x,h,y,hd => by
    simp only [V.val?] at h
    cases hl : V.vals? l with
    | none => simp [hl] at h
    | some vs =>
      simp [hl] at h; subst h
      simp only [Den] at hd
      obtain ⟨xs,rfl,hd⟩:=hd
      rw [valsC?_den hl hd]
  | .tup l,x,h,y,hd => by
    simp only [V.val?] at h
    cases hl : V.vals? l with
    | none => simp [hl] at h
    | some vs =>
      simp [hl] at h; subst h
      simp only [Den] at hd
      obtain ⟨xs,rfl,hd⟩:=hd
      rw [vals?_den hl hd]
  | .fn f l,x,h,y,hd => by
    simp only [V.val?] at h
    cases hl : V.vals? l with
    | none => simp [hl] at h
    | some vs =>
      simp [hl] at h; subst h
      simp only [Den] at hd
      obtain ⟨xs,rfl,hd⟩:=hd
      rw [vals?_den hl hd]
  | .ptr ..,_,h,_,_ | .pa ..,_,h,_,_ | .sl ..,_,h,_,_ | .pe ..,_,h,_,_ | .pw ..,_,h,_,_ | .e0,_,h,_,_ | .sa ..,_,h,_,_ | .se ..,_,h,_,_ | .ipe ..,_,h,_,_ | .ipo _,_,h,_,_ | .imp ..,_,h,_,_ | .mp _,_,h,_,_ | .ch _,_,h,_,_ | .arr ..,_,h,_,_ => by simp [V.val?] at h
theorem vals?_den {σ : Sg} {E : EH} : ∀ {vs : List V} {xs : List Value},V.vals? vs = some xs→∀ {ys : List Value},DenL σ E vs ys→ys = xs
  | [],_,h,_,hd => by simp [V.vals?] at h; subst h; simpa [DenL] using hd
  | v :: vs,xs,h,ys,hd => by
    simp only [V.vals?] at h
    cases h1 : V.val? v with
    | none => simp [h1] at h
    | some x =>
      cases h2 : V.vals? vs with
      | none => simp [h1,h2] at h
      | some xs' =>
        simp [h1,h2] at h; subst h
        simp only [DenL] at hd
        obtain ⟨y,ys',rfl,hy,hys⟩:=hd
        rw [val?_den h1 hy,vals?_den h2 hys]
theorem valsC?_den {σ : Sg} {E : EH} : ∀ {vs : List V} {xs : List Value},V.vals? vs = some xs→∀ {ys : List Value},DenC σ E vs ys→ys = xs
  | [],_,h,_,hd => by simp [V.vals?] at h; subst h; simpa [DenC] using hd
  | v :: vs,xs,h,ys,hd => by
    simp only [V.vals?] at h
    cases h1 : V.val? v with
    | none => simp [h1] at h
    | some x =>
      cases h2 : V.vals? vs with
      | none => simp [h1,h2] at h
      | some xs' =>
        simp [h1,h2] at h; subst h
        simp only [DenC] at hd
        obtain ⟨us,zs,rfl,hp,hys⟩:=hd
        rcases hp with ⟨y,rfl,_,hy⟩ | ⟨m,cs,rfl,_,_⟩
        · rw [val?_den h1 hy,valsC?_den h2 hys]; rfl
        · simp [V.val?] at h1
end
mutual
def V.det : V→Bool
  | .any _ | .int .. | .lit .. | .sb _ | .tt | .ff | .ptr .. | .pa .. | .pe .. | .pw .. | .mp _ | .ch _ => true
  | .dat (.val _) => true
  | .agg l => V.detL l
  | .tup l => V.detL l
  | _ => false
def V.detL : List V→Bool
  | [] => true
  | v :: vs => match V.det v with | true => V.detL vs | false => false
end
mutual
theorem det_den {σ τ : Sg} {E E' : EH} : ∀ {v : V},V.det v = true→∀ {x y : Value},Den σ E v x→Den (σ ++ τ) E' v y→x = y
  | .any _,_,_,_,h,k | .int ..,_,_,_,h,k | .lit ..,_,_,_,h,k | .sb _,_,_,_,h,k | .tt,_,_,_,h,k | .ff,_,_,_,h,k => by simp only [Den] at h k; rw [h,k]
  | .ptr i off,_,_,_,h,k => by
    simp only [Den] at h k
    obtain ⟨r,h1,rfl⟩:=h
    obtain ⟨r',h2,rfl⟩:=k
    rw [sg_ext h1] at h2; cases h2; rfl
  | .pa i base o,_,_,_,h,k => by
    simp only [Den] at h k
    obtain ⟨r,h1,rfl⟩:=h
    obtain ⟨r',h2,rfl⟩:=k
    rw [sg_ext h1] at h2; cases h2; rfl
  | .pe i ix fld,_,_,_,h,k => by
    simp only [Den] at h k
    obtain ⟨r,h1,rfl⟩:=h
    obtain ⟨r',h2,rfl⟩:=k
    rw [sg_ext h1] at h2; cases h2; rfl
  | .pw i ix,_,_,_,h,k => by
    simp only [Den] at h k
    obtain ⟨r,h1,rfl⟩:=h
    obtain ⟨r',h2,rfl⟩:=k
    rw [sg_ext h1] at h2; cases h2; rfl
  | .mp i,_,_,_,h,k => by
    simp only [Den] at h k
    obtain ⟨r,h1,rfl⟩:=h
    obtain ⟨r',h2,rfl⟩:=k
    rw [sg_ext h1] at h2; cases h2; rfl
  | .ch i,_,_,_,h,k => by
    simp only [Den] at h k
    obtain ⟨r,h1,rfl⟩:=h
    obtain ⟨r',h2,rfl⟩:=k
    rw [sg_ext h1] at h2; cases h2; rfl
  | .dat d,hd,_,_,h,k => by
    cases d with
    | val v => simp only [Den,RepD] at h k; rw [h.1,k.1]
    | sl _ _ => simp [V.det] at hd
  | .agg l,hd,_,_,h,k => by
    simp only [V.det] at hd
    simp only [Den] at h k
    obtain ⟨xs,rfl,h1⟩:=h
    obtain ⟨ys,rfl,h2⟩:=k
    rw [detC_den hd h1 h2]
  | .tup l,hd,_,_,h,k => by
    simp only [V.det] at hd
    simp only [Den] at h k
    obtain ⟨xs,rfl,h1⟩:=h
    obtain ⟨ys,rfl,h2⟩:=k
    rw [detL_den hd h1 h2]
  | .sl ..,h,_,_,_,_ | .e0,h,_,_,_,_ | .sa ..,h,_,_,_,_ | .se ..,h,_,_,_,_ | .ipe ..,h,_,_,_,_ | .ipo _,h,_,_,_,_ | .imp ..,h,_,_,_,_ | .fn ..,h,_,_,_,_ | .arr ..,h,_,_,_,_ => by simp [V.det] at h
theorem detL_den {σ τ : Sg} {E E' : EH} : ∀ {vs : List V},V.detL vs = true→∀ {xs ys : List Value},DenL σ E vs xs→DenL (σ ++ τ) E' vs ys→xs = ys
  | [],_,_,_,h,k => by simp only [DenL] at h k; rw [h,k]
  | v :: vs,hd,_,_,h,k => by
    simp only [V.detL] at hd
    split at hd
    · rename_i h0
      simp only [DenL] at h k
      obtain ⟨x,xs,rfl,h1,h2⟩:=h
      obtain ⟨y,ys,rfl,k1,k2⟩:=k
      rw [det_den h0 h1 k1,detL_den hd h2 k2]
    · cases hd
theorem detC_den {σ τ : Sg} {E E' : EH} : ∀ {vs : List V},V.detL vs = true→∀ {xs ys : List Value},DenC σ E vs xs→DenC (σ ++ τ) E' vs ys→xs = ys
  | [],_,_,_,h,k => by simp only [DenC] at h k; rw [h,k]
  | v :: vs,hd,_,_,h,k => by
    simp only [V.detL] at hd
    split at hd
    · rename_i h0
      simp only [DenC] at h k
      obtain ⟨xs,xs',rfl,h1,h2⟩:=h
      obtain ⟨ys,ys',rfl,k1,k2⟩:=k
      rcases h1 with ⟨x,rfl,_,h1⟩ | ⟨m,cs,rfl,_,_⟩
      · rcases k1 with ⟨y,rfl,_,k1⟩ | ⟨m,cs,rfl,_,_⟩
        · rw [det_den h0 h1 k1,detC_den hd h2 k2]
        · simp [V.det] at h0
      · simp [V.det] at h0
    · cases hd
end
def V.one : V→Bool
  | .any v => v.oneCell'
  | .agg _ | .tup _ | .arr .. => false
  | _ => true
theorem one_den {σ : Sg} {E : EH} {v : V} {x : Value} (h : V.one v = true) (hd : Den σ E v x) : x.oneCell' = true:=by
  cases v <;> (try simp only [V.one,Bool.false_eq_true] at h) <;> simp only [Den] at hd
  case any v => subst hd; exact h
  case int => subst hd; rfl
  case mp => obtain ⟨r,_,rfl⟩:=hd; rfl
  case ch => obtain ⟨r,_,rfl⟩:=hd; rfl
  case lit => subst hd; rfl
  case sb => subst hd; rfl
  case tt => subst hd; rfl
  case ff => subst hd; rfl
  case ptr => obtain ⟨r,_,rfl⟩:=hd; rfl
  case pa => obtain ⟨r,_,rfl⟩:=hd; rfl
  case sl => obtain ⟨r,a,_,rfl,_⟩:=hd; rfl
  case pe => obtain ⟨r,_,rfl⟩:=hd; rfl
  case pw => obtain ⟨r,_,rfl⟩:=hd; rfl
  case e0 => obtain ⟨a,rfl⟩:=hd; rfl
  case sa => obtain ⟨r,a,_,rfl,_⟩:=hd; rfl
  case se => obtain ⟨r,a,_,rfl,_⟩:=hd; rfl
  case ipe => obtain ⟨b,off,rfl,_⟩:=hd; rfl
  case ipo => rcases hd with ⟨_,rfl⟩ | ⟨e,b,_,rfl,_⟩ <;> rfl
  case imp => obtain ⟨a,rfl,_⟩:=hd; rfl
  case dat d => exact hd.one
  case fn => obtain ⟨vs,rfl,_⟩:=hd; rfl
def tSize (P : Program) (t : TypeId) : Option Nat:=(P.info? t).map (·.size)
def tAgg (P : Program) (t : TypeId) : Option Bool :=
  match P.underlying t with
  | some (.struct _) => some true
  | some (.array _ _) => some true
  | some _ => some false
  | none => none
theorem run_tSize {P : Program} {t : TypeId} {n : Nat} (h : tSize P t = some n) (w : World) : (Go.sizeOf t).run P w = .ok n w:=by
  simp only [tSize,Option.map_eq_some_iff] at h
  obtain ⟨i,hi,rfl⟩:=h
  simp [Go.sizeOf,typeInfo,hi]
theorem run_tAgg {P : Program} {t : TypeId} {b : Bool} (h : tAgg P t = some b) (w : World) : (isAgg t).run P w = .ok b w:=by
  unfold tAgg at h
  cases hu : P.underlying t with
  | none => simp [hu] at h
  | some d =>
    unfold isAgg
    rw [Sem.run_bind,run_underlying hu,Result.andThen_ok]
    simp only [hu] at h
    cases d <;> simp at h <;> subst h <;> rfl
inductive CK where
  | int (k : IntKind)
  | bool
  | sl (s : Nat)
  | other
  | arr (m : Nat) (z : Value)
  deriving Inhabited
def CK.w : CK→Nat
  | .arr m _ => m
  | _ => 1
def wk : List CK→Nat
  | [] => 0
  | k :: ks => k.w + wk ks
def kindsOf (P : Program) : Nat→TypeId→Option (List CK)
  | 0,_ => none
  | n + 1,t =>
    match P.underlying t with
    | some (.struct fs) => fs.toList.foldr (fun f acc => match kindsOf P n f.type,acc with | some a,some b => some (a ++ b) | _,_ => none) (some [])
    | some (.array m e) => match kindsOf P n e with
      | some [.int k] => some [.arr m (.int k 0)]
      | some [.bool] => some [.arr m (.bool false)]
      | some [.arr q z] => some [.arr (m * q) z]
      | some l => some (List.replicate m l).flatten
      | none => none
    | some (.int k) => some [.int k]
    | some .bool => some [.bool]
    | some (.slice e) => match tSize P e with | some s => some [.sl s] | none => none
    | some _ => some [.other]
    | none => none
def loadE (e : List D) : Nat→List CK→(List V→Prop)→Prop
  | _,[],K => K []
  | fld,.int k :: ks,K => ∃ n,e[fld]? = some (.val (.int k n))∧loadE e (fld + 1) ks (fun r => K (.int k n :: r))
  | fld,.bool :: ks,K => ∃ b,e[fld]? = some (.val (.bool b))∧loadE e (fld + 1) ks (fun r => K (.sb b :: r))
  | fld,.sl s :: ks,K => ∃ l,e[fld]? = some (.sl s l)∧loadE e (fld + 1) ks (fun r => K (.dat (.sl s l) :: r))
  | fld,.other :: ks,K => ∃ d,e[fld]? = some d∧loadE e (fld + 1) ks (fun r => K (.dat d :: r))
  | fld,.arr m _ :: ks,K => fld + m ≤ e.length∧loadE e (fld + m) ks (fun r => K (.arr m ((e.drop fld).take m) :: r))
theorem loadE_ok {σ : Sg} {E : EH} {e : List D} {zs : List Value} (hz : DenD E e zs) : ∀ {ks : List CK} {fld : Nat} {K : List V→Prop},loadE e fld ks K →
    ∃ vs xs,K vs∧DenC σ E vs xs∧xs.length = wk ks∧∀ (j : Nat) (x : Value),xs[j]? = some x→zs[fld + j]? = some x
  | [],_,K,h => ⟨[],[],h,.nil,rfl,by simp⟩
  | ck :: ks,fld,K,h => by
    have cons1 : ∀ {d : D} {v : V},e[fld]? = some d→(∀ x,RepD E d x→Den σ E v x)→loadE e (fld + 1) ks (fun r => K (v :: r))→ck.w = 1 →
        ∃ vs xs,K vs∧DenC σ E vs xs∧xs.length = wk (ck :: ks)∧∀ (j : Nat) (x : Value),xs[j]? = some x→zs[fld + j]? = some x:=by
      intro d v h1 hv h2 hw
      obtain ⟨y,hy,hd⟩:=hz.get h1
      obtain ⟨vs,xs,hK,hD,hl,hx⟩:=loadE_ok hz h2
      refine ⟨_,y :: xs,hK,.cons1 (hv y hd) hd.one hD,by simp [hl,wk,hw]; omega,fun j x hj => ?_⟩
      cases j with
      | zero => simp at hj; subst hj; exact hy
      | succ j => rw [show fld + (j + 1) = fld + 1 + j by omega]; exact hx j x (by simpa using hj)
    cases ck with
    | int k => obtain ⟨n,h1,h2⟩:=h; exact cons1 h1 (fun x hx => by simp only [RepD] at hx; simp [Den,hx.1]) h2 rfl
    | bool => obtain ⟨n,h1,h2⟩:=h; exact cons1 h1 (fun x hx => by simp only [RepD] at hx; simp [Den,hx.1]) h2 rfl
    | sl s => obtain ⟨l,h1,h2⟩:=h; exact cons1 h1 (fun x hx => by simpa only [Den] using hx) h2 rfl
    | other => obtain ⟨d,h1,h2⟩:=h; exact cons1 h1 (fun x hx => by simpa only [Den] using hx) h2 rfl
    | arr m z =>
      obtain ⟨h1,h2⟩:=h
      obtain ⟨vs,xs,hK,hD,hl,hx⟩:=loadE_ok hz h2
      have hzl:=hz.len
      have hlen : ((zs.drop fld).take m).length = m:=by simp; omega
      refine ⟨_,(zs.drop fld).take m ++ xs,hK,.cons (.inr ⟨m,_,rfl,by simp; omega,(hz.drop fld).take m⟩) hD,by rw [List.length_append,hlen,hl]; rfl,fun j x hj => ?_⟩
      rcases Nat.lt_or_ge j m with hjm | hjm
      · rw [List.getElem?_append_left (by omega),List.getElem?_take_of_lt hjm,List.getElem?_drop] at hj
        exact hj
      · rw [List.getElem?_append_right (by omega),hlen] at hj
        have:=hx _ x hj
        rwa [show fld + m + (j - m) = fld + j by omega] at this
theorem run_load_cells {P : Program} {t : TypeId} {n : Nat} {agg : Bool} (hn : tSize P t = some n) (ha : tAgg P t = some agg) {W : World} {b o : Nat} {xs : List Value}
    (hl : xs.length = if agg then n else 1) (hx : ∀ (j : Nat) (x : Value),xs[j]? = some x→W.cell? ⟨b,o + j,none⟩ = some x) :
    (loadVar t ⟨b,o,none⟩).run P W = .ok (if agg then .agg xs.toArray else xs.getD 0 undef) W:=by
  unfold loadVar
  rw [Sem.run_bind,run_tAgg ha,Result.andThen_ok]
  cases agg with
  | true =>
    simp only [if_true] at hl ⊢
    have hc:=run_loadCells_list (P:=P) W ⟨b,o,none⟩ xs (fun j v hj => by rw [Addr.add_lit]; exact hx j v hj)
    rw [hl] at hc
    simp [run_tSize hn,hc]
  | false =>
    simp only [Bool.false_eq_true,if_false] at hl ⊢
    match xs,hl with
    | [x],_ =>
      have:=hx 0 x rfl
      simp at this
      simp [run_load,this]
def wrapK (agg : Bool) (vs : List V) (K : V→Prop) : Prop :=
  match agg with
  | true => K (.agg vs)
  | false => match vs with
    | [.arr _ _] => False
    | [v] => K v
    | _ => False
theorem wrapK_ok {agg : Bool} {vs : List V} {K : V→Prop} (h : wrapK agg vs K) {σ : Sg} {E : EH} {xs : List Value} (hd : DenC σ E vs xs) :
    ∃ v,K v∧Den σ E v (if agg then .agg xs.toArray else xs.getD 0 undef)∧(agg = false→xs.length = 1):=by
  unfold wrapK at h
  split at h
  · exact ⟨_,h,by simp only [if_true,Den]; exact ⟨xs,rfl,hd⟩,fun h => by cases h⟩
  · split at h
    · exact h.elim
    · rename_i v hv
      obtain ⟨ys,zs,rfl,h1,h2⟩:=hd.uncons
      simp only [DenC] at h2
      subst h2
      rcases h1 with ⟨y,rfl,_,hy⟩ | ⟨m,cs,rfl,_,_⟩
      · exact ⟨v,h,by simpa using hy,fun _ => rfl⟩
      · exact (hv _ _ rfl).elim
    · exact h.elim
def cellsN : Bool→Nat→Nat
  | true,n => n
  | false,_ => 1
theorem cellsN_eq (agg : Bool) (n : Nat) : cellsN agg n = if agg then n else 1:=by cases agg <;> rfl
def loadK (P : Program) (t : TypeId) (addr : V) (kb : KB) (K : V→Prop) : Prop :=
  match tSize P t,tAgg P t with
  | some n,some agg =>
    match addr with
    | .ptr i off =>
      match kb[i]? with
      | some (.cells l) =>
        match dropW l off with
        | some r => match takeW r (cellsN agg n) with
          | some vs => wrapK agg vs K
          | none => False
        | none => False
      | _ => False
    | _ => match kindsOf P 20 t with
      | some ks => match Nat.beq (wk ks) (cellsN agg n) with
        | true => match addr with
          | .pa i base o => match kb[i]? with
            | some (.cells l) => match pieceAt l base with
              | some (.arr m cs) => loadE cs o ks (fun vs => wrapK agg vs K)
              | _ => False
            | _ => False
          | .pe i ix fld => match kb[i]? with
            | some (.row _ sz l) => ∃ e,l[ix]? = some e∧loadE e fld ks (fun vs => wrapK agg vs K)
            | _ => False
          | .pw i ix => match kb[i]? with
            | some (.row _ sz l) => loadE (l.drop ix).flatten 0 ks (fun vs => wrapK agg vs K)
            | _ => False
          | .ipe e fld => loadE e fld ks (fun vs => wrapK agg vs K)
          | _ => False
        | false => False
      | none => False
  | _,_ => False
theorem cell_of_heap {W : World} {b o : Nat} {arr : Array Value} {ty : TypeId} {fr : Nat × Nat} (h : W.heap[b]? = some (.cells arr ty fr)) : W.cell? ⟨b,o,none⟩ = arr[o]?:=by
  simp [World.cell?,h]
theorem row_cells {σ : Sg} {E : EH} {W : World} {r : Re} {ty : TypeId} {sz : Nat} {l : List (List D)} (h : HoldsO σ E W r (.row ty sz l)) (ix : Nat) :
    ∃ zs,DenD E (l.drop ix).flatten zs∧∀ (j : Nat) (x : Value),zs[j]? = some x→W.cell? ⟨r.blk,ix * r.sz + j,none⟩ = some x:=by
  obtain ⟨rfl,h1,h2,h3,h4⟩:=h
  rcases h4 with h4 | ⟨arr,h4,h5,h6⟩
  · have : l = []:=List.eq_nil_of_length_eq_zero (by omega)
    subst this
    exact ⟨[],by simpa using DenD.nil,by simp⟩
  · refine ⟨_,by rw [flat_drop h1]; exact h6.drop (ix * r.sz),fun j x hj => ?_⟩
    rw [cell_of_heap h4]
    rw [List.getElem?_drop] at hj
    have hlt : ix * r.sz + j < l.length * r.sz:=by
      have:=(List.getElem?_eq_some_iff.1 hj).1
      simp only [List.length_take] at this
      omega
    rw [List.getElem?_take_of_lt hlt] at hj
    simpa using hj
theorem row_elem {σ : Sg} {E : EH} {W : World} {r : Re} {ty : TypeId} {sz : Nat} {l : List (List D)} (h : HoldsO σ E W r (.row ty sz l)) {ix : Nat} {e : List D} (he : l[ix]? = some e) :
    ∃ zs,DenD E e zs∧∀ (j : Nat) (x : Value),zs[j]? = some x→W.cell? ⟨r.blk,ix * r.sz + j,none⟩ = some x:=by
  obtain ⟨zs,h1,h2⟩:=row_cells h ix
  have hx : ix < l.length:=(List.getElem?_eq_some_iff.1 he).1
  have hd : l.drop ix = e :: l.drop (ix + 1):=by
    rw [List.drop_eq_getElem_cons hx]
    congr 1
    rw [List.getElem?_eq_getElem hx] at he
    exact Option.some.inj he
  rw [hd,List.flatten_cons] at h1
  obtain ⟨ys,us,rfl,h3,h4⟩:=h1.split
  exact ⟨ys,h3,fun j x hj => h2 j x (by rw [List.getElem?_append_left (List.getElem?_eq_some_iff.1 hj).1]; exact hj)⟩
theorem piece_cells {σ : Sg} {E : EH} {W : World} {r : Re} {l : List V} (h : HoldsO σ E W r (.cells l)) {base m : Nat} {cs : List D} (hp : pieceAt l base = some (.arr m cs)) :
    ∃ zs,DenD E cs zs∧∀ (j : Nat) (x : Value),zs[j]? = some x→W.cell? ⟨r.blk,base + j,none⟩ = some x:=by
  obtain ⟨arr,ty,h1,h2⟩:=h
  obtain ⟨ys,h3,h4,h5,h6⟩:=pieceAt_arr hp h2
  refine ⟨ys,h3,fun j x hj => ?_⟩
  rw [cell_of_heap h1]
  have hlt : j < m:=by
    have:=(List.getElem?_eq_some_iff.1 hj).1
    rw [h3.len] at this; omega
  rw [← h6,List.getElem?_take_of_lt hlt,List.getElem?_drop] at hj
  simpa using hj
theorem imm_cell {E : EH} {W : World} (hi : ∀ b o,E b = some o→W.heap[b]? = some o) {b o : Nat} {x : Value} (h : E.cell b o = some x) : W.cell? ⟨b,o,none⟩ = some x:=by
  unfold EH.cell at h
  split at h
  · rename_i c ty fr hb
    rw [cell_of_heap (hi b _ hb)]; exact h
  · cases h
def WExt (W W' : World) : Prop:=∀ k,k < W.heap.size→W'.heap[k]? = W.heap[k]?
theorem WExt.refl (W : World) : WExt W W:=fun _ _ => rfl
theorem WExt.cell {W W' : World} (h : WExt W W') {ad : Addr} {x : Value} (hc : W.cell? ad = some x) : W'.cell? ad = some x:=by
  unfold World.cell? at hc ⊢
  have hb : ad.block < W.heap.size:=by
    rcases Nat.lt_or_ge ad.block W.heap.size with h' | h'
    · exact h'
    · rw [Array.getElem?_eq_none h'] at hc; cases hc
  rw [h _ hb]; exact hc
theorem loadK_okS {P : Program} {t : TypeId} {addr : V} {kb : KB} {K : V→Prop} (h : loadK P t addr kb K) {σ : Sg} {E : EH} {W : World} (hi : Inv σ E kb W) {a : Value} (hd : Den σ E addr a) :
    ∃ v x,(∀ W',WExt W W'→(Instr.loadAt t a).run P W' = .ok x W')∧Den σ E v x∧K v:=by
  unfold loadK at h
  split at h <;> try exact h.elim
  rename_i n agg hn ha
  have fin : ∀ {b o : Nat} {vs : List V} {xs : List Value},a = .pointer (some ⟨b,o,none⟩)→wrapK agg vs K→DenC σ E vs xs→xs.length = cellsN agg n→(∀ (j : Nat) (x : Value),xs[j]? = some x→W.cell? ⟨b,o + j,none⟩ = some x) →
      ∃ v x,(∀ W',WExt W W'→(Instr.loadAt t a).run P W' = .ok x W')∧Den σ E v x∧K v:=by
    rintro b o vs xs rfl hK hD hl hc
    obtain ⟨v,h1,h2,h3⟩:=wrapK_ok hK hD
    rw [cellsN_eq] at hl
    exact ⟨v,_,fun W' hW => by simpa [Instr.loadAt,Instr.sureAddr] using run_load_cells hn ha hl (fun j x hj => hW.cell (hc j x hj)),h2,h1⟩
  split at h
  · rename_i i off
    simp only [Den] at hd
    obtain ⟨r,hr,rfl⟩:=hd
    split at h <;> try exact h.elim
    rename_i l hl
    split at h <;> try exact h.elim
    rename_i l1 hl1
    split at h <;> try exact h.elim
    rename_i vs hvs
    obtain ⟨arr,ty,hh,hD⟩:=hi.obj i r _ hr hl
    obtain ⟨d1,_⟩:=dropW_ok hl1 hD
    obtain ⟨d2,d3⟩:=takeW_ok hvs d1
    refine fin rfl h d2 (by rw [List.length_take]; omega) (fun j x hj => ?_)
    rw [cell_of_heap hh]
    have hlt : j < cellsN agg n:=by
      have:=(List.getElem?_eq_some_iff.1 hj).1
      simp only [List.length_take] at this
      omega
    rw [List.getElem?_take_of_lt hlt,List.getElem?_drop] at hj
    simpa using hj
  · split at h <;> try exact h.elim
    rename_i ks hks
    split at h <;> try exact h.elim
    rename_i hb
    have hw:=Nat.eq_of_beq_eq_true hb
    split at h <;> try exact h.elim
    · rename_i i base o _
      simp only [Den] at hd
      obtain ⟨r,hr,rfl⟩:=hd
      split at h <;> try exact h.elim
      rename_i l hl
      split at h <;> try exact h.elim
      rename_i m cs hp
      obtain ⟨zs,h1,h2⟩:=piece_cells (hi.obj i r _ hr hl) hp
      obtain ⟨vs,xs,hK,hD,hxl,hx⟩:=loadE_ok (σ:=σ) h1 h
      exact fin rfl hK hD (hxl.trans hw) (fun j x hj => by rw [Nat.add_assoc]; exact h2 _ _ (hx j x hj))
    · rename_i i ix fld _
      simp only [Den] at hd
      obtain ⟨r,hr,rfl⟩:=hd
      split at h <;> try exact h.elim
      rename_i ty sz l hl
      obtain ⟨e,he,h⟩:=h
      obtain ⟨zs,h1,h2⟩:=row_elem (hi.obj i r _ hr hl) he
      obtain ⟨vs,xs,hK,hD,hxl,hx⟩:=loadE_ok (σ:=σ) h1 h
      exact fin rfl hK hD (hxl.trans hw) (fun j x hj => by rw [Nat.add_assoc]; exact h2 _ _ (hx j x hj))
    · rename_i i ix _
      simp only [Den] at hd
      obtain ⟨r,hr,rfl⟩:=hd
      split at h <;> try exact h.elim
      rename_i ty sz l hl
      obtain ⟨zs,h1,h2⟩:=row_cells (hi.obj i r _ hr hl) ix
      obtain ⟨vs,xs,hK,hD,hxl,hx⟩:=loadE_ok (σ:=σ) h1 h
      exact fin rfl hK hD (hxl.trans hw) (fun j x hj => by have:=h2 _ _ (hx j x hj); rwa [Nat.zero_add] at this)
    · rename_i e fld _
      simp only [Den] at hd
      obtain ⟨b,off,rfl,hrep⟩:=hd
      obtain ⟨zs,h1,h2⟩:=hrep.denD
      obtain ⟨vs,xs,hK,hD,hxl,hx⟩:=loadE_ok (σ:=σ) h1 h
      exact fin rfl hK hD (hxl.trans hw) (fun j x hj => by rw [Nat.add_assoc]; exact imm_cell hi.imm (h2 _ _ (hx j x hj)))
theorem loadK_ok {P : Program} {t : TypeId} {addr : V} {kb : KB} {K : V→Prop} (h : loadK P t addr kb K) {σ : Sg} {E : EH} {W : World} (hi : Inv σ E kb W) {a : Value} (hd : Den σ E addr a) :
    ∃ v x,(Instr.loadAt t a).run P W = .ok x W∧Den σ E v x∧K v:=by
  obtain ⟨v,x,h1,h2,h3⟩:=loadK_okS h hi hd
  exact ⟨v,x,h1 W (WExt.refl W),h2,h3⟩
theorem load_imm {P : Program} {t : TypeId} {e : List D} {fld : Nat} {kb : KB} {K : V→Prop} (h : loadK P t (.ipe e fld) kb K) {σ : Sg} {E : EH} {a : Value} (hd : Den σ E (.ipe e fld) a) :
    ∃ x,∀ {W : World},(∀ b o,E b = some o→W.heap[b]? = some o)→(Instr.loadAt t a).run P W = .ok x W:=by
  unfold loadK at h
  split at h <;> try exact h.elim
  rename_i n agg hn ha
  simp only at h
  split at h <;> try exact h.elim
  rename_i ks hks
  split at h <;> try exact h.elim
  rename_i hb
  have hw:=Nat.eq_of_beq_eq_true hb
  simp only [Den] at hd
  obtain ⟨b,off,rfl,hrep⟩:=hd
  obtain ⟨zs,h1,h2⟩:=hrep.denD
  obtain ⟨vs,xs,hK,hD,hxl,hx⟩:=loadE_ok (σ:=σ) h1 h
  have hl:=hxl.trans hw
  rw [cellsN_eq] at hl
  exact ⟨_,fun {W} hi => by simpa [Instr.loadAt,Instr.sureAddr] using run_load_cells hn ha hl (fun j x hj => by rw [Nat.add_assoc]; exact imm_cell hi (h2 _ _ (hx j x hj)))⟩
end Vc
set_option linter.unusedSimpArgs false
set_option linter.unusedVariables false
namespace Vc
open Go
def litD : V→Option D
  | .int k n => some (.val (.int k n))
  | .lit k n => some (.val (.int k n))
  | .sb b => some (.val (.bool b))
  | .tt => some (.val (.bool true))
  | .ff => some (.val (.bool false))
  | .dat d => some d
  | _ => none
theorem litD_ok {v : V} {d : D} (h : litD v = some d) {σ : Sg} {E : EH} {x : Value} (hd : Den σ E v x) : RepD E d x:=by
  cases v <;> simp only [litD,Option.some.injEq,reduceCtorEq] at h <;> subst h <;> simp only [Den] at hd <;>
    first | exact hd | (subst hd; simp [RepD,Value.oneCell'])
def pieceD : V→Option (List D)
  | .arr _ cs => some cs
  | v => match litD v with | some d => some [d] | none => none
theorem pieceD_ok {v : V} {ds : List D} (h : pieceD v = some ds) {σ : Sg} {E : EH} {ys : List Value} (hd : DenP1 σ E v ys) : DenD E ds ys:=by
  unfold pieceD at h
  split at h
  · cases h
    rcases hd with ⟨y,rfl,_,hy⟩ | ⟨m,cs,e,_,hD⟩
    · simp only [Den] at hy
    · cases e; exact hD
  · rename_i hna
    split at h <;> try (cases h; done)
    rename_i d hl
    cases h
    rcases hd with ⟨y,rfl,_,hy⟩ | ⟨m,cs,e,_,hD⟩
    · exact .cons (litD_ok hl hy) .nil
    · exact (hna _ _ e).elim
def gatherD : List V→Nat→Option (List D × List V)
  | vs,0 => some ([],vs)
  | [],_ + 1 => none
  | v :: vs,n + 1 => match subN (n + 1) v.w with
    | some 0 => match pieceD v with | some cs => some (cs,vs) | none => none
    | some (k + 1) => match pieceD v,gatherD vs (k + 1) with | some cs,some (ds,r) => some (cs ++ ds,r) | _,_ => none
    | none => none
theorem gatherD_ok : ∀ {vs : List V} {n : Nat} {ds : List D} {r : List V},gatherD vs n = some (ds,r)→∀ {σ : Sg} {E : EH} {xs : List Value},DenC σ E vs xs →
    ∃ ys zs,xs = ys ++ zs∧DenD E ds ys∧ys.length = n∧DenC σ E r zs
  | vs,0,ds,r,h,σ,E,xs,hd => by simp [gatherD] at h; obtain ⟨rfl,rfl⟩:=h; exact ⟨[],xs,rfl,.nil,rfl,hd⟩
  | [],n + 1,ds,r,h,_,_,_,_ => by simp [gatherD] at h
  | v :: vs,n + 1,ds,r,h,σ,E,xs,hd => by
    obtain ⟨ys,zs,rfl,h1,h2⟩:=hd.uncons
    simp only [gatherD] at h
    split at h
    · rename_i hk
      split at h <;> try (cases h; done)
      rename_i cs hcs
      cases h
      have:=subN_ok hk
      exact ⟨ys,zs,rfl,pieceD_ok hcs h1,by rw [h1.len]; omega,h2⟩
    · rename_i k hk
      split at h <;> try (cases h; done)
      rename_i cs es r' hcs hg
      cases h
      have:=subN_ok hk
      obtain ⟨us,ws,rfl,h3,h4,h5⟩:=gatherD_ok hg h2
      exact ⟨ys ++ us,ws,by simp,(pieceD_ok hcs h1).append h3,by rw [List.length_append,h1.len,h4]; omega,h5⟩
    · cases h
def normC : List CK→List V→Option (List V)
  | [],[] => some []
  | .arr m _ :: ks,vs => match gatherD vs m with
    | some (ds,r) => match normC ks r with | some us => some (.arr m ds :: us) | none => none
    | none => none
  | _ :: ks,v :: vs => match v with
    | .arr _ _ => none
    | _ => match normC ks vs with | some us => some (v :: us) | none => none
  | _,_ => none
theorem normC_ok : ∀ {ks : List CK} {vs us : List V},normC ks vs = some us→∀ {σ : Sg} {E : EH} {xs : List Value},DenC σ E vs xs→DenC σ E us xs∧xs.length = wk ks
  | [],[],us,h,σ,E,xs,hd => by simp [normC] at h; subst h; exact ⟨hd,by simp only [DenC] at hd; subst hd; rfl⟩
  | [],_ :: _,us,h,_,_,_,_ => by simp [normC] at h
  | c :: ks,vs,us,h,σ,E,xs,hd => by
    have single : ∀ {v : V} {vs' : List V},vs = v :: vs'→c.w = 1→(match v with | .arr _ _ => none | _ => match normC ks vs' with | some us => some (v :: us) | none => none) = some us→DenC σ E us xs∧xs.length = wk (c :: ks):=by
      rintro v vs' rfl hw h
      obtain ⟨ys,zs,rfl,h1,h2⟩:=hd.uncons
      split at h
      · cases h
      · rename_i hna
        split at h <;> try (cases h; done)
        rename_i us' hus
        cases h
        obtain ⟨h3,h4⟩:=normC_ok hus h2
        refine ⟨.cons h1 h3,?_⟩
        rw [List.length_append,h1.len,h4]
        have : v.w = 1:=by cases v <;> first | rfl | exact (hna _ _ rfl).elim
        rw [this]; simp [wk,hw]
    cases c with
    | arr m z =>
      simp only [normC] at h
      split at h <;> try (cases h; done)
      rename_i ds r hg
      split at h <;> try (cases h; done)
      rename_i us' hus
      cases h
      obtain ⟨ys,zs,rfl,h1,h2,h3⟩:=gatherD_ok hg hd
      obtain ⟨h4,h5⟩:=normC_ok hus h3
      exact ⟨.cons (.inr ⟨m,ds,rfl,by rw [← h1.len,h2],h1⟩) h4,by rw [List.length_append,h2,h5]; rfl⟩
    | int k => cases vs with | nil => simp [normC] at h | cons v vs' => exact single rfl rfl (by simpa only [normC] using h)
    | bool => cases vs with | nil => simp [normC] at h | cons v vs' => exact single rfl rfl (by simpa only [normC] using h)
    | sl s => cases vs with | nil => simp [normC] at h | cons v vs' => exact single rfl rfl (by simpa only [normC] using h)
    | other => cases vs with | nil => simp [normC] at h | cons v vs' => exact single rfl rfl (by simpa only [normC] using h)
def cellsV (P : Program) (t : TypeId) (v : V) : Option (List V) :=
  match tSize P t with
  | some n => match v with
    | .agg vs => match kindsOf P 20 t with
      | some ks => match Nat.beq (wk ks) n with | true => normC ks vs | false => none
      | none => none
    | _ => match Nat.beq n 1,V.one v with | true,true => some [v] | _,_ => none
  | none => none
theorem cellsV_ok {P : Program} {t : TypeId} {v : V} {vs : List V} (h : cellsV P t v = some vs) {σ : Sg} {E : EH} {x : Value} (hd : Den σ E v x) :
    ∃ xs,x.cells = xs.toArray∧DenC σ E vs xs∧(∀ y ∈ xs,y.oneCell' = true)∧tSize P t = some xs.length:=by
  unfold cellsV at h
  split at h <;> try (cases h; done)
  rename_i n hn
  split at h
  · split at h <;> try (cases h; done)
    rename_i ks hks
    split at h <;> try (cases h; done)
    rename_i hb
    simp only [Den] at hd
    obtain ⟨xs,rfl,hD⟩:=hd
    obtain ⟨h1,h2⟩:=normC_ok h hD
    exact ⟨xs,rfl,h1,h1.one,by rw [hn,h2,Nat.eq_of_beq_eq_true hb]⟩
  · split at h <;> try (cases h; done)
    rename_i h1 h2
    cases h
    have h3:=one_den h2 hd
    refine ⟨[x],?_,.cons1 hd h3 .nil,by simpa using h3,by rw [hn,Nat.eq_of_beq_eq_true h1]; rfl⟩
    cases x <;> simp_all [Value.cells,Value.oneCell']
def conv1 (c : CK) (v : V) (kb : KB) (K : D→KB→Prop) : Prop :=
  match v with
  | .int k n => K (.val (.int k n)) kb
  | .lit k n => K (.val (.int k n)) kb
  | .sb b => K (.val (.bool b)) kb
  | .tt => K (.val (.bool true)) kb
  | .ff => K (.val (.bool false)) kb
  | .dat d => K d kb
  | .any v => match c,v with
    | .sl s,.slice none 0 0 => K (.sl s []) kb
    | _,_ => match v.oneCell' with | true => K (.val v) kb | false => False
  | .e0 => match c with | .sl s => K (.sl s []) kb | _ => False
  | .fn f cap => match V.val? (.fn f cap) with | some v => K (.val v) kb | none => False
  | .sl i lo hi => match c,kb[i]? with
    | .sl s,some (.row _ sz l) => match Nat.beq sz s with
      | true => hi ≤ l.length∧K (.sl s ((l.take hi).drop lo)) (kb.set i .dead)
      | false => False
    | _,_ => False
  | _ => False
theorem take_drop_flat {sz : Nat} {l : List (List D)} (h : wl sz l) (lo hi : Nat) : ((l.take hi).drop lo).flatten = (l.flatten.drop (lo * sz)).take ((hi - lo) * sz):=by
  rw [flat_drop (h.take hi),flat_take h,List.drop_take,Nat.sub_mul]
theorem row_part {E : EH} {r : Re} {sz : Nat} {l : List (List D)} (hsz : r.sz = sz) (hw : wl sz l) {lo hi : Nat} (hlh : lo ≤ hi) (hhl : hi ≤ l.length) (hlc : l.length ≤ r.cap) {a : Option Addr} (ha : lo < r.cap→a = some ⟨r.blk,lo * r.sz,none⟩)
    (hrep : r.cap ≠ 0→RepC E l.flatten r.blk 0) : RepD E (.sl sz ((l.take hi).drop lo)) (.slice a (hi - lo) (r.cap - lo)):=by
  simp only [RepD]
  have hlen : ((l.take hi).drop lo).length = hi - lo:=by simp; omega
  refine ⟨a,r.cap - lo,by rw [hlen],by rw [hlen]; omega,?_⟩
  by_cases h0 : hi - lo = 0
  · left; rw [hlen]; exact h0
  · right
    refine ⟨r.blk,lo * r.sz,ha (by omega),RepL.of_flat ((hw.take hi).drop lo) ?_⟩
    rw [take_drop_flat hw,hsz]
    have:=(hrep (by omega)).sub (lo * sz) ((hi - lo) * sz)
    rwa [Nat.zero_add] at this
theorem conv1_ok {c : CK} {v : V} {kb : KB} {K : D→KB→Prop} (h : conv1 c v kb K) {σ : Sg} {E : EH} {W : World} (hi : Inv σ E kb W) {x : Value} (hd : Den σ E v x) :
    ∃ E' kb' d,Step σ E kb W σ E' kb' W∧RepD E' d x∧K d kb':=by
  have easy : ∀ {d : D},K d kb→RepD E d x→∃ E' kb' d,Step σ E kb W σ E' kb' W∧RepD E' d x∧K d kb':=fun hK hr => ⟨E,kb,_,Step.refl hi,hr,hK⟩
  unfold conv1 at h
  split at h
  · simp only [Den] at hd; exact easy h (by simp [RepD,hd,Value.oneCell'])
  · simp only [Den] at hd; exact easy h (by simp [RepD,hd,Value.oneCell'])
  · simp only [Den] at hd; exact easy h (by simp [RepD,hd,Value.oneCell'])
  · simp only [Den] at hd; exact easy h (by simp [RepD,hd,Value.oneCell'])
  · simp only [Den] at hd; exact easy h (by simp [RepD,hd,Value.oneCell'])
  · simp only [Den] at hd; exact easy h hd
  · simp only [Den] at hd
    split at h
    · exact easy h (by simp only [RepD]; exact ⟨none,0,by simpa using hd,by simp,.inl rfl⟩)
    · split at h
      · rename_i h1; exact easy h (by simp only [RepD]; exact ⟨hd,h1⟩)
      · exact h.elim
  · split at h <;> try exact h.elim
    simp only [Den] at hd
    obtain ⟨a,rfl⟩:=hd
    exact easy h (by simp only [RepD]; exact ⟨a,0,by simp,by simp,.inl rfl⟩)
  · split at h <;> try exact h.elim
    rename_i f cap v hv
    have hx:=val?_den hv hd
    subst hx
    exact easy h ⟨rfl,one_den (σ:=σ) (E:=E) (v:=.fn _ _) rfl hd⟩
  · rename_i i lo hi'
    split at h <;> try exact h.elim
    rename_i s ty sz l hl
    split at h <;> try exact h.elim
    rename_i hb
    have hsz:=Nat.eq_of_beq_eq_true hb
    subst hsz
    obtain ⟨hle,hK⟩:=h
    simp only [Den] at hd
    obtain ⟨r,a,hr,rfl,g1,g2,g3⟩:=hd
    obtain ⟨k1,k2,k3,k4,k5⟩:=hi.obj i r _ hr hl
    obtain ⟨E',h1,h2⟩:=hi.freeze hr hl
    exact ⟨E',_,_,h1,row_part k1 k2 g1 hle k3 g3 h2,hK⟩
  · exact h.elim
def appD (ds : List D) : List D→List D
  | [] => ds
  | e :: es => ds ++ e :: es
theorem appD_eq (ds es : List D) : appD ds es = ds ++ es:=by cases es <;> simp [appD]
def convK : List CK→List V→KB→(List D→KB→Prop)→Prop
  | [],[],kb,K => K [] kb
  | .arr m _ :: ks,vs,kb,K => match gatherD vs m with
    | some (ds,r) => convK ks r kb (fun es kb' => K (appD ds es) kb')
    | none => False
  | c :: ks,v :: vs,kb,K => conv1 c v kb (fun d kb' => convK ks vs kb' (fun es kb'' => K (d :: es) kb''))
  | _,_,_,_ => False
theorem convK_ok : ∀ {ks : List CK} {vs : List V} {kb : KB} {K : List D→KB→Prop},convK ks vs kb K→∀ {σ : Sg} {E : EH} {W : World},Inv σ E kb W→∀ {xs : List Value},DenC σ E vs xs →
    ∃ E' kb' ds,Step σ E kb W σ E' kb' W∧DenD E' ds xs∧xs.length = wk ks∧K ds kb'
  | [],[],kb,K,h,σ,E,W,hi,xs,hd => by
    simp only [DenC] at hd; subst hd
    exact ⟨E,kb,[],Step.refl hi,.nil,rfl,h⟩
  | [],_ :: _,kb,K,h,_,_,_,_,_,_ => h.elim
  | c :: ks,vs,kb,K,h,σ,E,W,hi,xs,hd => by
    have single : ∀ {v : V} {vs' : List V},vs = v :: vs'→c.w = 1→conv1 c v kb (fun d kb' => convK ks vs' kb' (fun es kb'' => K (d :: es) kb'')) →
        ∃ E' kb' ds,Step σ E kb W σ E' kb' W∧DenD E' ds xs∧xs.length = wk (c :: ks)∧K ds kb':=by
      rintro v vs' rfl hw h
      obtain ⟨ys,zs,rfl,h1,h2⟩:=hd.uncons
      rcases h1 with ⟨y,rfl,_,hy⟩ | ⟨m,cs,rfl,_,_⟩
      · obtain ⟨E1,kb1,d,s1,r1,h⟩:=conv1_ok h hi hy
        obtain ⟨τ,hτ⟩:=s1.pre
        have h2':=DenC.mono (τ:=[]) s1.le h2
        rw [List.append_nil] at h2'
        obtain ⟨E2,kb2,ds,s2,r2,hl,hK⟩:=convK_ok h s1.inv h2'
        refine ⟨E2,kb2,d :: ds,s1.trans s2,.cons (r1.mono s2.le) r2,?_,hK⟩
        simp only [List.length_append,List.length_cons,List.length_nil,hl,wk,hw]
      · exact h.elim
    cases c with
    | arr m z =>
      simp only [convK] at h
      split at h <;> try exact h.elim
      rename_i ds r hg
      obtain ⟨ys,zs,rfl,h1,h2,h3⟩:=gatherD_ok hg hd
      obtain ⟨E1,kb1,es,s1,r1,hl,hK⟩:=convK_ok h hi h3
      exact ⟨E1,kb1,ds ++ es,s1,(h1.mono s1.le).append r1,by rw [List.length_append,h2,hl]; rfl,by rw [← appD_eq]; exact hK⟩
    | int k => cases vs with | nil => exact h.elim | cons v vs' => exact single rfl rfl h
    | bool => cases vs with | nil => exact h.elim | cons v vs' => exact single rfl rfl h
    | sl s => cases vs with | nil => exact h.elim | cons v vs' => exact single rfl rfl h
    | other => cases vs with | nil => exact h.elim | cons v vs' => exact single rfl rfl h
def cellsD (P : Program) (t : TypeId) (v : V) (kb : KB) (K : List D→KB→Prop) : Prop :=
  match tSize P t,kindsOf P 20 t with
  | some n,some ks => match Nat.beq (wk ks) n with
    | true => match v with
      | .agg vs => convK ks vs kb K
      | _ => match ks with
        | [c] => match V.one v,Nat.beq n 1 with | true,true => conv1 c v kb (fun d kb' => K [d] kb') | _,_ => False
        | _ => False
    | false => False
  | _,_ => False
theorem cellsD_ok {P : Program} {t : TypeId} {v : V} {kb : KB} {K : List D→KB→Prop} (h : cellsD P t v kb K) {σ : Sg} {E : EH} {W : World} (hi : Inv σ E kb W) {x : Value} (hd : Den σ E v x) :
    ∃ E' kb' ds xs,Step σ E kb W σ E' kb' W∧x.cells = xs.toArray∧DenD E' ds xs∧K ds kb'∧tSize P t = some xs.length:=by
  unfold cellsD at h
  split at h <;> try exact h.elim
  rename_i n ks hn hks
  split at h <;> try exact h.elim
  rename_i hb
  have hw:=Nat.eq_of_beq_eq_true hb
  split at h
  · simp only [Den] at hd
    obtain ⟨xs,rfl,hD⟩:=hd
    obtain ⟨E1,kb1,ds,s1,r1,hl,hK⟩:=convK_ok h hi hD
    exact ⟨E1,kb1,ds,xs,s1,rfl,r1,hK,by rw [hn,hl,hw]⟩
  · rename_i hna
    split at h <;> try exact h.elim
    rename_i c
    split at h <;> try exact h.elim
    rename_i ho hn1
    obtain ⟨E1,kb1,d,s1,r1,hK⟩:=conv1_ok h hi hd
    have h3:=one_den ho hd
    refine ⟨E1,kb1,[d],[x],s1,?_,.cons r1 .nil,hK,by rw [hn,Nat.eq_of_beq_eq_true hn1]; rfl⟩
    cases x <;> simp_all [Value.cells,Value.oneCell']
theorem run_store_cells {P : Program} {t : TypeId} {x : Value} {xs : List Value} (hx : x.cells = xs.toArray) (hn : tSize P t = some xs.length) (h1 : ∀ y ∈ xs,y.oneCell' = true)
    {W : World} {b o : Nat} {arr : Array Value} {ty : TypeId} (hb : W.heap[b]? = some (.cells arr ty (0,0))) (hl : o + xs.length ≤ arr.size) :
    (storeVar t ⟨b,o,none⟩ x).run P W = .ok () (W.setRow b (splice arr.toList o xs).toArray):=by
  unfold storeVar
  rw [Sem.run_bind,run_tSize hn,Result.andThen_ok,hx]
  have hs:=run_storeCells_at P b o ty xs 0 arr W hb (by simpa using hl) h1
  simp only [Nat.add_zero] at hs
  simp [hs,splice]
theorem setRow_step {σ : Sg} {E : EH} {kb : KB} {W : World} (hi : Inv σ E kb W) {i : Nat} {r : Re} {o o' : KO} (hs : σ[i]? = some r) (hk : kb[i]? = some o) (arr : Array Value)
    (hr : ∀ b,owned r o b ↔ b = r.blk) (hr' : ∀ b,owned r o' b→b = r.blk) (ho : HoldsO σ E (W.setRow r.blk arr) r o') :
    Step σ E kb W σ E (kb.set i o') (W.setRow r.blk arr) :=
  hi.set hs hk rfl rfl rfl (by simp [World.setRow]) (fun b hb => setRow_other W r.blk b arr (fun e => hb ((hr b).2 e))) (fun b hb => (hr b).2 (hr' b hb)) ho
def storeK (P : Program) (t : TypeId) (addr v : V) (kb : KB) (K : KB→Prop) : Prop :=
  match addr with
  | .ptr i off => match cellsV P t v,kb[i]? with
    | some vs,some (.cells l) => match spliceW l off vs with
      | some l' => K (kb.set i (.cells l'))
      | none => False
    | _,_ => False
  | .pa i base o => match tSize P t with
    | some n => cellsD P t v kb (fun ds kb => match kb[i]? with
      | some (.cells l) => match pieceAt l base with
        | some (.arr m cs) => match spliceW l base [.arr m (splice cs o ds)] with
          | some l' => o + n ≤ m∧K (kb.set i (.cells l'))
          | none => False
        | _ => False
      | _ => False)
    | none => False
  | .pe i ix fld => match tSize P t with
    | some n => cellsD P t v kb (fun ds kb => match kb[i]? with
      | some (.row ty sz l) => match Nat.beq n sz with
        | true => match fld with
          | 0 => ix < l.length∧K (kb.set i (.row ty sz (l.set ix ds)))
          | _ => False
        | false => ∃ e,l[ix]? = some e∧fld + n ≤ sz∧K (kb.set i (.row ty sz (l.set ix (splice e fld ds))))
      | _ => False)
    | none => False
  | _ => False
theorem flat_set {sz : Nat} : ∀ {l : List (List D)},wl sz l→∀ {ix : Nat},ix < l.length→∀ {e : List D},e.length = sz →
    (l.set ix e).flatten = splice l.flatten (ix * sz) e
  | [],_,ix,h,_,_ => by simp at h
  | c :: l,hs,ix,h,e,he => by
    have hc : c.length = sz:=hs c (by simp)
    cases ix with
    | zero => simp [splice,he,← hc]
    | succ ix =>
      rw [List.set_cons_succ,List.flatten_cons,flat_set hs.cons (by simpa using h) he]
      have e1 : (ix + 1) * sz = c.length + ix * sz:=by rw [Nat.succ_mul,hc]; omega
      unfold splice
      rw [e1,List.flatten_cons,List.take_length_add_append,Nat.add_assoc c.length,List.drop_length_add_append]
      simp only [List.append_assoc]
theorem get_splice {α : Type} {l : List α} {off : Nat} {vs : List α} (h : off ≤ l.length) (j : Nat) : (splice l off vs)[j]? = if j < off then l[j]? else if j < off + vs.length then vs[j - off]? else l[j]?:=by
  have hl : (l.take off).length = off:=by simp; omega
  unfold splice
  by_cases h1 : j < off
  · rw [if_pos h1,List.append_assoc,List.getElem?_append_left (by omega),List.getElem?_take_of_lt h1]
  · rw [if_neg h1]
    by_cases h2 : j < off + vs.length
    · rw [if_pos h2,List.getElem?_append_left (by rw [List.length_append]; omega),List.getElem?_append_right (by omega),hl]
    · rw [if_neg h2,List.getElem?_append_right (by rw [List.length_append]; omega),List.getElem?_drop,List.length_append,hl]
      congr 1; omega
theorem splice_sub {α : Type} {l xs : List α} {base m o : Nat} (h : base + m ≤ l.length) (k : o + xs.length ≤ m) : splice l base (splice ((l.drop base).take m) o xs) = splice l (base + o) xs:=by
  have h1 : ((l.drop base).take m).length = m:=by simp; omega
  have h2 : (splice ((l.drop base).take m) o xs).length = m:=by rw [splice_len (by omega),h1]
  apply List.ext_getElem?
  intro j
  rw [get_splice (l:=l) (off:=base) (by omega),get_splice (l:=l) (off:=base + o) (by omega),h2]
  by_cases c1 : j < base
  · rw [if_pos c1,if_pos (by omega)]
  · rw [if_neg c1]
    by_cases c2 : j < base + m
    · rw [if_pos c2,get_splice (l:=(l.drop base).take m) (off:=o) (by omega)]
      by_cases c3 : j - base < o
      · rw [if_pos c3,if_pos (by omega),List.getElem?_take_of_lt (by omega),List.getElem?_drop]
        congr 1; omega
      · rw [if_neg c3]
        by_cases c4 : j - base < o + xs.length
        · rw [if_pos c4,if_neg (by omega),if_pos (by omega)]
          congr 1; omega
        · rw [if_neg c4,if_neg (by omega),if_neg (by omega),List.getElem?_take_of_lt (by omega),List.getElem?_drop]
          congr 1; omega
    · rw [if_neg c2,if_neg (by omega),if_neg (by omega)]
theorem splice_take {α : Type} {l : List α} {n off : Nat} {vs : List α} (h : off + vs.length ≤ n) (hn : n ≤ l.length) : (splice l off vs).take n = splice (l.take n) off vs:=by
  unfold splice
  rw [List.take_append,List.take_append]
  have e1 : (l.take off).take n = l.take off:=by rw [List.take_take,Nat.min_eq_right (by omega)]
  have e2 : vs.take (n - (l.take off).length) = vs:=List.take_of_length_le (by simp; omega)
  rw [e1,e2,List.take_take,Nat.min_eq_left (by omega),List.drop_take]
  congr 2
  simp; omega
theorem drop_mid {α : Type} {z : List α} {f sz : Nat} (h : f ≤ sz) : z.drop f = (z.take sz).drop f ++ z.drop sz:=by
  have h1 : z.drop f = (z.take sz ++ z.drop sz).drop f:=by rw [List.take_append_drop]
  rw [h1,List.drop_append]
  congr 1
  rcases Nat.le_total sz z.length with hz | hz
  · rw [List.length_take,Nat.min_eq_left hz,Nat.sub_eq_zero_of_le h,List.drop_zero]
  · rw [List.drop_eq_nil_of_le hz,List.drop_nil]
theorem flat_set_part {sz : Nat} {l : List (List D)} (hw : wl sz l) {ix fld : Nat} {e xs : List D} (he : l[ix]? = some e) (hf : fld + xs.length ≤ sz) :
    (l.set ix (splice e fld xs)).flatten = splice l.flatten (ix * sz + fld) xs:=by
  have hix : ix < l.length:=(List.getElem?_eq_some_iff.1 he).1
  have hes:=hw e (List.mem_of_getElem? he)
  have hsl : (splice e fld xs).length = sz:=by rw [splice_len (by omega),hes]
  rw [flat_set hw hix hsl]
  have e1:=flat_sub hw he
  unfold splice
  have e2 : l.flatten.take (ix * sz + fld) = l.flatten.take (ix * sz) ++ e.take fld:=by
    rw [List.take_add,← e1,List.take_take,Nat.min_eq_left (by omega)]
  have e3 : l.flatten.drop (ix * sz + fld + xs.length) = e.drop (fld + xs.length) ++ l.flatten.drop (ix * sz + (e.take fld ++ xs ++ e.drop (fld + xs.length)).length):=by
    have e4 : (e.take fld ++ xs ++ e.drop (fld + xs.length)).length = sz:=hsl
    rw [e4,Nat.add_assoc,← List.drop_drop,drop_mid hf,e1,List.drop_drop]
  rw [e2,e3]
  simp only [List.append_assoc]
theorem row_splice {σ : Sg} {E : EH} {kb : KB} {W : World} (hi : Inv σ E kb W) {i : Nat} {r : Re} {ty : TypeId} {sz : Nat} {l l' : List (List D)} (hs : σ[i]? = some r) (hk : kb[i]? = some (.row ty sz l))
    {o : Nat} {ds : List D} {xs : List Value} (hd : DenD E ds xs) (hl : l'.length = l.length) (hw : wl sz l') (hfl : l'.flatten = splice l.flatten o ds) (hb : o + ds.length ≤ l.length * sz) (hpos : 0 < l.length) :
    ∃ arr,W.heap[r.blk]? = some (.cells arr ty (0,0))∧o + xs.length ≤ arr.size ∧
      Step σ E kb W σ E (kb.set i (.row ty sz l')) (W.setRow r.blk (splice arr.toList o xs).toArray):=by
  obtain ⟨rfl,g1,g2,g3,g4⟩:=hi.obj i r _ hs hk
  rcases g4 with g4 | ⟨arr,g4,g5,g6⟩
  · omega
  have hxl:=hd.len
  have hm2 : l.length * r.sz ≤ r.cap * r.sz:=Nat.mul_le_mul_right _ g2
  have hcap : r.cap ≠ 0:=by omega
  refine ⟨arr,g4,by omega,setRow_step hi hs hk _ (fun b => ⟨fun h => h.2,fun h => ⟨hcap,h⟩⟩) (fun b h => h.2) ⟨rfl,hw,by omega,g3,.inr ⟨_,setRow_heap W r.blk arr _ ty (0,0) g4,?_,?_⟩⟩⟩
  · simp only [List.size_toArray]
    rw [splice_len (by simp; omega)]
    simpa using g5
  · simp only [hl]
    rw [splice_take (by omega) (by simp; omega),hfl]
    exact g6.splice hd o
theorem storeK_ok {P : Program} {t : TypeId} {addr v : V} {kb : KB} {K : KB→Prop} (h : storeK P t addr v kb K) {σ : Sg} {E : EH} {W : World} (hi : Inv σ E kb W) {a x : Value}
    (hd : Den σ E addr a) (hx : Den σ E v x) : ∃ E' kb' W',(Instr.storeAt t a x).run P W = .ok () W'∧Step σ E kb W σ E' kb' W'∧K kb':=by
  unfold storeK at h
  split at h
  · rename_i i off
    split at h <;> try exact h.elim
    rename_i vs l hvs hl
    split at h <;> try exact h.elim
    rename_i l' hl'
    obtain ⟨xs,hc,hD,h1,hn⟩:=cellsV_ok hvs hx
    simp only [Den] at hd
    obtain ⟨r,hr,rfl⟩:=hd
    obtain ⟨arr,ty,g1,g2⟩:=hi.obj i r _ hr hl
    obtain ⟨g3,g4⟩:=spliceW_ok hl' g2 hD
    have hst : Step σ E kb W σ E (kb.set i (.cells l')) (W.setRow r.blk (splice arr.toList off xs).toArray) :=
      setRow_step hi hr hl _ (fun b => Iff.rfl) (fun b hb => hb) ⟨_,ty,setRow_heap W r.blk arr _ ty (0,0) g1,by simpa using g3⟩
    exact ⟨_,_,_,by simpa [Instr.storeAt,Instr.sureAddr] using run_store_cells hc hn h1 g1 (by simpa using g4),hst,h⟩
  · rename_i i base o
    split at h <;> try exact h.elim
    rename_i n hn
    obtain ⟨E1,kb1,ds,xs,s1,hc,hD,h,hxn⟩:=cellsD_ok h hi hx
    simp only [Den] at hd
    obtain ⟨r,hr,rfl⟩:=hd
    split at h <;> try exact h.elim
    rename_i l hl
    split at h <;> try exact h.elim
    rename_i m cs hp
    split at h <;> try exact h.elim
    rename_i l' hl'
    obtain ⟨hle,hK⟩:=h
    have hnx : n = xs.length:=by rw [hn] at hxn; exact Option.some.inj hxn
    obtain ⟨arr,ty,g1,g2⟩:=s1.inv.obj i r _ hr hl
    obtain ⟨ys,p1,p2,p3,p4⟩:=pieceAt_arr hp g2
    have hdl:=hD.len
    have hyl:=p1.len
    have hsl : (splice cs o ds).length = m:=by rw [splice_len (by omega),p2]
    obtain ⟨g3,g4⟩:=spliceW_ok hl' g2 (.cons (.inr ⟨m,_,rfl,hsl,p1.splice hD o⟩) .nil)
    have he : splice arr.toList base (splice ys o xs ++ []) = splice arr.toList (base + o) xs:=by
      rw [List.append_nil,← p4]
      exact splice_sub p3 (by omega)
    rw [he] at g3
    have hst : Step σ E1 kb1 W σ E1 (kb1.set i (.cells l')) (W.setRow r.blk (splice arr.toList (base + o) xs).toArray) :=
      setRow_step s1.inv hr hl _ (fun b => Iff.rfl) (fun b hb => hb) ⟨_,ty,setRow_heap W r.blk arr _ ty (0,0) g1,by simpa using g3⟩
    simp only [Array.length_toList] at p3
    exact ⟨_,_,_,by simpa [Instr.storeAt,Instr.sureAddr] using run_store_cells hc hxn hD.one g1 (by omega),s1.trans hst,hK⟩
  · rename_i i ix fld
    split at h <;> try exact h.elim
    rename_i n hn
    obtain ⟨E1,kb1,ds,xs,s1,hc,hD,h,hxn⟩:=cellsD_ok h hi hx
    simp only [Den] at hd
    obtain ⟨r,hr,rfl⟩:=hd
    split at h <;> try exact h.elim
    rename_i ty sz l hl
    have hnx : n = xs.length:=by rw [hn] at hxn; exact Option.some.inj hxn
    have hdl:=hD.len
    obtain ⟨hsz,hw,_⟩:=s1.inv.obj i r _ hr hl
    split at h
    · rename_i hb
      have hb:=Nat.eq_of_beq_eq_true hb
      split at h <;> try exact h.elim
      obtain ⟨hix,hK⟩:=h
      have hm : (ix + 1) * sz ≤ l.length * sz:=Nat.mul_le_mul_right _ hix
      rw [Nat.succ_mul] at hm
      obtain ⟨arr,g1,g2,g3⟩:=row_splice s1.inv hr hl (o:=ix * sz) hD (by simp) (hw.set ix (e:=ds) (by omega)) (flat_set hw hix (by omega)) (by omega) (by omega)
      rw [← hsz] at g2 g3
      exact ⟨_,_,_,by simpa [Instr.storeAt,Instr.sureAddr] using run_store_cells hc hxn hD.one g1 g2,s1.trans (by rw [hsz] at g3 ⊢; exact g3),hK⟩
    · obtain ⟨e,he,hle,hK⟩:=h
      have hix : ix < l.length:=(List.getElem?_eq_some_iff.1 he).1
      have hm : (ix + 1) * sz ≤ l.length * sz:=Nat.mul_le_mul_right _ hix
      rw [Nat.succ_mul] at hm
      have hes:=hw e (List.mem_of_getElem? he)
      obtain ⟨arr,g1,g2,g3⟩:=row_splice s1.inv hr hl (o:=ix * sz + fld) hD (by simp) (hw.set ix (e:=splice e fld ds) (by rw [splice_len (by omega),hes])) (flat_set_part hw he (by omega)) (by omega) (by omega)
      rw [← hsz] at g2 g3
      exact ⟨_,_,_,by simpa [Instr.storeAt,Instr.sureAddr] using run_store_cells hc hxn hD.one g1 g2,s1.trans (by rw [hsz] at g3 ⊢; exact g3),hK⟩
  · exact h.elim
end Vc
set_option linter.unusedSimpArgs false
set_option linter.unusedVariables false
namespace Vc
open Go
def eqv : Value→Value→Bool
  | .int .i64 a,.int .i64 b | .int .u8 a,.int .u8 b | .int .u16 a,.int .u16 b | .int .u32 a,.int .u32 b | .int .u64 a,.int .u64 b => decide (a = b)
  | .bool a,.bool b => a == b
  | _,_ => false
theorem eqv_ok {a b : Value} (h : eqv a b = true) : a = b:=by
  unfold eqv at h
  split at h <;> simp_all
def repB (z : Value) : Nat→List Value→Option (List Value)
  | 0,l => some l
  | n + 1,a :: l => match eqv a z with | true => repB z n l | false => none
  | _ + 1,[] => none
theorem repB_ok {z : Value} : ∀ {n : Nat} {l r : List Value},repB z n l = some r→l = List.replicate n z ++ r
  | 0,l,r,h => by simp [repB] at h; subst h; simp
  | n + 1,[],r,h => by simp [repB] at h
  | n + 1,a :: l,r,h => by
    simp only [repB] at h
    split at h
    · rename_i e; rw [eqv_ok e,repB_ok h]; simp [List.replicate_succ]
    · cases h
def zeroC : List CK→List Value→Option (List V)
  | [],[] => some []
  | .arr m z :: ks,cs => match repB z m cs,z.oneCell' with
    | some r,true => match zeroC ks r with | some us => some (.arr m (List.replicate m (.val z)) :: us) | none => none
    | _,_ => none
  | _ :: ks,c :: cs => match c.oneCell' with
    | true => match zeroC ks cs with | some us => some (cvc1 c :: us) | none => none
    | false => none
  | _,_ => none
theorem zeroC_ok (σ : Sg) (E : EH) : ∀ {ks : List CK} {cs : List Value} {us : List V},zeroC ks cs = some us→DenC σ E us cs
  | [],[],us,h => by simp [zeroC] at h; subst h; exact .nil
  | [],_ :: _,us,h => by simp [zeroC] at h
  | c :: ks,cs,us,h => by
    have single : ∀ {x : Value} {cs' : List Value},cs = x :: cs'→(match x.oneCell' with | true => (match zeroC ks cs' with | some us => some (cvc1 x :: us) | none => none) | false => none) = some us→DenC σ E us cs:=by
      rintro x cs' rfl h
      split at h <;> try (cases h; done)
      rename_i h1
      split at h <;> try (cases h; done)
      rename_i us' hus
      cases h
      exact .cons1 (cvc1_den σ E x) h1 (zeroC_ok σ E hus)
    cases c with
    | arr m z =>
      simp only [zeroC] at h
      split at h <;> try (cases h; done)
      rename_i r hr h1
      split at h <;> try (cases h; done)
      rename_i us' hus
      cases h
      rw [repB_ok hr]
      exact .cons (.inr ⟨m,_,rfl,by simp,DenD.replicate (show RepD E (.val z) z from ⟨rfl,h1⟩) m⟩) (zeroC_ok σ E hus)
    | int k => cases cs with | nil => simp [zeroC] at h | cons v vs' => exact single rfl (by simpa only [zeroC] using h)
    | bool => cases cs with | nil => simp [zeroC] at h | cons v vs' => exact single rfl (by simpa only [zeroC] using h)
    | sl s => cases cs with | nil => simp [zeroC] at h | cons v vs' => exact single rfl (by simpa only [zeroC] using h)
    | other => cases cs with | nil => simp [zeroC] at h | cons v vs' => exact single rfl (by simpa only [zeroC] using h)
theorem alloc_cells {σ : Sg} {E : EH} {kb : KB} {W : World} (hi : Inv σ E kb W) {vs : List V} {xs : List Value} (hd : DenC σ E vs xs) (ty : TypeId) :
    ∃ σ',Step σ E kb W σ' E (kb ++ [.cells vs]) (W.alloc (.cells xs.toArray ty))∧Den σ' E (.ptr kb.length 0) (.pointer (some ⟨W.heap.size,0,none⟩)):=by
  have ho : HoldsO (σ ++ [⟨W.heap.size,0,0⟩]) E (W.alloc (.cells xs.toArray ty)) ⟨W.heap.size,0,0⟩ (.cells vs):=by
    refine ⟨xs.toArray,ty,?_,?_⟩
    · show (W.heap.push _)[W.heap.size]? = _
      simp
    · exact DenC.mono (EH.le.refl E) hd
  refine ⟨σ ++ [⟨W.heap.size,0,0⟩],hi.alloc _ ⟨W.heap.size,0,0⟩ (.cells vs) (fun b hb => hb) ho,?_⟩
  · simp only [Den]
    exact ⟨⟨W.heap.size,0,0⟩,by rw [← hi.len]; simp,rfl⟩
theorem alloc_row {σ : Sg} {E : EH} {kb : KB} {W : World} (hi : Inv σ E kb W) {ty : TypeId} {sz cap : Nat} {l : List (List D)} {arr : Array Value} (h1 : wl sz l) (h2 : l.length ≤ cap)
    (h3 : cap ≤ maxLen) (h4 : arr.size = cap * sz) (h5 : DenD E l.flatten (arr.toList.take (l.length * sz))) :
    Step σ E kb W (σ ++ [⟨W.heap.size,cap,sz⟩]) E (kb ++ [.row ty sz l]) (W.alloc (.cells arr ty)):=by
  refine hi.alloc _ _ _ (fun b hb => hb.2) ⟨rfl,h1,h2,h3,.inr ⟨arr,?_,h4,h5⟩⟩
  show (W.heap.push _)[W.heap.size]? = _
  simp
def zeroV (P : Program) (t : TypeId) : Option (List V) :=
  match (P.info? t).bind (·.zero),kindsOf P 20 t with
  | some z,some ks => zeroC ks z.cells.toList
  | _,_ => none
def allocK (P : Program) (t : TypeId) (kb : KB) (K : V→KB→Prop) : Prop :=
  match zeroV P t with
  | some vs => K (.ptr kb.length 0) (kb ++ [.cells vs])
  | none => False
theorem run_alloc {P : Program} {t : TypeId} {z : Value} (h : (P.info? t).bind (·.zero) = some z) (W : World) :
    (Instr.alloc t true (.tuple #[])).run P W = .ok (.pointer (some ⟨W.heap.size,0,none⟩)) (W.alloc (.cells z.cells t)):=by
  obtain ⟨i,hi,hz⟩:=Option.bind_eq_some_iff.1 h
  simp [Instr.alloc,zeroValue,typeInfo,hi,hz,newVar,newRow]
theorem allocK_ok {P : Program} {t : TypeId} {kb : KB} {K : V→KB→Prop} (h : allocK P t kb K) {σ : Sg} {E : EH} {W : World} (hi : Inv σ E kb W) :
    ∃ v x σ' kb' W',(Instr.alloc t true (.tuple #[])).run P W = .ok x W'∧Step σ E kb W σ' E kb' W'∧Den σ' E v x∧K v kb'∧WExt W W':=by
  unfold allocK zeroV at h
  split at h <;> try exact h.elim
  rename_i vs hvs
  split at hvs <;> try (cases hvs; done)
  rename_i z ks hz hks
  obtain ⟨σ',h1,h2⟩:=alloc_cells hi (zeroC_ok σ E hvs) t
  exact ⟨_,_,σ',_,_,run_alloc hz W,by simpa using h1,h2,h,fun k hk => by
    show (W.heap.push _)[k]? = _
    rw [Array.getElem?_push,if_neg (by omega)]⟩
def boxK (P : Program) (t : TypeId) (v : V) (kb : KB) (K : V→KB→Prop) : Prop :=
  match cellsV P t v with
  | some vs => K (.ptr kb.length 0) (kb ++ [.cells vs])
  | none => False
theorem boxK_ok {P : Program} {t : TypeId} {v : V} {kb : KB} {K : V→KB→Prop} (h : boxK P t v kb K) {σ : Sg} {E : EH} {W : World} (hi : Inv σ E kb W) {y : Value} (hy : Den σ E v y) :
    ∃ u x σ' kb' W',(Instr.box t y).run P W = .ok x W'∧Step σ E kb W σ' E kb' W'∧Den σ' E u x∧K u kb':=by
  unfold boxK at h
  split at h
  · rename_i vs hvs
    obtain ⟨xs,hc,hD,_,_⟩:=cellsV_ok hvs hy
    obtain ⟨σ',h1,h2⟩:=alloc_cells hi hD t
    exact ⟨_,_,σ',_,_,by simp [Instr.box,newVar,newRow,hc],h1,h2,h⟩
  · exact h.elim
def fieldK (P : Program) (s : TypeId) (addr : V) (n : Nat) (K : V→Prop) : Prop :=
  match P.underlying s with
  | some (.struct fs) =>
    match fs[n]? with
    | some f =>
      match tSize P f.type with
      | some (_ + 1) =>
        match addr with
        | .ptr i off => K (.ptr i (off + f.offset))
        | .pe i ix fld => K (.pe i ix (fld + f.offset))
        | .ipe e fld => K (.ipe e (fld + f.offset))
        | _ => False
      | _ => False
    | none => False
  | _ => False
theorem run_fieldAt {P : Program} {s : TypeId} {fs : Array Field} {n : Nat} {f : Field} {m : Nat} (hs : P.underlying s = some (.struct fs)) (hf : fs[n]? = some f) (hm : tSize P f.type = some (m + 1)) (b o : Nat) (W : World) :
    (Instr.fieldAt s (.pointer (some ⟨b,o,none⟩)) n).run P W = .ok (.pointer (some ⟨b,o + f.offset,none⟩)) W:=by
  simp [Instr.fieldAt,run_underlying hs,hf,Instr.sureAddr,fieldPlace,run_tSize hm,Addr.add_lit]
theorem fieldK_ok {P : Program} {s : TypeId} {addr : V} {n : Nat} {K : V→Prop} (h : fieldK P s addr n K) {σ : Sg} {E : EH} {a : Value} (hd : Den σ E addr a) :
    ∃ v x,(∀ W,(Instr.fieldAt s a n).run P W = .ok x W)∧Den σ E v x∧K v:=by
  unfold fieldK at h
  split at h <;> try exact h.elim
  rename_i fs hs
  split at h <;> try exact h.elim
  rename_i f hf
  split at h <;> try exact h.elim
  rename_i m hm
  split at h <;> try exact h.elim
  · simp only [Den] at hd
    obtain ⟨r,hr,rfl⟩:=hd
    exact ⟨_,_,fun W => run_fieldAt hs hf hm _ _ W,by simp only [Den]; exact ⟨r,hr,rfl⟩,h⟩
  · simp only [Den] at hd
    obtain ⟨r,hr,rfl⟩:=hd
    exact ⟨_,_,fun W => run_fieldAt hs hf hm _ _ W,by simp only [Den]; exact ⟨r,hr,by rw [Nat.add_assoc]⟩,h⟩
  · simp only [Den] at hd
    obtain ⟨b,off,rfl,hr⟩:=hd
    exact ⟨_,_,fun W => run_fieldAt hs hf hm _ _ W,by simp only [Den]; exact ⟨b,off,by rw [Nat.add_assoc],hr⟩,h⟩
def InB (n : Int) (m : Nat) : Prop:=0 ≤ n∧n < (m : Int)
def NonN (n : Int) : Prop:=0 ≤ n
def casesI : Nat→Nat→(Nat→Prop)→Prop
  | 0,_,_ => True
  | 1,j,p => p j
  | k + 2,j,p => p j∧casesI (k + 1) (j + 1) p
theorem casesI_at : ∀ {k j : Nat} {p : Nat→Prop},casesI k j p→∀ i,j ≤ i→i < j + k→p i
  | 0,j,p,_,i,h1,h2 => by omega
  | 1,j,p,h,i,h1,h2 => by
    have : i = j:=by omega
    subst this; exact h
  | k + 2,j,p,h,i,h1,h2 => by
    by_cases e : i = j
    · subst e; exact h.1
    · exact casesI_at h.2 i (by omega) (by omega)
def numOf : V→Option Int
  | .int _ n => some n
  | .lit _ n => some n
  | _ => none
theorem numOf_den {v : V} {n : Int} (h : numOf v = some n) {σ : Sg} {E : EH} {x : Value} (hd : Den σ E v x) : ∃ k,x = .int k n:=by
  cases v <;> simp only [numOf,Option.some.injEq,reduceCtorEq] at h <;> subst h <;> exact ⟨_,by simpa only [Den] using hd⟩
def isL : V→Bool
  | .lit _ _ => true
  | _ => false
def indexK (P : Program) (t : TypeId) (x ix : V) (kb : KB) (K : V→Prop) : Prop :=
  match P.underlying t,numOf ix with
  | some (.slice elem),some n =>
    match tSize P elem with
    | some (s + 1) => match x with
      | .sl i lo hi => match kb[i]? with
        | some (.row _ sz _) => match Nat.beq sz (s + 1) with
          | true => InB n (hi - lo)∧K (.pe i (lo + n.toNat) 0)
          | false => False
        | _ => False
      | .dat (.sl sz l) => match Nat.beq sz (s + 1) with
        | true => NonN n∧∃ e,l[n.toNat]? = some e∧K (.ipe e 0)
        | false => False
      | .sa i base o s' m c => match Nat.beq s' (s + 1) with
        | true => InB n m∧K (.pa i base (o + n.toNat * s'))
        | false => False
      | .se i j o s' m c => match Nat.beq s' (s + 1) with
        | true => InB n m∧K (.pe i j (o + n.toNat * s'))
        | false => False
      | _ => False
    | _ => False
  | some (.array m elem),some n =>
    match tSize P elem with
    | some s => match x with
      | .ptr i off => match kb[i]? with
        | some (.cells l) => match pieceAt l off with
          | some (.arr _ _) => InB n m∧K (.pa i off (n.toNat * s))
          | _ => match isL ix with
            | true => InB n m∧K (.ptr i (off + n.toNat * s))
            | false => InB n m∧casesI m 0 (fun j => n = (j : Int)→K (.ptr i (off + j * s)))
        | _ => False
      | .pa i base o => InB n m∧K (.pa i base (o + n.toNat * s))
      | .pe i j fld => InB n m∧K (.pe i j (fld + n.toNat * s))
      | .ipe e fld => InB n m∧K (.ipe e (fld + n.toNat * s))
      | _ => False
    | none => False
  | _,_ => False
theorem run_index_slice {P : Program} {t elem : TypeId} {s : Nat} (ht : P.underlying t = some (.slice elem)) (hs : tSize P elem = some s) {b o len cap : Nat} {k : IntKind} {n : Int} (h0 : 0 ≤ n) (h1 : n < (len : Int)) (W : World) :
    (Instr.indexAt t (.slice (some ⟨b,o,none⟩) len cap) (.int k n)).run P W = .ok (.pointer (some ⟨b,o + n.toNat * s,none⟩)) W:=by
  simp [Instr.indexAt,asIntOf,run_underlying ht,h0,h1,run_tSize hs,Addr.add_lit]
theorem run_index_array {P : Program} {t elem : TypeId} {m s : Nat} (ht : P.underlying t = some (.array m elem)) (hs : tSize P elem = some s) {b o : Nat} {k : IntKind} {n : Int} (h0 : 0 ≤ n) (h1 : n < (m : Int)) (W : World) :
    (Instr.indexAt t (.pointer (some ⟨b,o,none⟩)) (.int k n)).run P W = .ok (.pointer (some ⟨b,o + n.toNat * s,none⟩)) W:=by
  simp [Instr.indexAt,asIntOf,run_underlying ht,h0,h1,run_tSize hs,Addr.add_lit,Instr.sureAddr]
theorem RepL.at {E : EH} {sz : Nat} {l : List (List D)} {b off : Nat} (h : RepL E sz l b off) {ix : Nat} {e : List D} (he : l[ix]? = some e) : RepC E e b (off + ix * sz):=by
  have:=h.flat.sub (ix * sz) sz
  rwa [flat_sub h.wl he] at this
theorem indexK_ok {P : Program} {t : TypeId} {x ix : V} {kb : KB} {K : V→Prop} (h : indexK P t x ix kb K) {σ : Sg} {E : EH} {W : World} (hi : Inv σ E kb W) {a y : Value} (hd : Den σ E x a) (hy : Den σ E ix y) :
    ∃ v z,(∀ W,(Instr.indexAt t a y).run P W = .ok z W)∧Den σ E v z∧K v:=by
  unfold indexK at h
  split at h <;> try exact h.elim
  · rename_i elem n ht hn
    obtain ⟨k,rfl⟩:=numOf_den hn hy
    split at h <;> try exact h.elim
    rename_i s hs
    split at h <;> try exact h.elim
    · rename_i i lo hi'
      split at h <;> try exact h.elim
      rename_i ty sz l hl
      split at h <;> try exact h.elim
      rename_i hb
      have hsz:=Nat.eq_of_beq_eq_true hb
      obtain ⟨⟨h0,h1⟩,hK⟩:=h
      simp only [Den] at hd
      obtain ⟨r,ad,hr,rfl,hlo,hhi,had⟩:=hd
      have hrs:=(hi.obj i r _ hr hl).1
      rw [had (by omega)]
      exact ⟨_,_,fun W => run_index_slice ht hs h0 h1 W,by simp only [Den]; exact ⟨r,hr,by simp [hrs,hsz,Nat.add_mul]⟩,hK⟩
    · rename_i sz l
      split at h <;> try exact h.elim
      rename_i hb
      have hsz:=Nat.eq_of_beq_eq_true hb
      obtain ⟨h0,e,he,hK⟩:=h
      unfold NonN at h0
      simp only [Den,RepD] at hd
      obtain ⟨ad,cap,rfl,hcap,hrep⟩:=hd
      have hn' : n.toNat < l.length:=(List.getElem?_eq_some_iff.1 he).1
      rcases hrep with hrep | ⟨b,off,rfl,hrep⟩
      · omega
      · refine ⟨_,_,fun W => run_index_slice ht hs h0 (by omega) W,?_,hK⟩
        simp only [Den]
        exact ⟨b,off + n.toNat * (s + 1),by simp,by rw [← hsz]; exact hrep.at he⟩
    · rename_i i base o s' m c
      split at h <;> try exact h.elim
      rename_i hb
      have hsz:=Nat.eq_of_beq_eq_true hb
      obtain ⟨⟨h0,h1⟩,hK⟩:=h
      simp only [Den] at hd
      obtain ⟨r,ad,hr,rfl,hmc,had⟩:=hd
      rw [had (by omega)]
      exact ⟨_,_,fun W => run_index_slice ht hs h0 h1 W,by simp only [Den]; exact ⟨r,hr,by rw [hsz,Nat.add_assoc]⟩,hK⟩
    · rename_i i j o s' m c
      split at h <;> try exact h.elim
      rename_i hb
      have hsz:=Nat.eq_of_beq_eq_true hb
      obtain ⟨⟨h0,h1⟩,hK⟩:=h
      simp only [Den] at hd
      obtain ⟨r,ad,hr,rfl,hmc,had⟩:=hd
      rw [had (by omega)]
      exact ⟨_,_,fun W => run_index_slice ht hs h0 h1 W,by simp only [Den]; exact ⟨r,hr,by rw [hsz,Nat.add_assoc]⟩,hK⟩
  · rename_i m elem n ht hn
    obtain ⟨k,rfl⟩:=numOf_den hn hy
    split at h <;> try exact h.elim
    rename_i s hs
    split at h <;> try exact h.elim
    · rename_i i off
      simp only [Den] at hd
      obtain ⟨r,hr,rfl⟩:=hd
      split at h <;> try exact h.elim
      rename_i l hl
      split at h
      · obtain ⟨⟨h0,h1⟩,hK⟩:=h
        exact ⟨_,_,fun W => run_index_array ht hs h0 h1 W,by simp only [Den]; exact ⟨r,hr,rfl⟩,hK⟩
      · split at h
        · obtain ⟨⟨h0,h1⟩,hK⟩:=h
          exact ⟨_,_,fun W => run_index_array ht hs h0 h1 W,by simp only [Den]; exact ⟨r,hr,rfl⟩,hK⟩
        · obtain ⟨⟨h0,h1⟩,hK⟩:=h
          have:=casesI_at hK n.toNat (Nat.zero_le _) (by omega) (by omega)
          exact ⟨_,_,fun W => run_index_array ht hs h0 h1 W,by simp only [Den]; exact ⟨r,hr,rfl⟩,this⟩
    · rename_i i base o
      simp only [Den] at hd
      obtain ⟨r,hr,rfl⟩:=hd
      obtain ⟨⟨h0,h1⟩,hK⟩:=h
      exact ⟨_,_,fun W => run_index_array ht hs h0 h1 W,by simp only [Den]; exact ⟨r,hr,by rw [Nat.add_assoc]⟩,hK⟩
    · rename_i i j fld
      simp only [Den] at hd
      obtain ⟨r,hr,rfl⟩:=hd
      obtain ⟨⟨h0,h1⟩,hK⟩:=h
      exact ⟨_,_,fun W => run_index_array ht hs h0 h1 W,by simp only [Den]; exact ⟨r,hr,by rw [Nat.add_assoc]⟩,hK⟩
    · rename_i e fld
      simp only [Den] at hd
      obtain ⟨b,off,rfl,hr⟩:=hd
      obtain ⟨⟨h0,h1⟩,hK⟩:=h
      exact ⟨_,_,fun W => run_index_array ht hs h0 h1 W,by simp only [Den]; exact ⟨b,off,by rw [Nat.add_assoc],hr⟩,hK⟩
end Vc
set_option linter.unusedSimpArgs false
set_option linter.unusedVariables false
namespace Vc
open Go
def BndOk : Option Value→Nat→Nat→Prop
  | none,d,r => r = d
  | some v,_,r => ∃ k n,v = .int k n∧0 ≤ n∧r = n.toNat
theorem run_sliceBound {P : Program} {W : World} (k : IntKind) (n : Int) (y : Nat) (c : BoundsCode) (hn : 0 ≤ n) (hy : n.toNat ≤ y) : (Instr.sliceBound (.int k n) y c).run P W = .ok n.toNat W:=by
  have : n ≤ (y : Int):=by omega
  simp [Instr.sliceBound,asIntOf,hn,this]
theorem run_sliceBounds {P : Program} (W : World) (b : Bool) {len cap : Nat} {lo hi : Option Value} {l h : Nat} (hl : BndOk lo 0 l) (hh : BndOk hi len h) (h1 : l ≤ h) (h2 : h ≤ cap) :
    (Instr.sliceBounds b len cap lo hi none).run P W = .ok (l,h,cap) W:=by
  cases lo with
  | none =>
    cases hi with
    | none =>
      simp only [BndOk] at hl hh
      subst hl; subst hh
      simp [Instr.sliceBounds]
    | some v =>
      simp only [BndOk] at hl hh
      obtain ⟨k,n,rfl,hn,rfl⟩:=hh
      subst hl
      simp [Instr.sliceBounds,run_sliceBound k n cap _ hn h2]
  | some u =>
    simp only [BndOk] at hl
    obtain ⟨k',n',rfl,hn',rfl⟩:=hl
    cases hi with
    | none =>
      simp only [BndOk] at hh
      subst hh
      simp [Instr.sliceBounds,run_sliceBound k' n' h _ hn' h1]
    | some v =>
      simp only [BndOk] at hh
      obtain ⟨k,n,rfl,hn,rfl⟩:=hh
      simp [Instr.sliceBounds,run_sliceBound k n cap _ hn h2,run_sliceBound k' n' n.toNat _ hn' h1]
theorem run_sliceAt {P : Program} {t elem : TypeId} {s : Nat} (ht : P.underlying t = some (.slice elem)) (hs : tSize P elem = some s) (W : World) {a : Option Addr} {len cap : Nat} {lo hi : Option Value} {l h : Nat}
    (hl : BndOk lo 0 l) (hh : BndOk hi len h) (h1 : l ≤ h) (h2 : h ≤ cap) :
    (Instr.sliceAt t (.slice a len cap) lo hi none).run P W = .ok (.slice (if cap = l then a else a.map (·.add (l * s))) (h - l) (cap - l)) W:=by
  simp [Instr.sliceAt,Instr.slice,run_underlying ht,run_sliceBounds W true hl hh h1 h2,run_tSize hs]
theorem run_sliceArr {P : Program} {t arr elem : TypeId} {n s : Nat} (ht : P.underlying t = some (.pointer arr)) (ha : P.underlying arr = some (.array n elem)) (hs : tSize P elem = some s) (W : World) {b o : Nat} {lo hi : Option Value} {l h : Nat}
    (hl : BndOk lo 0 l) (hh : BndOk hi n h) (h1 : l ≤ h) (h2 : h ≤ n) :
    (Instr.sliceAt t (.pointer (some ⟨b,o,none⟩)) lo hi none).run P W = .ok (.slice (some (if n = l then ⟨b,o,none⟩ else ⟨b,o + l * s,none⟩)) (h - l) (n - l)) W:=by
  simp [Instr.sliceAt,Instr.sureAddr,Instr.slice,run_underlying ht,run_underlying ha,run_sliceBounds W false hl hh h1 h2,run_tSize hs,asAddr,Addr.add_lit]
def arrT (P : Program) (t : TypeId) : Option (Nat × TypeId) :=
  match P.underlying t with
  | some (.array n elem) => some (n,elem)
  | some (.pointer arr) => match P.underlying arr with
    | some (.array n elem) => some (n,elem)
    | _ => none
  | _ => none
theorem run_sliceArr' {P : Program} {t elem : TypeId} {n s : Nat} (ha : arrT P t = some (n,elem)) (hs : tSize P elem = some s) (W : World) {b o : Nat} {lo hi : Option Value} {l h : Nat}
    (hl : BndOk lo 0 l) (hh : BndOk hi n h) (h1 : l ≤ h) (h2 : h ≤ n) :
    (Instr.sliceAt t (.pointer (some ⟨b,o,none⟩)) lo hi none).run P W = .ok (.slice (some (if n = l then ⟨b,o,none⟩ else ⟨b,o + l * s,none⟩)) (h - l) (n - l)) W:=by
  unfold arrT at ha
  split at ha
  · rename_i n' e' ht
    cases ha
    simp [Instr.sliceAt,Instr.sureAddr,run_underlying ht,run_sliceBounds W false hl hh h1 h2,run_tSize hs,Addr.add_lit]
  · rename_i arr ht
    split at ha <;> try (cases ha; done)
    rename_i n' e' ha'
    cases ha
    exact run_sliceArr ht ha' hs W hl hh h1 h2
  · cases ha
theorem run_slice00 {P : Program} {t elem : TypeId} {s : Nat} (ht : P.underlying t = some (.slice elem)) (hs : tSize P elem = some s) (W : World) {a : Option Addr} {len cap : Nat} {lo : Option Value} {k k' : IntKind} (hl : BndOk lo 0 0) :
    (Instr.sliceAt t (.slice a len cap) lo (some (.int k 0)) (some (.int k' 0))).run P W = .ok (.slice a 0 0) W:=by
  have b0 : ∀ (k : IntKind) (y : Nat) (c : BoundsCode),(Instr.sliceBound (.int k 0) y c).run P W = .ok 0 W:=fun k y c => by simpa using run_sliceBound (P:=P) (W:=W) k 0 y c (by omega) (by simp)
  cases lo with
  | none => simp [Instr.sliceAt,Instr.slice,run_underlying ht,Instr.sliceBounds,b0,run_tSize hs]
  | some v =>
    obtain ⟨k2,n,rfl,hn,hn2⟩:=hl
    have : n = 0:=by omega
    subst this
    simp [Instr.sliceAt,Instr.slice,run_underlying ht,Instr.sliceBounds,b0,run_tSize hs]
def bndV : Option V→Nat→Option (Prop × Nat)
  | none,d => some (True,d)
  | some v,_ => match numOf v with | some n => some (NonN n,n.toNat) | none => none
def OD (σ : Sg) (E : EH) : Option V→Option Value→Prop
  | none,none => True
  | some v,some x => Den σ E v x
  | _,_ => False
theorem bndV_ok {o : Option V} {d : Nat} {p : Prop} {n : Nat} (h : bndV o d = some (p,n)) (hp : p) {σ : Sg} {E : EH} {ov : Option Value}
    (hd : OD σ E o ov) : BndOk ov d n:=by
  match o,ov with
  | none,none => simp only [bndV,Option.some.injEq,Prod.mk.injEq] at h; exact h.2.symm
  | some v,some x =>
    simp only [bndV] at h
    split at h <;> try (cases h; done)
    rename_i n' hn
    simp only [Option.some.injEq,Prod.mk.injEq] at h
    obtain ⟨rfl,rfl⟩:=h
    obtain ⟨k,rfl⟩:=numOf_den hn hd
    exact ⟨k,_,rfl,hp,rfl⟩
  | none,some x => exact hd.elim
  | some v,none => exact hd.elim
def isSl : V→Bool
  | .sl .. | .e0 | .sa .. | .se .. | .dat (.sl ..) | .any (.slice ..) => true
  | _ => false
theorem isSl_den {v : V} (h : isSl v = true) {σ : Sg} {E : EH} {x : Value} (hd : Den σ E v x) : ∃ a len cap,x = .slice a len cap:=by
  unfold isSl at h
  split at h <;> (try simp only [Den,RepD] at hd)
  · obtain ⟨r,a,_,rfl,_⟩:=hd; exact ⟨_,_,_,rfl⟩
  · obtain ⟨a,rfl⟩:=hd; exact ⟨_,_,_,rfl⟩
  · obtain ⟨r,a,_,rfl,_⟩:=hd; exact ⟨_,_,_,rfl⟩
  · obtain ⟨r,a,_,rfl,_⟩:=hd; exact ⟨_,_,_,rfl⟩
  · obtain ⟨a,cap,rfl,_⟩:=hd; exact ⟨_,_,_,rfl⟩
  · subst hd; exact ⟨_,_,_,rfl⟩
  · cases h
def zeroN : Option V→Bool
  | none => true
  | some v => match numOf v with | some (.ofNat 0) => true | _ => false
theorem zeroN_ok {o : Option V} (h : zeroN o = true) {σ : Sg} {E : EH} {ov : Option Value} (hd : OD σ E o ov) : BndOk ov 0 0:=by
  match o,ov with
  | none,none => rfl
  | some v,some x =>
    simp only [zeroN] at h
    split at h <;> try (cases h; done)
    rename_i hn
    obtain ⟨k,rfl⟩:=numOf_den hn hd
    exact ⟨k,0,rfl,by omega,by simp⟩
  | none,some x => exact hd.elim
  | some v,none => exact hd.elim
def sliceK (P : Program) (t : TypeId) (x : V) (lo hi : Option V) (kb : KB) (K : V→Prop) : Prop :=
  match P.underlying t with
  | some (.slice elem) =>
    match tSize P elem with
    | some s =>
      match x with
      | .sl i a b =>
        match kb[i]?,bndV lo 0,bndV hi (b - a) with
        | some (.row _ sz _),some (p,l),some (q,h) => match Nat.beq sz s with
          | true => p∧q∧l ≤ h∧h ≤ b - a∧K (.sl i (a + l) (a + h))
          | false => False
        | _,_,_ => False
      | .dat (.sl sz ls) =>
        match bndV lo 0,bndV hi ls.length with
        | some (p,l),some (q,h) => match Nat.beq sz s with
          | true => p∧q∧l ≤ h∧h ≤ ls.length∧K (.dat (.sl sz ((ls.take h).drop l)))
          | false => False
        | _,_ => False
      | .sa i base o s' n c =>
        match bndV lo 0,bndV hi n with
        | some (p,l),some (q,h) => match Nat.beq s' s with
          | true => p∧q∧l ≤ h∧h ≤ c∧K (.sa i base (o + l * s') s' (h - l) (c - l))
          | false => False
        | _,_ => False
      | .se i j o s' n c =>
        match bndV lo 0,bndV hi n with
        | some (p,l),some (q,h) => match Nat.beq s' s with
          | true => p∧q∧l ≤ h∧h ≤ c∧K (.se i j (o + l * s') s' (h - l) (c - l))
          | false => False
        | _,_ => False
      | .any (.slice none 0 0) => match zeroN lo,zeroN hi with | true,true => K (.any (.slice none 0 0)) | _,_ => False
      | .e0 => match zeroN lo,zeroN hi with | true,true => K .e0 | _,_ => False
      | _ => False
    | none => False
  | _ =>
    match arrT P t with
    | some (n,elem) =>
      match tSize P elem,bndV lo 0,bndV hi n with
      | some s,some (p,l),some (q,h) => match x with
        | .ptr i off => match kb[i]? with
          | some (.cells cs) => match pieceAt cs off with
            | some (.arr _ _) => p∧q∧l ≤ h∧h ≤ n∧K (.sa i off (l * s) s (h - l) (n - l))
            | _ => False
          | _ => False
        | .pa i base o => p∧q∧l ≤ h∧h ≤ n∧K (.sa i base (o + l * s) s (h - l) (n - l))
        | .pe i j fld => p∧q∧l ≤ h∧h ≤ n∧K (.se i j (fld + l * s) s (h - l) (n - l))
        | .ipe e fld => match Nat.beq s 1 with
          | true => p∧q∧l ≤ h∧h ≤ n∧fld + h ≤ e.length∧K (.dat (.sl 1 (((e.drop (fld + l)).take (h - l)).map fun d => [d])))
          | false => False
        | _ => False
      | _,_,_ => False
    | none => False
theorem wl_single (ds : List D) : wl 1 (ds.map fun d => [d]):=fun e he => by
  obtain ⟨d,_,rfl⟩:=List.mem_map.1 he; rfl
theorem flat_single {α : Type} (ds : List α) : (ds.map fun d => [d]).flatten = ds:=by
  induction ds with
  | nil => rfl
  | cons d ds ih => simp [ih]
theorem sliceK_ok {P : Program} {t : TypeId} {x : V} {lo hi : Option V} {kb : KB} {K : V→Prop} (h : sliceK P t x lo hi kb K) {σ : Sg} {E : EH} {W : World} (hi' : Inv σ E kb W) {a : Value} (hd : Den σ E x a) {lov hiv : Option Value}
    (hlo : OD σ E lo lov) (hhi : OD σ E hi hiv) :
    ∃ v z,(∀ W,(Instr.sliceAt t a lov hiv none).run P W = .ok z W)∧Den σ E v z∧K v:=by
  unfold sliceK at h
  split at h <;> try exact h.elim
  · rename_i elem ht
    split at h <;> try exact h.elim
    rename_i s hs
    split at h <;> try exact h.elim
    · rename_i j a' b
      split at h <;> try exact h.elim
      rename_i ty sz ls p l q hh hk hb1 hb2
      split at h <;> try exact h.elim
      rename_i hb
      have hsz:=Nat.eq_of_beq_eq_true hb
      obtain ⟨hp,hq,h1,h2,hK⟩:=h
      simp only [Den] at hd
      obtain ⟨r,ad,hr,rfl,g1,g2,g3⟩:=hd
      have hrs:=(hi'.obj j r _ hr hk).1
      refine ⟨_,_,fun W => run_sliceAt ht hs W (bndV_ok hb1 hp hlo) (bndV_ok hb2 hq hhi) h1 (by omega),?_,hK⟩
      simp only [Den]
      refine ⟨r,(if r.cap - a' = l then ad else ad.map (·.add (l * s))),hr,?_,by omega,by omega,fun hlt => ?_⟩
      · rw [show hh - l = a' + hh - (a' + l) by omega,show r.cap - a' - l = r.cap - (a' + l) by omega]
      · rw [if_neg (by omega),g3 (by omega)]
        simp [Addr.add_lit,Nat.add_mul,hrs,hsz]
    · rename_i sz ls
      split at h <;> try exact h.elim
      rename_i p l q hh hb1 hb2
      split at h <;> try exact h.elim
      rename_i hb
      have hsz:=Nat.eq_of_beq_eq_true hb
      subst hsz
      obtain ⟨hp,hq,h1,h2,hK⟩:=h
      simp only [Den,RepD] at hd
      obtain ⟨ad,cap,rfl,hcap,hrep⟩:=hd
      refine ⟨_,_,fun W => run_sliceAt ht hs W (bndV_ok hb1 hp hlo) (bndV_ok hb2 hq hhi) h1 (by omega),?_,hK⟩
      simp only [Den,RepD]
      have hlen : ((ls.take hh).drop l).length = hh - l:=by simp; omega
      refine ⟨_,_,by rw [hlen],by rw [hlen]; omega,?_⟩
      by_cases h0 : hh - l = 0
      · left; rw [hlen]; exact h0
      · right
        rcases hrep with hrep | ⟨b,off,rfl,hrep⟩
        · omega
        rw [if_neg (by omega)]
        refine ⟨b,off + l * sz,by simp [Addr.add_lit],RepL.of_flat ((hrep.wl.take hh).drop l) ?_⟩
        rw [take_drop_flat hrep.wl]
        exact hrep.flat.sub _ _
    · rename_i i base o s' n c
      split at h <;> try exact h.elim
      rename_i p l q hh hb1 hb2
      split at h <;> try exact h.elim
      rename_i hb
      have hsz:=Nat.eq_of_beq_eq_true hb
      subst hsz
      obtain ⟨hp,hq,h1,h2,hK⟩:=h
      simp only [Den] at hd
      obtain ⟨r,ad,hr,rfl,hnc,had⟩:=hd
      refine ⟨_,_,fun W => run_sliceAt ht hs W (bndV_ok hb1 hp hlo) (bndV_ok hb2 hq hhi) h1 h2,?_,hK⟩
      simp only [Den]
      refine ⟨r,_,hr,rfl,by omega,fun hlt => ?_⟩
      rw [if_neg (by omega),had (by omega)]
      simp [Addr.add_lit,Nat.add_assoc]
    · rename_i i j o s' n c
      split at h <;> try exact h.elim
      rename_i p l q hh hb1 hb2
      split at h <;> try exact h.elim
      rename_i hb
      have hsz:=Nat.eq_of_beq_eq_true hb
      subst hsz
      obtain ⟨hp,hq,h1,h2,hK⟩:=h
      simp only [Den] at hd
      obtain ⟨r,ad,hr,rfl,hnc,had⟩:=hd
      refine ⟨_,_,fun W => run_sliceAt ht hs W (bndV_ok hb1 hp hlo) (bndV_ok hb2 hq hhi) h1 h2,?_,hK⟩
      simp only [Den]
      refine ⟨r,_,hr,rfl,by omega,fun hlt => ?_⟩
      rw [if_neg (by omega),had (by omega)]
      simp [Addr.add_lit,Nat.add_assoc]
    · split at h <;> try exact h.elim
      rename_i z1 z2
      simp only [Den] at hd
      subst hd
      exact ⟨_,_,fun W => by simpa using run_sliceAt ht hs W (a:=none) (len:=0) (cap:=0) (zeroN_ok z1 hlo) (zeroN_ok z2 hhi) (Nat.le_refl _) (Nat.le_refl _),by simp [Den],h⟩
    · split at h <;> try exact h.elim
      rename_i z1 z2
      simp only [Den] at hd
      obtain ⟨ad,rfl⟩:=hd
      exact ⟨_,_,fun W => by simpa using run_sliceAt ht hs W (a:=ad) (len:=0) (cap:=0) (zeroN_ok z1 hlo) (zeroN_ok z2 hhi) (Nat.le_refl _) (Nat.le_refl _),by simp only [Den]; exact ⟨_,rfl⟩,h⟩
  · split at h <;> try exact h.elim
    rename_i n elem ha
    split at h <;> try exact h.elim
    rename_i s p l q hh hs hb1 hb2
    split at h <;> try exact h.elim
    · rename_i i off
      split at h <;> try exact h.elim
      rename_i cs hcs
      split at h <;> try exact h.elim
      obtain ⟨hp,hq,h1,h2,hK⟩:=h
      simp only [Den] at hd
      obtain ⟨r,hr,rfl⟩:=hd
      refine ⟨_,_,fun W => run_sliceArr' ha hs W (bndV_ok hb1 hp hlo) (bndV_ok hb2 hq hhi) h1 h2,?_,hK⟩
      simp only [Den]
      exact ⟨r,_,hr,rfl,by omega,fun hlt => by rw [if_neg (by omega)]⟩
    · rename_i i base o
      obtain ⟨hp,hq,h1,h2,hK⟩:=h
      simp only [Den] at hd
      obtain ⟨r,hr,rfl⟩:=hd
      refine ⟨_,_,fun W => run_sliceArr' ha hs W (bndV_ok hb1 hp hlo) (bndV_ok hb2 hq hhi) h1 h2,?_,hK⟩
      simp only [Den]
      exact ⟨r,_,hr,rfl,by omega,fun hlt => by rw [if_neg (by omega),Nat.add_assoc]⟩
    · rename_i i j fld
      obtain ⟨hp,hq,h1,h2,hK⟩:=h
      simp only [Den] at hd
      obtain ⟨r,hr,rfl⟩:=hd
      refine ⟨_,_,fun W => run_sliceArr' ha hs W (bndV_ok hb1 hp hlo) (bndV_ok hb2 hq hhi) h1 h2,?_,hK⟩
      simp only [Den]
      exact ⟨r,_,hr,rfl,by omega,fun hlt => by rw [if_neg (by omega),Nat.add_assoc]⟩
    · rename_i e fld
      split at h <;> try exact h.elim
      rename_i hb
      have hs1:=Nat.eq_of_beq_eq_true hb
      subst hs1
      obtain ⟨hp,hq,h1,h2,h3,hK⟩:=h
      simp only [Den] at hd
      obtain ⟨b,off,rfl,hrep⟩:=hd
      refine ⟨_,_,fun W => run_sliceArr' ha hs W (bndV_ok hb1 hp hlo) (bndV_ok hb2 hq hhi) h1 h2,?_,hK⟩
      simp only [Den,RepD]
      have hlen : (((e.drop (fld + l)).take (hh - l)).map fun d => [d]).length = hh - l:=by simp; omega
      refine ⟨_,_,by rw [hlen],by rw [hlen]; omega,?_⟩
      by_cases h0 : hh - l = 0
      · left; rw [hlen]; exact h0
      · right
        rw [if_neg (by omega)]
        refine ⟨b,off + (fld + l),by simp [Nat.add_assoc],RepL.of_flat (wl_single _) ?_⟩
        rw [flat_single]
        exact hrep.sub _ _
def slice00K (P : Program) (t : TypeId) (x : V) (lo hi mx : Option V) (K : V→Prop) : Prop :=
  match P.underlying t with
  | some (.slice elem) => match tSize P elem,isSl x,zeroN lo,hi,mx with
    | some _,true,true,some h,some m => match zeroN (some h),zeroN (some m) with
      | true,true => K .e0
      | _,_ => False
    | _,_,_,_,_ => False
  | _ => False
theorem slice00K_ok {P : Program} {t : TypeId} {x : V} {lo hi mx : Option V} {K : V→Prop} (h : slice00K P t x lo hi mx K) {σ : Sg} {E : EH} {a : Value} (hd : Den σ E x a) {lov hiv mxv : Option Value}
    (hlo : OD σ E lo lov) (hhi : OD σ E hi hiv) (hmx : OD σ E mx mxv) :
    ∃ v z,(∀ W,(Instr.sliceAt t a lov hiv mxv).run P W = .ok z W)∧Den σ E v z∧K v:=by
  unfold slice00K at h
  split at h <;> try exact h.elim
  rename_i elem ht
  split at h <;> try exact h.elim
  rename_i s hv mv hs hx z1
  split at h <;> try exact h.elim
  rename_i z2 z3
  obtain ⟨ad,len,cap,rfl⟩:=isSl_den hx hd
  obtain ⟨b1,b2,b3⟩ : BndOk lov 0 0∧(∃ k,hiv = some (.int k 0))∧(∃ k,mxv = some (.int k 0)):=by
    refine ⟨zeroN_ok z1 hlo,?_,?_⟩
    · have:=zeroN_ok z2 hhi
      match hiv,hhi with
      | some v,_ => obtain ⟨k,n,rfl,hn,hn2⟩:=this; exact ⟨k,by rw [show n = 0 by omega]⟩
      | none,hhi => exact hhi.elim
    · have:=zeroN_ok z3 hmx
      match mxv,hmx with
      | some v,_ => obtain ⟨k,n,rfl,hn,hn2⟩:=this; exact ⟨k,by rw [show n = 0 by omega]⟩
      | none,hmx => exact hmx.elim
  obtain ⟨k,rfl⟩:=b2
  obtain ⟨k',rfl⟩:=b3
  exact ⟨_,_,fun W => run_slice00 ht hs W b1,by simp only [Den]; exact ⟨_,rfl⟩,h⟩
def lenV : V→Option Nat
  | .sl _ lo hi => some (hi - lo)
  | .dat (.sl _ l) => some l.length
  | .sa _ _ _ _ n _ => some n
  | .se _ _ _ _ n _ => some n
  | .e0 => some 0
  | _ => none
theorem lenV_ok {v : V} {n : Nat} (h : lenV v = some n) {σ : Sg} {E : EH} {x : Value} (hd : Den σ E v x) : ∃ a cap,x = .slice a n cap:=by
  unfold lenV at h
  split at h <;> (try cases h) <;> simp only [Den,RepD] at hd
  · obtain ⟨r,a,_,rfl,_⟩:=hd; exact ⟨_,_,rfl⟩
  · obtain ⟨a,cap,rfl,_⟩:=hd; exact ⟨_,_,rfl⟩
  · obtain ⟨r,a,_,rfl,_⟩:=hd; exact ⟨_,_,rfl⟩
  · obtain ⟨r,a,_,rfl,_⟩:=hd; exact ⟨_,_,rfl⟩
  · obtain ⟨a,rfl⟩:=hd; exact ⟨_,_,rfl⟩
def lenK (P : Program) (t : TypeId) (x : V) (K : V→Prop) : Prop :=
  match P.underlying t with
  | some (.slice _) => match lenV x with
    | some n => K (.int .i64 (n : Int))
    | none => False
  | some (.array n _) => K (.int .i64 (n : Int))
  | _ => False
theorem lenK_ok {P : Program} {t : TypeId} {x : V} {K : V→Prop} (h : lenK P t x K) {σ : Sg} {E : EH} {a : Value} (hd : Den σ E x a) (ty : TypeId) :
    ∃ v z,(∀ W,(Builtin.len_ #[t] ty #[a]).run P W = .ok z W)∧Den σ E v z∧K v:=by
  unfold lenK at h
  split at h <;> try exact h.elim
  · rename_i e ht
    split at h <;> try exact h.elim
    rename_i n hn
    obtain ⟨ad,cap,rfl⟩:=lenV_ok hn hd
    exact ⟨_,_,fun W => by simp [Builtin.len_,run_underlying ht]; rfl,by simp [Den,goInt],h⟩
  · rename_i n e ht
    exact ⟨_,_,fun W => by simp [Builtin.len_,run_underlying ht]; rfl,by simp [Den,goInt],h⟩
end Vc
set_option linter.unusedSimpArgs false
set_option linter.unusedVariables false
namespace Vc
open Go
theorem Inv.renew {σ : Sg} {E : EH} {kb : KB} {W W' : World} (h : Inv σ E kb W) {i : Nat} {r r' : Re} {o o' : KO} (hs : σ[i]? = some r) (hk : kb[i]? = some o)
    (hos : W'.os = W.os) (htp : W'.tape = W.tape) (hout : W'.output = W.output) (hsz : W.heap.size ≤ W'.heap.size)
    (hbl : ∀ b,b < W.heap.size→¬ owned r o b→W'.heap[b]? = W.heap[b]?) (hr : ∀ b,owned r' o' b→owned r o b∨W.heap.size ≤ b) (ho : HoldsO (σ ++ [r']) E W' r' o') :
    Step σ E kb W (σ ++ [r']) E (kb.set i .dead ++ [o']) W':=by
  have hi : i < kb.length:=by
    rcases Nat.lt_or_ge i kb.length with h' | h'
    · exact h'
    · simp [List.getElem?_eq_none h'] at hk
  have hcase : ∀ (j : Nat) (r1 : Re) (x : KO),(σ ++ [r'])[j]? = some r1→(kb.set i .dead ++ [o'])[j]? = some x →
      (j = σ.length∧r1 = r'∧x = o')∨(j < σ.length∧j = i∧x = .dead)∨(j < σ.length∧j ≠ i∧σ[j]? = some r1∧kb[j]? = some x):=by
    intro j r1 x h1 h2
    rcases Nat.lt_trichotomy j σ.length with hj | hj | hj
    · rw [List.getElem?_append_left hj] at h1
      rw [List.getElem?_append_left (by rw [List.length_set,← h.len]; exact hj)] at h2
      by_cases hji : j = i
      · subst hji
        rw [List.getElem?_set_self hi] at h2
        exact .inr (.inl ⟨hj,rfl,(Option.some.inj h2).symm⟩)
      · rw [List.getElem?_set_ne (Ne.symm hji)] at h2
        exact .inr (.inr ⟨hj,hji,h1,h2⟩)
    · subst hj
      rw [List.getElem?_append_right (Nat.le_refl _)] at h1
      rw [List.getElem?_append_right (by rw [List.length_set,← h.len]; exact Nat.le_refl _)] at h2
      simp [h.len] at h1 h2
      exact .inl ⟨rfl,h1.symm,h2.symm⟩
    · rw [List.getElem?_eq_none (by simp; omega)] at h1; cases h1
  have hown : ∀ b,Owns (σ ++ [r']) (kb.set i .dead ++ [o']) b→Owns σ kb b∨W.heap.size ≤ b:=by
    rintro b ⟨j,r1,x,h1,h2,h3⟩
    rcases hcase j r1 x h1 h2 with ⟨_,rfl,rfl⟩ | ⟨_,_,rfl⟩ | ⟨_,_,h4,h5⟩
    · rcases hr b h3 with h6 | h6
      · exact .inl ⟨i,r,o,hs,hk,h6⟩
      · exact .inr h6
    · exact h3.elim
    · exact .inl ⟨j,r1,x,h4,h5,h3⟩
  refine ⟨⟨by simp [h.len],fun j r1 x h1 h2 => ?_,fun a c r1 r2 o1 o2 b hac h1 h2 h3 h4 h5 h6 => ?_,fun b x hb => ?_,fun b hb => ?_⟩,⟨hos,htp,hout,hsz,fun b hb hn => hbl b hb (fun ho' => hn ⟨i,r,o,hs,hk,ho'⟩)⟩,⟨[r'],rfl⟩,EH.le.refl E,hown,fun b x hb => .inl hb⟩
  · rcases hcase j r1 x h1 h2 with ⟨_,rfl,rfl⟩ | ⟨_,_,rfl⟩ | ⟨_,hji,h4,h5⟩
    · exact ho
    · trivial
    · exact (h.obj j r1 x h4 h5).mono (EH.le.refl E) (fun b hb => hbl b ((h.obj j r1 x h4 h5).lt hb) (fun hb' => h.disj i j r r1 o x b (Ne.symm hji) hs hk h4 h5 hb' hb))
  · rcases hcase a r1 o1 h1 h2 with ⟨ha,rfl,rfl⟩ | ⟨_,_,rfl⟩ | ⟨ha,hai,a4,a5⟩
    · rcases hcase c r2 o2 h3 h4 with ⟨hc,_,_⟩ | ⟨_,_,rfl⟩ | ⟨hc,hci,c4,c5⟩
      · omega
      · exact h6.elim
      · rcases hr b h5 with h7 | h7
        · exact h.disj i c r r2 o o2 b (Ne.symm hci) hs hk c4 c5 h7 h6
        · have:=(h.obj c r2 o2 c4 c5).lt h6; omega
    · exact h5.elim
    · rcases hcase c r2 o2 h3 h4 with ⟨hc,rfl,rfl⟩ | ⟨_,_,rfl⟩ | ⟨hc,hci,c4,c5⟩
      · rcases hr b h6 with h7 | h7
        · exact h.disj i a r r1 o o1 b (Ne.symm hai) hs hk a4 a5 h7 h5
        · have:=(h.obj a r1 o1 a4 a5).lt h5; omega
      · exact h6.elim
      · exact h.disj a c r1 r2 o1 o2 b hac a4 a5 c4 c5 h5 h6
  · have h1:=h.imm b x hb
    rw [hbl b (Array.getElem?_eq_some_iff.1 h1).1 (fun hb' => ?_)]
    · exact h1
    · have:=h.sep b ⟨i,r,o,hs,hk,hb'⟩
      rw [this] at hb; cases hb
  · rcases hown b hb with h1 | h1
    · exact h.sep b h1
    · cases hE : E b with
      | none => rfl
      | some x =>
        have:=(Array.getElem?_eq_some_iff.1 (h.imm b x hE)).1
        omega
def ones (ds : List D) : List (List D):=ds.map fun d => [d]
theorem ones_len (ds : List D) : (ones ds).length = ds.length:=by simp [ones]
def srcV (kb : KB) : V→Option (Option Nat × Prop × List (List D))
  | .sl j lo hi => match kb[j]? with
    | some (.row _ sz l) => some (some sz,hi ≤ l.length,(l.take hi).drop lo)
    | _ => none
  | .dat (.sl sz l) => some (some sz,True,l)
  | .any (.slice none 0 0) => some (none,True,[])
  | .e0 => some (none,True,[])
  | .sa i base o s n c => match kb[i]?,Nat.beq s 1 with
    | some (.cells l),true => match pieceAt l base with
      | some (.arr m cs) => some (some 1,o + n ≤ m,ones ((cs.drop o).take n))
      | _ => none
    | _,_ => none
  | .se i ix o s n c => match kb[i]?,Nat.beq s 1 with
    | some (.row _ sz l),true => some (some 1,ix < l.length∧o + n ≤ sz,ones ((((l[ix]?).getD []).drop o).take n))
    | _,_ => none
  | _ => none
def szFits (s : Nat) : Option Nat→Bool
  | some sz => Nat.beq sz s
  | none => true
def Elems (E : EH) (W : World) (s : Nat) (y : Value) (xs : List (List D)) : Prop :=
  wl s xs∧∃ a cap ys,y = .slice a xs.length cap∧xs.length ≤ cap∧DenD E xs.flatten ys∧(xs.length = 0∨∃ b o,a = some ⟨b,o,none⟩∧∀ (j : Nat) (v : Value),ys[j]? = some v→W.cell? ⟨b,o + j,none⟩ = some v)
theorem srcV_ok {kb : KB} {x : V} {sz : Option Nat} {p : Prop} {xs : List (List D)} (h : srcV kb x = some (sz,p,xs)) (hp : p)
    {σ : Sg} {E : EH} {W : World} (hi : Inv σ E kb W) {y : Value} (hy : Den σ E x y) {s : Nat} (hsz : szFits s sz = true) : Elems E W s y xs:=by
  unfold srcV at h
  split at h
  · rename_i j lo hi'
    split at h <;> try (cases h; done)
    rename_i ty sz' l hl
    simp only [Option.some.injEq,Prod.mk.injEq] at h
    obtain ⟨rfl,rfl,rfl⟩:=h
    have hszs : sz' = s:=Nat.eq_of_beq_eq_true hsz
    subst hszs
    simp only [Den] at hy
    obtain ⟨r,ad,hr,rfl,g1,g2,g3⟩:=hy
    have ho:=hi.obj j r _ hr hl
    obtain ⟨zs,z1,z2⟩:=row_cells ho lo
    obtain ⟨k1,k2,k3,k4,k5⟩:=ho
    have hxl : ((l.take hi').drop lo).length = hi' - lo:=by simp; omega
    have e1 : ((l.take hi').drop lo).flatten = (l.drop lo).flatten.take ((hi' - lo) * sz'):=by
      rw [take_drop_flat k2,flat_drop k2]
    refine ⟨(k2.take hi').drop lo,ad,_,zs.take ((hi' - lo) * sz'),by rw [hxl],by rw [hxl]; omega,by rw [e1]; exact z1.take _,?_⟩
    by_cases h0 : hi' - lo = 0
    · left; rw [hxl]; exact h0
    · right
      refine ⟨_,_,g3 (by omega),fun q v hv => z2 q v ?_⟩
      have hlt : q < (hi' - lo) * sz':=by
        have:=(List.getElem?_eq_some_iff.1 hv).1
        simp only [List.length_take] at this
        omega
      rwa [List.getElem?_take_of_lt hlt] at hv
  · rename_i sz' l
    simp only [Option.some.injEq,Prod.mk.injEq] at h
    obtain ⟨rfl,rfl,rfl⟩:=h
    have hszs : sz' = s:=Nat.eq_of_beq_eq_true hsz
    subst hszs
    simp only [Den,RepD] at hy
    obtain ⟨ad,cap,rfl,hcap,hrep⟩:=hy
    rcases hrep with hrep | ⟨b,off,rfl,hrep⟩
    · have : l = []:=List.eq_nil_of_length_eq_zero hrep
      subst this
      exact ⟨wl.nil,ad,cap,[],rfl,hcap,.nil,.inl rfl⟩
    · obtain ⟨zs,z1,z2⟩:=hrep.flat.denD
      exact ⟨hrep.wl,_,cap,zs,rfl,hcap,z1,.inr ⟨b,off,rfl,fun q v hv => imm_cell hi.imm (z2 q v hv)⟩⟩
  · simp only [Option.some.injEq,Prod.mk.injEq] at h
    obtain ⟨rfl,rfl,rfl⟩:=h
    simp only [Den] at hy
    subst hy
    exact ⟨wl.nil,none,0,[],rfl,Nat.le_refl _,.nil,.inl rfl⟩
  · simp only [Option.some.injEq,Prod.mk.injEq] at h
    obtain ⟨rfl,rfl,rfl⟩:=h
    simp only [Den] at hy
    obtain ⟨a,rfl⟩:=hy
    exact ⟨wl.nil,a,0,[],rfl,Nat.le_refl _,.nil,.inl rfl⟩
  · rename_i i base o s' n c
    split at h <;> try (cases h; done)
    rename_i l hl hb
    split at h <;> try (cases h; done)
    rename_i m cs hp'
    simp only [Option.some.injEq,Prod.mk.injEq] at h
    obtain ⟨rfl,rfl,rfl⟩:=h
    have hszs : 1 = s:=Nat.eq_of_beq_eq_true hsz
    subst hszs
    simp only [Den] at hy
    obtain ⟨r,ad,hr,rfl,g1,g2⟩:=hy
    have ho:=hi.obj i r _ hr hl
    obtain ⟨zs,z1,z2⟩:=piece_cells ho hp'
    obtain ⟨arr,ty,_,hD⟩:=ho
    obtain ⟨_,_,hcm,_,_⟩:=pieceAt_arr hp' hD
    have hlen : (ones ((cs.drop o).take n)).length = n:=by rw [ones_len]; simp; omega
    refine ⟨wl_single _,ad,c,(zs.drop o).take n,by rw [hlen],by rw [hlen]; exact g1,by unfold ones; rw [flat_single]; exact (z1.drop o).take n,?_⟩
    by_cases h0 : n = 0
    · left; rw [hlen]; exact h0
    · right
      refine ⟨_,_,g2 (by omega),fun q v hv => ?_⟩
      have hlt : q < n:=by
        have:=(List.getElem?_eq_some_iff.1 hv).1
        simp only [List.length_take] at this
        omega
      rw [List.getElem?_take_of_lt hlt,List.getElem?_drop] at hv
      rw [Nat.add_assoc]
      exact z2 _ v hv
  · rename_i i ix o s' n c
    split at h <;> try (cases h; done)
    rename_i ty sz' l hl hb
    simp only [Option.some.injEq,Prod.mk.injEq] at h
    obtain ⟨rfl,rfl,rfl⟩:=h
    have hszs : 1 = s:=Nat.eq_of_beq_eq_true hsz
    subst hszs
    obtain ⟨hix,hon⟩:=hp
    simp only [Den] at hy
    obtain ⟨r,ad,hr,rfl,g1,g2⟩:=hy
    have ho:=hi.obj i r _ hr hl
    have he : l[ix]? = some l[ix]:=List.getElem?_eq_getElem hix
    obtain ⟨zs,z1,z2⟩:=row_elem ho he
    have hel:=ho.2.1 _ (List.getElem_mem hix)
    rw [he,Option.getD_some]
    have hlen : (ones ((l[ix].drop o).take n)).length = n:=by rw [ones_len]; simp; omega
    refine ⟨wl_single _,ad,c,(zs.drop o).take n,by rw [hlen],by rw [hlen]; exact g1,by unfold ones; rw [flat_single]; exact (z1.drop o).take n,?_⟩
    by_cases h0 : n = 0
    · left; rw [hlen]; exact h0
    · right
      refine ⟨_,_,g2 (by omega),fun q v hv => ?_⟩
      have hlt : q < n:=by
        have:=(List.getElem?_eq_some_iff.1 hv).1
        simp only [List.length_take] at this
        omega
      rw [List.getElem?_take_of_lt hlt,List.getElem?_drop] at hv
      rw [Nat.add_assoc]
      exact z2 _ v hv
  · cases h
theorem Elems.first {E : EH} {W : World} {s : Nat} {y : Value} {xs : List (List D)} (h : Elems E W s y xs) {P : Program} (k : Nat) (hk : k ≤ xs.length) :
    ∃ ys,(Builtin.firstCells s k y).run P W = .ok ys.toArray W∧(Builtin.firstCells s k y).run P W.drew = .ok ys.toArray W.drew∧DenD E (xs.take k).flatten ys:=by
  obtain ⟨hw,a,cap,ys,rfl,hc,hD,ha⟩:=h
  have hyl:=hD.len
  rw [flat_len hw] at hyl
  by_cases h0 : k = 0
  · subst h0
    refine ⟨[],?_,?_,by simp [DenD]⟩
    · cases a with
      | none => simpa using run_firstCells_none (P:=P) W s 0 _ cap
      | some a => simpa using run_firstCells_some (P:=P) W s 0 a _ cap [] (by simp) (by simp)
    · cases a with
      | none => simpa using run_firstCells_none (P:=P) W.drew s 0 _ cap
      | some a => simpa using run_firstCells_some (P:=P) W.drew s 0 a _ cap [] (by simp) (by simp)
  · rcases ha with ha | ⟨b,o,rfl,ha⟩
    · omega
    have hkl : k * s ≤ xs.length * s:=Nat.mul_le_mul_right _ hk
    have hl : (ys.take (k * s)).length = k * s:=by simp; omega
    have hcell : ∀ (j : Nat) (u : Value),(ys.take (k * s))[j]? = some u→W.cell? (Addr.add ⟨b,o,none⟩ j) = some u:=fun j u hj => by
      have hlt : j < k * s:=by
        have:=(List.getElem?_eq_some_iff.1 hj).1
        omega
      rw [List.getElem?_take_of_lt hlt] at hj
      rw [Addr.add_lit]
      exact ha j u hj
    exact ⟨ys.take (k * s),run_firstCells_some (P:=P) W s k _ _ cap _ hl hcell,run_firstCells_some (P:=P) W.drew s k _ _ cap _ hl (by simpa using hcell),by rw [flat_take hw]; exact hD.take _⟩
theorem Elems.lenOf {E : EH} {W : World} {s : Nat} {y : Value} {xs : List (List D)} (h : Elems E W s y xs) {P : Program} (w : World) : (Builtin.lenOf y).run P w = .ok xs.length w:=by
  obtain ⟨_,a,cap,_,rfl,_⟩:=h
  rfl
theorem Elems.src {E : EH} {W : World} {s : Nat} {y : Value} {xs : List (List D)} (h : Elems E W s y xs) {P : Program} {u e' : TypeId} (hu : P.underlying u = some (.slice e')) :
    ∃ ys,Src P s u y xs.length ys W∧DenD E xs.flatten ys:=by
  obtain ⟨ys,h1,h2,h3⟩:=h.first (P:=P) xs.length (Nat.le_refl _)
  rw [List.take_length] at h3
  exact ⟨ys,⟨.inl ⟨e',hu⟩,fun w => h.lenOf w,h1,h2,by rw [h3.len,flat_len h.1],h3.one⟩,h3⟩
def appendK (P : Program) (t u : TypeId) (d x : V) (kb : KB) (K : V→KB→Prop) : Prop :=
  match P.underlying t,P.underlying u,srcV kb x with
  | some (.slice elem),some (.slice _),some (sz,p,xs) =>
    match P.info? elem with
    | some i =>
      match i.zero,Nat.ble 1 i.size,Nat.ble 1 i.bytes,szFits i.size sz with
      | some z,true,true,true =>
        match Nat.beq z.cells.size i.size with
        | true =>
          match d with
          | .any (.slice none 0 0) => p∧xs.length * i.bytes ≤ 140737488355328∧K (.sl kb.length 0 xs.length) (kb ++ [.row elem i.size xs])
          | .e0 => p∧xs.length * i.bytes ≤ 140737488355328∧K (.sl kb.length 0 xs.length) (kb ++ [.row elem i.size xs])
          | .sl j 0 hi =>
            match kb[j]? with
            | some (.row ty sz' l) => match Nat.beq ty elem,Nat.beq sz' i.size with
              | true,true => p∧hi ≤ l.length∧(hi + xs.length) * i.bytes ≤ 140737488355328∧K (.sl kb.length 0 (hi + xs.length)) (kb.set j .dead ++ [.row elem i.size (l.take hi ++ xs)])
              | _,_ => False
            | _ => False
          | _ => False
        | false => False
      | _,_,_,_ => False
    | none => False
  | _,_,_ => False
theorem run_append_new {P : Program} {t u elem e' : TypeId} {i : TypeInfo} {z : Value} (ht : P.underlying t = some (.slice elem)) (hu : P.underlying u = some (.slice e')) (hi : P.info? elem = some i) (hz : i.zero = some z)
    (h1 : 1 ≤ i.size) (h2 : 1 ≤ i.bytes) (hzs : z.cells.size = i.size) (W : World) {base : Option Addr} {sLen sCap : Nat} {olds : List Value}
    (hold : (Builtin.firstCells i.size sLen (.slice base sLen sCap)).run P W.drew = .ok olds.toArray W.drew) (hol : olds.length = sLen * i.size) {y : Value} {n : Nat} {news : List Value} (hs : Src P i.size u y n news W) (hg : sCap < sLen + n)
    (hb : (sLen + n) * i.bytes ≤ 140737488355328) (ty : TypeId) :
    ∃ cap arr,(Builtin.append_ #[t,u] ty #[.slice base sLen sCap,y]).run P W = .ok (.slice (some ⟨W.heap.size,0,none⟩) (sLen + n) cap) (W.drew.alloc (.cells arr elem))∧sLen + n ≤ cap∧cap ≤ maxLen ∧
      arr.size = cap * i.size∧arr.toList.take ((sLen + n) * i.size) = olds ++ news:=by
  have hsm : sLen + n ≤ 140737488355328:=Nat.le_trans (Nat.le_mul_of_pos_right _ h2) hb
  have hge:=grownCap_ge W (sLen + n) sCap elem
  have hle:=grownCap_le_maxLen W (sLen + n) sCap elem (by simp only [maxLen]; omega)
  have hr:=run_append_grow_src W t u ty elem i z ht hi hz base sLen sCap olds hold y n news hs hg (by omega) (growslice_fits hg hb)
  refine ⟨_,_,hr,hge,hle,?_,?_⟩
  · have : (olds ++ news).length = (sLen + n) * i.size:=by rw [List.length_append,hol,hs.newsLen,Nat.add_mul]
    simp only [Array.size_append,List.size_toArray,this,size_zeroCells,hzs]
    rw [← Nat.add_mul]
    congr 1
    omega
  · have : (olds ++ news).length = (sLen + n) * i.size:=by rw [List.length_append,hol,hs.newsLen,Nat.add_mul]
    rw [Array.toList_append,← this]
    exact List.take_left
theorem run_append_room_src' {P : Program} {t u elem e' : TypeId} {i : TypeInfo} (ht : P.underlying t = some (.slice elem)) (hu : P.underlying u = some (.slice e')) (hi : P.info? elem = some i) (W : World) {b sLen sCap : Nat} {cur : Array Value}
    (hg : W.heap[b]? = some (.cells cur elem (0,0))) (hc : cur.size = sCap * i.size) {y : Value} {n : Nat} {news : List Value} (hs : Src P i.size u y n news W) (hroom : sLen + n ≤ sCap) (ty : TypeId) :
    (Builtin.append_ #[t,u] ty #[.slice (some ⟨b,0,none⟩) sLen sCap,y]).run P W = .ok (.slice (some ⟨b,0,none⟩) (sLen + n) sCap) (W.setRow b (splice cur.toList (sLen * i.size) news).toArray):=by
  have hfit : sLen * i.size + news.length ≤ cur.size:=by
    rw [hs.newsLen,hc,← Nat.add_mul]; exact Nat.mul_le_mul_right _ hroom
  have hst:=run_storeCells_at P b (sLen * i.size) elem news 0 cur W hg (by simpa using hfit) hs.one
  simp only [Nat.add_zero] at hst
  simp [Builtin.append_,run_underlying ht,run_underlying hu,Go.sizeOf,typeInfo,hi,hs.len,hroom,hs.cells,Addr.add_lit,hst,splice]
theorem appendK_ok {P : Program} {t u : TypeId} {d x : V} {kb : KB} {K : V→KB→Prop} (h : appendK P t u d x kb K) {σ : Sg} {E : EH} {W : World} (hi : Inv σ E kb W) {a y : Value} (hd : Den σ E d a) (hy : Den σ E x y) (ty : TypeId) :
    ∃ v z σ' kb' W',(Builtin.append_ #[t,u] ty #[a,y]).run P W = .ok z W'∧Step σ E kb W σ' E kb' W'∧Den σ' E v z∧K v kb':=by
  unfold appendK at h
  split at h <;> try exact h.elim
  rename_i elem e' sz p xs ht hu hsrc
  split at h <;> try exact h.elim
  rename_i i hinf
  split at h <;> try exact h.elim
  rename_i z hz hb1 hb2 hfit
  split at h <;> try exact h.elim
  rename_i hbz
  have h1:=Nat.le_of_ble_eq_true hb1
  have h2:=Nat.le_of_ble_eq_true hb2
  have hzs:=Nat.eq_of_beq_eq_true hbz
  have hnew : ∀ {cap : Nat} {arr : Array Value} {l : List (List D)} {ys : List Value},wl i.size l→l.length ≤ cap→cap ≤ maxLen→arr.size = cap * i.size→arr.toList.take (l.length * i.size) = ys→DenD E l.flatten ys →
      HoldsO (σ ++ [⟨W.heap.size,cap,i.size⟩]) E (W.drew.alloc (.cells arr elem)) ⟨W.heap.size,cap,i.size⟩ (.row elem i.size l):=by
    intro cap arr l ys q1 q2 q3 q4 q5 q6
    refine ⟨rfl,q1,q2,q3,.inr ⟨arr,?_,q4,by rw [q5]; exact q6⟩⟩
    show (W.heap.push _)[W.heap.size]? = _
    simp
  have fresh : ∀ {base : Option Addr},a = .slice base 0 0→p∧xs.length * i.bytes ≤ 140737488355328∧K (.sl kb.length 0 xs.length) (kb ++ [.row elem i.size xs]) →
      ∃ v z σ' kb' W',(Builtin.append_ #[t,u] ty #[a,y]).run P W = .ok z W'∧Step σ E kb W σ' E kb' W'∧Den σ' E v z∧K v kb':=by
    rintro base rfl ⟨hp,hb,hK⟩
    have hE:=srcV_ok hsrc hp hi hy hfit
    obtain ⟨ys,hs,hD⟩:=hE.src hu
    have hw:=hE.1
    by_cases hx : xs.length = 0
    · have hnil : xs = []:=List.eq_nil_of_length_eq_zero hx
      subst hnil
      have hrun : (Builtin.append_ #[t,u] ty #[.slice base 0 0,y]).run P W = .ok (.slice base 0 0) W:=by
        have hlen:=hs.len
        have hcl:=hs.cells
        have hyl:=hs.newsLen
        simp at hlen hcl hyl
        subst hyl
        cases base <;> simp [Builtin.append_,run_underlying ht,run_underlying hu,Go.sizeOf,typeInfo,hinf,hlen,hcl,storeCells]
      have hst : Step σ E kb W (σ ++ [⟨0,0,i.size⟩]) E (kb ++ [.row elem i.size []]) W :=
        hi.grow _ _ rfl rfl rfl (Nat.le_refl _) (fun _ _ => rfl) (fun b hb => absurd rfl hb.1) ⟨rfl,wl.nil,Nat.le_refl _,Nat.zero_le _,.inl rfl⟩
      exact ⟨_,_,_,_,_,hrun,hst,by simp only [Den]; exact ⟨⟨0,0,i.size⟩,base,by rw [← hi.len]; simp,by simp,by simp,by simp,by simp⟩,hK⟩
    · have hold : (Builtin.firstCells i.size 0 (.slice base 0 0)).run P W.drew = .ok ([] : List Value).toArray W.drew:=by
        cases base with
        | none => simpa using run_firstCells_none (P:=P) W.drew i.size 0 0 0
        | some ad => simpa using run_firstCells_some (P:=P) W.drew i.size 0 ad 0 0 [] (by simp) (by simp)
      obtain ⟨cap,arr,hrun,c1,c2,c3,c4⟩:=run_append_new (base:=base) (sLen:=0) (sCap:=0) (olds:=[]) ht hu hinf hz h1 h2 hzs W hold (by simp) hs (by omega) (by simpa using hb) ty
      simp only [Nat.zero_add,List.nil_append] at hrun c1 c4
      have hst:=(Inv.drew hi).trans ((Inv.drew hi).inv.alloc (.cells arr elem) ⟨W.heap.size,cap,i.size⟩ (.row elem i.size xs) (fun b hb => hb.2) (hnew hw c1 c2 c3 c4 hD))
      exact ⟨_,_,_,_,_,hrun,hst,by simp only [Den]; exact ⟨⟨W.heap.size,cap,i.size⟩,_,by rw [← hi.len]; simp,rfl,by simp,c1,by simp⟩,hK⟩
  split at h <;> try exact h.elim
  · simp only [Den] at hd
    exact fresh hd h
  · simp only [Den] at hd
    obtain ⟨base,rfl⟩:=hd
    exact fresh rfl h
  · rename_i j hi'
    split at h <;> try exact h.elim
    rename_i ty' sz' l hl
    split at h <;> try exact h.elim
    rename_i hbt hbs
    have hty:=Nat.eq_of_beq_eq_true hbt
    have hsz:=Nat.eq_of_beq_eq_true hbs
    subst hty; subst hsz
    obtain ⟨hp,hle,hb,hK⟩:=h
    have hE:=srcV_ok hsrc hp hi hy hfit
    obtain ⟨ys,hs,hD⟩:=hE.src hu
    have hw:=hE.1
    simp only [Den] at hd
    obtain ⟨r,ad,hr,rfl,_,g2,g3⟩:=hd
    simp only [Nat.sub_zero,Nat.zero_mul] at *
    obtain ⟨k1,k2,k3,k4,k5⟩:=hi.obj j r _ hr hl
    have hwt:=(k2.take hi').append hw
    have hlen : (l.take hi' ++ xs).length = hi' + xs.length:=by simp; omega
    by_cases hroom : hi' + xs.length ≤ r.cap
    · by_cases hc0 : r.cap = 0
      · have hx0 : xs.length = 0:=by omega
        have hnil : xs = []:=List.eq_nil_of_length_eq_zero hx0
        have hh0 : hi' = 0:=by omega
        subst hnil; subst hh0
        have hrun : (Builtin.append_ #[t,u] ty #[.slice ad 0 r.cap,y]).run P W = .ok (.slice ad 0 r.cap) W:=by
          have hlen:=hs.len
          have hcl:=hs.cells
          have hyl:=hs.newsLen
          simp at hlen hcl hyl
          subst hyl
          cases ad <;> simp [Builtin.append_,run_underlying ht,run_underlying hu,Go.sizeOf,typeInfo,hinf,hlen,hcl,storeCells]
        have hst:=hi.renew (W':=W) (r':=⟨0,0,i.size⟩) (o':=.row ty' i.size (l.take 0 ++ [])) hr hl rfl rfl rfl (Nat.le_refl _) (fun _ _ _ => rfl) (fun b hb => absurd rfl hb.1)
          ⟨rfl,hwt,by simp,Nat.zero_le _,.inl rfl⟩
        exact ⟨_,_,_,_,_,hrun,hst,by simp only [Den]; exact ⟨⟨0,0,i.size⟩,ad,by rw [List.getElem?_append_right (by rw [hi.len]; exact Nat.le_refl _)]; simp [hi.len],by simp [hc0],by simp,by simp,by simp⟩,hK⟩
      · rcases k5 with k5 | ⟨arr,k5,k6,k7⟩
        · exact absurd k5 hc0
        rw [g3 (by omega)]
        have hrun:=run_append_room_src' ht hu hinf W k5 k6 hs hroom ty
        have hfl : DenD E (l.take hi').flatten (arr.toList.take (hi' * i.size)):=by
          rw [flat_take k2]
          have:=k7.take (hi' * i.size)
          rwa [List.take_take,Nat.min_eq_left (Nat.mul_le_mul_right _ hle)] at this
        have hyl:=hs.newsLen
        have hsp : hi' * i.size + ys.length ≤ arr.toList.length:=by
          have hal : arr.toList.length = r.cap * i.size:=by simpa using k6
          rw [hyl,hal,← Nat.add_mul]; exact Nat.mul_le_mul_right _ hroom
        have hst:=hi.renew (W':=W.setRow r.blk (splice arr.toList (hi' * i.size) ys).toArray) (r':=⟨r.blk,r.cap,i.size⟩) (o':=.row ty' i.size (l.take hi' ++ xs)) hr hl rfl rfl rfl (by simp [World.setRow])
          (fun b _ hb => setRow_other W r.blk b _ (fun e => hb ⟨hc0,e⟩)) (fun b hb => .inl ⟨hc0,hb.2⟩)
          ⟨rfl,hwt,by rw [hlen]; exact hroom,k4,.inr ⟨_,setRow_heap W r.blk arr _ ty' (0,0) k5,by simp only [List.size_toArray]; rw [splice_len hsp]; simpa using k6,by
            rw [hlen,List.flatten_append]
            simp only [splice]
            have e0 : (arr.toList.take (hi' * i.size)).length = hi' * i.size:=by rw [List.length_take]; omega
            have e1 : (hi' + xs.length) * i.size = (arr.toList.take (hi' * i.size) ++ ys).length:=by
              rw [List.length_append,e0,hyl,Nat.add_mul]
            rw [e1,List.take_left]
            exact hfl.append hD⟩⟩
        exact ⟨_,_,_,_,_,hrun,hst,by simp only [Den]; exact ⟨⟨r.blk,r.cap,i.size⟩,_,by rw [List.getElem?_append_right (by rw [hi.len]; exact Nat.le_refl _)]; simp [hi.len],rfl,by simp,hroom,by simp⟩,hK⟩
    · have hEd : Elems E W i.size (.slice ad hi' r.cap) (l.take hi'):=by
        have:=srcV_ok (kb:=kb) (x:=.sl j 0 hi') (sz:=some i.size) (p:=hi' ≤ l.length) (xs:=(l.take hi').drop 0) (by simp only [srcV,hl]) hle hi (y:=.slice ad hi' r.cap)
          (by simp only [Den]; exact ⟨r,ad,hr,by simp,Nat.zero_le _,g2,fun h => by rw [g3 h,Nat.zero_mul]⟩) (s:=i.size) (by simp [szFits])
        simpa using this
      obtain ⟨olds,_,hold,hDo⟩:=hEd.first (P:=P) (l.take hi').length (Nat.le_refl _)
      rw [List.take_length] at hDo
      have hthl : (l.take hi').length = hi':=by simp; omega
      rw [hthl] at hold
      have hol : olds.length = hi' * i.size:=by rw [hDo.len,flat_len (k2.take hi'),hthl]
      obtain ⟨cap,arr,hrun,c1,c2,c3,c4⟩:=run_append_new ht hu hinf hz h1 h2 hzs W hold hol hs (by omega) hb ty
      have hst:=(Inv.drew hi).trans ((Inv.drew hi).inv.renew (W':=W.drew.alloc (.cells arr ty')) (r':=⟨W.heap.size,cap,i.size⟩) (o':=.row ty' i.size (l.take hi' ++ xs)) hr hl rfl rfl rfl (by simp)
        (fun b hb _ => by show (W.heap.push _)[b]? = _; rw [Array.getElem?_push,if_neg (by have : b < W.heap.size:=hb; omega)]; rfl) (fun b hb => .inr (by rw [hb.2]; exact Nat.le_refl _)) (hnew (ys:=olds ++ ys) hwt (by rw [hlen]; exact c1) c2 c3 (by rw [hlen]; exact c4) (by rw [List.flatten_append]; exact hDo.append hD)))
      exact ⟨_,_,_,_,_,hrun,hst,by simp only [Den]; exact ⟨⟨W.heap.size,cap,i.size⟩,_,by rw [List.getElem?_append_right (by rw [hi.len]; exact Nat.le_refl _)]; simp [hi.len],rfl,by simp,c1,by simp⟩,hK⟩
end Vc
set_option linter.unusedSimpArgs false
set_option linter.unusedVariables false
namespace Vc
open Go
def partV (P : Program) (t : TypeId) (l : List V) (off : Nat) : Option V :=
  match tAgg P t,tSize P t,dropW l off with
  | some true,some n,some r => match takeW r n with | some vs => some (.agg vs) | none => none
  | some false,some _,some (v :: _) => match v with | .arr _ _ => none | _ => some v
  | _,_,_ => none
theorem partV_ok {P : Program} {t : TypeId} {l : List V} {off : Nat} {v : V} (h : partV P t l off = some v) {σ : Sg} {E : EH} {xs : List Value} (hd : DenC σ E l xs) :
    ∃ x,(∀ W,(part t xs.toArray off).run P W = .ok x W)∧Den σ E v x:=by
  unfold partV at h
  split at h
  · rename_i n r ha hn hr
    split at h <;> try (cases h; done)
    rename_i vs hvs
    cases h
    obtain ⟨h1,_⟩:=dropW_ok hr hd
    obtain ⟨h2,h3⟩:=takeW_ok hvs h1
    refine ⟨_,fun W => by simp [part,run_tAgg ha,run_tSize hn]; rfl,?_⟩
    simp only [Den]
    exact ⟨(xs.drop off).take n,rfl,h2⟩
  · rename_i n u r ha hn hr
    split at h <;> try (cases h; done)
    rename_i hna
    cases h
    obtain ⟨h1,_⟩:=dropW_ok hr hd
    obtain ⟨ys,zs,e,h2,_⟩:=h1.uncons
    rcases h2 with ⟨y,rfl,_,hy⟩ | ⟨m,cs,e',_,_⟩
    · have hx : xs[off]? = some y:=by
        have:=congrArg (fun z => z[0]?) e
        simpa using this
      exact ⟨y,fun W => by simp [part,run_tAgg ha,hx],hy⟩
    · exact (hna _ _ e').elim
  · cases h
def fieldV (P : Program) (t : TypeId) (v : V) (n : Nat) : Option V :=
  match P.underlying t,v with
  | some (.struct fs),.agg l => match fs[n]? with
    | some f => partV P f.type l f.offset
    | none => none
  | _,_ => none
theorem fieldV_ok {P : Program} {t : TypeId} {v u : V} {n : Nat} (h : fieldV P t v n = some u) {σ : Sg} {E : EH} {x : Value} (hd : Den σ E v x) :
    ∃ y,(∀ W,(Instr.field t x n).run P W = .ok y W)∧Den σ E u y:=by
  unfold fieldV at h
  split at h
  · rename_i fs l ht
    split at h
    · rename_i f hf
      simp only [Den] at hd
      obtain ⟨xs,rfl,hD⟩:=hd
      obtain ⟨y,h1,h2⟩:=partV_ok h hD
      exact ⟨y,fun W => by simp [Instr.field,run_underlying ht,hf,asAgg,h1],h2⟩
    · cases h
  · cases h
def elemK (P : Program) (t : TypeId) (v ix : V) (K : V→Prop) : Prop :=
  match P.underlying t,v,numOf ix with
  | some (.array m elem),.agg l,some n => match tSize P elem,tAgg P elem,kindsOf P 20 elem with
    | some s,some agg,some ks => match l with
      | [.arr _ cs] => match Nat.beq (wk ks) (cellsN agg s) with
        | true => InB n m∧loadE cs (n.toNat * s) ks (fun vs => wrapK agg vs K)
        | false => False
      | _ => match isL ix with
        | true => match partV P elem l (n.toNat * s) with | some u => InB n m∧K u | none => False
        | false => False
    | _,_,_ => False
  | _,_,_ => False
theorem elemK_ok {P : Program} {t : TypeId} {v ix : V} {K : V→Prop} (h : elemK P t v ix K) {σ : Sg} {E : EH} {x y : Value} (hd : Den σ E v x) (hy : Den σ E ix y) :
    ∃ u z,(∀ W,(Instr.index t x y).run P W = .ok z W)∧Den σ E u z∧K u:=by
  unfold elemK at h
  split at h <;> try exact h.elim
  rename_i m elem l n ht hn
  obtain ⟨k,rfl⟩:=numOf_den hn hy
  simp only [Den] at hd
  obtain ⟨xs,rfl,hD⟩:=hd
  split at h <;> try exact h.elim
  rename_i s agg ks hs ha hks
  have run : ∀ {z : Value},0 ≤ n→n < (m : Int)→(∀ W,(part elem xs.toArray (n.toNat * s)).run P W = .ok z W)→∀ W,(Instr.index t (.agg xs.toArray) (.int k n)).run P W = .ok z W:=fun h0 h1 hz W => by
    simp [Instr.index,asIntOf,run_underlying ht,h0,h1,run_tSize hs,hz W]
  split at h
  · rename_i m' cs
    split at h <;> try exact h.elim
    rename_i hb
    have hw:=Nat.eq_of_beq_eq_true hb
    obtain ⟨⟨h0,h1⟩,h⟩:=h
    obtain ⟨ys,zs,rfl,hp,hz⟩:=hD.uncons
    simp only [DenC] at hz
    subst hz
    rcases hp with ⟨y,rfl,_,hy'⟩ | ⟨m2,cs2,e,hl,hDD⟩
    · simp only [Den] at hy'
    cases e
    obtain ⟨vs,us,hK,hD2,hxl,hx⟩:=loadE_ok (σ:=σ) hDD h
    obtain ⟨u,hKu,hu,hone⟩:=wrapK_ok hK hD2
    refine ⟨u,_,run h0 h1 (fun W => ?_),hu,hKu⟩
    rw [hw,cellsN_eq] at hxl
    have hget : ∀ j x,us[j]? = some x→(ys ++ [])[n.toNat * s + j]? = some x:=fun j x hj => by simpa using hx j x hj
    cases agg with
    | true =>
      simp only [if_true] at hxl ⊢
      have : ((ys ++ []).toArray.extract (n.toNat * s) (n.toNat * s + s)) = us.toArray:=by
        apply Array.ext'
        simp only [Array.toList_extract,List.extract_eq_take_drop]
        apply List.ext_getElem?
        intro j
        rcases Nat.lt_or_ge j s with hj | hj
        · rw [List.getElem?_take_of_lt (by omega),List.getElem?_drop]
          have:=hget j _ (List.getElem?_eq_getElem (by omega))
          rw [this]; simp [show j < us.length by omega]
        · rw [List.getElem?_eq_none (by simp; omega),List.getElem?_eq_none (by omega)]
      simp [part,run_tAgg ha,run_tSize hs]
      simpa using this
    | false =>
      simp only [Bool.false_eq_true,if_false] at hxl ⊢
      match us,hxl with
      | [z],_ =>
        have:=hget 0 z rfl
        simp only [Nat.add_zero] at this
        simp [part,run_tAgg ha]
        simp at this
        simp [this]
  · split at h <;> try exact h.elim
    split at h <;> try exact h.elim
    rename_i u hu
    obtain ⟨⟨h0,h1⟩,hK⟩:=h
    obtain ⟨z,hz1,hz2⟩:=partV_ok hu hD
    exact ⟨u,z,run h0 h1 hz1,hz2,hK⟩
def eqFs (P : Program) (eq : TypeId→V→V→Option Bool) (xs ys : List V) : List Field→Option Bool
  | [] => some true
  | f :: fs =>
    match f.name == "_" with
    | true => eqFs P eq xs ys fs
    | false => match partV P f.type xs f.offset,partV P f.type ys f.offset with
      | some a,some b => match eq f.type a b,eqFs P eq xs ys fs with
        | some r,some s => some (r && s)
        | _,_ => none
      | _,_ => none
def eqEs (P : Program) (eq : TypeId→V→V→Option Bool) (elem : TypeId) (n : Nat) (xs ys : List V) : Nat→Nat→Option Bool
  | _,0 => some true
  | i,m + 1 => match partV P elem xs (i * n),partV P elem ys (i * n) with
    | some a,some b => match eq elem a b,eqEs P eq elem n xs ys (i + 1) m with
      | some r,some s => some (r && s)
      | _,_ => none
    | _,_ => none
def delit : V→V
  | .lit k n => .int k n
  | v => v
theorem delit_den {σ : Sg} {E : EH} {v : V} {x : Value} (h : Den σ E v x) : Den σ E (delit v) x:=by
  cases v <;> simp only [delit] <;> first | exact h | simpa [Den] using h
def boolOf : V→Option Bool
  | .sb b => some b
  | .tt => some true
  | .ff => some false
  | _ => none
def eqT (P : Program) : Nat→TypeId→V→V→Option Bool
  | 0,_,_,_ => none
  | d + 1,t,x,y =>
    match P.underlying t with
    | some (.int _) => match delit x,delit y with
      | .int k a,.int k' b => match decide (k = k') with | true => some (a == b) | false => none
      | _,_ => none
    | some .bool => match boolOf x,boolOf y with
      | some a,some b => some (a == b)
      | _,_ => none
    | some .string => match x,y with
      | .any (.string a),.any (.string b) => some (a.toList == b.toList)
      | _,_ => none
    | some (.struct fs) => match P.stoodInHeld t,x,y with
      | false,.agg xs,.agg ys => eqFs P (eqT P d) xs ys fs.toList
      | _,_,_ => none
    | some (.array len elem) => match tSize P elem,x,y with
      | some n,.agg xs,.agg ys => eqEs P (eqT P d) elem n xs ys 0 len
      | _,_,_ => none
    | _ => none
theorem boolOf_den {v : V} {b : Bool} (h : boolOf v = some b) {σ : Sg} {E : EH} {x : Value} (hd : Den σ E v x) : x = .bool b:=by
  cases v <;> simp only [boolOf,Option.some.injEq,reduceCtorEq] at h <;> subst h <;> simpa [Den] using hd
theorem eqFs_ok {P : Program} {eq : TypeId→V→V→Option Bool} {d : Nat} {σ : Sg} {E : EH}
    (heq : ∀ t x y r,eq t x y = some r→∀ a b,Den σ E x a→Den σ E y b→∀ W,(Op.equalIn d t a b).run P W = .ok r W) {xs ys : List V} {as bs : List Value} (hx : DenC σ E xs as) (hy : DenC σ E ys bs) (W : World) :
    ∀ {fs : List Field} {r : Bool},eqFs P eq xs ys fs = some r→(Op.eqFields d as.toArray bs.toArray fs).run P W = .ok r W
  | [],r,h => by simp [eqFs] at h; subst h; simp [Op.eqFields]
  | f :: fs,r,h => by
    simp only [eqFs] at h
    split at h
    · rename_i hn
      have hn' : f.name = "_" := by simpa using hn
      simp only [Op.eqFields,hn']
      simpa using eqFs_ok heq hx hy W h
    · rename_i hn
      have hn' : ¬ f.name = "_" := by simpa using hn
      split at h
      · rename_i a b ha hb
        split at h
        · rename_i r1 s1 h1 h2
          cases h
          obtain ⟨x,hx1,hx2⟩:=partV_ok ha hx
          obtain ⟨y,hy1,hy2⟩:=partV_ok hb hy
          have hr:=heq _ _ _ _ h1 x y hx2 hy2 W
          have ih:=eqFs_ok heq hx hy W h2
          simp only [Op.eqFields,ne_eq,hn',not_false_eq_true,if_true,Sem.run_bind,hx1,hy1,hr,Result.andThen_ok]
          cases r1
          · simp
          · simpa using ih
        · cases h
      · cases h
theorem eqT_ok {P : Program} {σ : Sg} {E : EH} : ∀ (d : Nat) (t : TypeId) (x y : V) (r : Bool),eqT P d t x y = some r→∀ a b,Den σ E x a→Den σ E y b→∀ (m : Nat),d ≤ m→∀ W,(Op.equalIn m t a b).run P W = .ok r W
  | 0,_,_,_,_,h,_,_,_,_,_,_,_ => by simp [eqT] at h
  | d + 1,t,x,y,r,h,a,b,ha,hb,0,hm,W => by omega
  | d + 1,t,x,y,r,h,a,b,ha,hb,m + 1,hm,W => by
    have ih:=eqT_ok (P:=P) (σ:=σ) (E:=E) d
    simp only [eqT] at h
    split at h
    · rename_i k0 ht
      split at h
      · rename_i k p k' q hxe hye
        split at h
        · rename_i hk
          have hk' : k = k':=by simpa using hk
          subst hk'
          cases h
          replace ha:=delit_den ha
          replace hb:=delit_den hb
          rw [hxe] at ha
          rw [hye] at hb
          simp only [Den] at ha hb
          subst ha; subst hb
          exact run_equalIn_int W m t k k0 p q ht
        · cases h
      · cases h
    · rename_i ht
      split at h
      · rename_i p q hp hq
        cases h
        rw [boolOf_den hp ha,boolOf_den hq hb]
        exact run_equalIn_bool' W m t p q ht
      · cases h
    · rename_i ht
      split at h
      · cases h
        simp only [Den] at ha hb
        subst ha; subst hb
        exact run_equalIn_string W m t _ _ ht
      · cases h
    · rename_i fs ht
      split at h
      · rename_i xs ys hst
        simp only [Den] at ha hb
        obtain ⟨as,rfl,hx⟩:=ha
        obtain ⟨bs,rfl,hy⟩:=hb
        have hf : P.fieldsOf t = fs:=by simp [Program.fieldsOf,ht]
        rw [run_equalIn_struct W m t as.toArray bs.toArray (by rw [hf]; exact ht) hst,hf]
        exact eqFs_ok (d:=m) (fun t x y r h a b ha hb W => ih t x y r h a b ha hb m (by omega) W) hx hy W h
      · cases h
    · rename_i len elem ht
      split at h
      · rename_i n xs ys hn
        simp only [Den] at ha hb
        obtain ⟨as,rfl,hx⟩:=ha
        obtain ⟨bs,rfl,hy⟩:=hb
        simp only [Op.equalIn,Sem.run_bind,run_underlying ht,Result.andThen_ok,run_tSize hn]
        rw [Std.Legacy.Range.forIn_eq_forIn_range']
        simp only [Std.Legacy.Range.size,Nat.sub_zero,Nat.add_sub_cancel,Nat.div_one]
        clear ht
        generalize 0 = i at h ⊢
        induction len generalizing i r with
        | zero => simp only [eqEs] at h; cases h; simp
        | succ len ihl =>
          simp only [eqEs] at h
          split at h
          · rename_i p q hp hq
            split at h
            · rename_i r1 s1 h1 h2
              cases h
              obtain ⟨u,hu1,hu2⟩:=partV_ok hp hx
              obtain ⟨v,hv1,hv2⟩:=partV_ok hq hy
              have hr:=ih _ _ _ _ h1 u v hu2 hv2 m (by omega) W
              have:=ihl s1 (i + 1) h2
              simp only [List.range'_succ,List.forIn_cons,Sem.run_bind,hu1,hv1,hr,Result.andThen_ok]
              cases r1
              · simp
              · simpa using this
            · cases h
          · cases h
      · cases h
    · cases h
def cellsL : V→Option (List V)
  | .agg vs => some vs
  | v => match V.one v with | true => some [v] | false => none
theorem cellsL_ok {v : V} {vs : List V} (h : cellsL v = some vs) {σ : Sg} {E : EH} {x : Value} (hd : Den σ E v x) : ∃ xs,x.cells = xs.toArray∧DenC σ E vs xs:=by
  unfold cellsL at h
  split at h
  · cases h
    simp only [Den] at hd
    obtain ⟨xs,rfl,hD⟩:=hd
    exact ⟨xs,rfl,hD⟩
  · split at h
    · rename_i h1
      cases h
      have h2:=one_den h1 hd
      refine ⟨[x],?_,.cons1 hd h2 .nil⟩
      cases x <;> simp_all [Value.cells,Value.oneCell']
    · cases h
def fillV (place : Nat→Option (Nat × Nat)) (l : List V) : List (Nat × V)→Option (List V)
  | [] => some l
  | (i,v) :: rest => match place i,cellsL v with
    | some (off,size),some vs => match Nat.beq (wid vs) size with
      | true => match spliceW l off vs with
        | some l' => fillV place l' rest
        | none => none
      | false => none
    | _,_ => none
theorem splice_cons {α : Type} (c : α) (l : List α) (n : Nat) (vs : List α) : splice (c :: l) (n + 1) vs = c :: splice l n vs:=by
  simp only [splice,List.take_succ_cons,List.cons_append]
  rw [show n + 1 + vs.length = (n + vs.length) + 1 by omega,List.drop_succ_cons]
theorem splice_set {α : Type} : ∀ (l : List α) (n : Nat) (v : α) (vs : List α),n + 1 + vs.length ≤ l.length→splice (l.set n v) (n + 1) vs = splice l n (v :: vs)
  | [],n,v,vs,h => by simp at h
  | c :: l,0,v,vs,h => by
    rw [List.set_cons_zero,splice_cons]
    simp [splice]
  | c :: l,n + 1,v,vs,h => by
    rw [List.set_cons_succ,splice_cons,splice_cons,splice_set l n v vs (by simp at h; omega)]
theorem foldl_zip (off : Nat) : ∀ (vs : List Value) (k : Nat) (cs : Array Value),off + k + vs.length ≤ cs.size →
    ((vs.zipIdx k).foldl (fun cs (c,j) => cs.setIfInBounds (off + j) c) cs).toList = splice cs.toList (off + k) vs
  | [],k,cs,_ => by simp [splice]
  | v :: vs,k,cs,h => by
    simp only [List.length_cons] at h
    simp only [List.zipIdx_cons,List.foldl_cons]
    rw [foldl_zip off vs (k + 1) _ (by simp; omega),Array.toList_setIfInBounds]
    exact splice_set cs.toList (off + k) v vs (by simp; omega)
def DenP (σ : Sg) (E : EH) : List (Nat × V)→List (Nat × Value)→Prop
  | [],xs => xs = []
  | (i,v) :: vs,xs => ∃ x xs',xs = (i,x) :: xs'∧Den σ E v x∧DenP σ E vs xs'
theorem fillV_ok {place : Nat→Option (Nat × Nat)} {σ : Sg} {E : EH} : ∀ {parts : List (Nat × V)} {l r : List V},fillV place l parts = some r→∀ {xs : List Value},DenC σ E l xs→∀ {ps : List (Nat × Value)},DenP σ E parts ps →
    ∃ ys,Instr.fill place xs.toArray ps = some ys.toArray∧DenC σ E r ys
  | [],l,r,h,xs,hd,ps,hp => by
    simp only [fillV] at h; cases h
    simp only [DenP] at hp; subst hp
    exact ⟨xs,rfl,hd⟩
  | (i,v) :: rest,l,r,h,xs,hd,ps,hp => by
    simp only [DenP] at hp
    obtain ⟨x,xs',rfl,hv,hp⟩:=hp
    simp only [fillV] at h
    split at h
    · rename_i off size vs hpl hc
      split at h <;> try (cases h; done)
      rename_i hb1
      split at h <;> try (cases h; done)
      rename_i l' hl'
      obtain ⟨ys,h1,h2⟩:=cellsL_ok hc hv
      have hs:=Nat.eq_of_beq_eq_true hb1
      rw [← h2.len] at hs
      obtain ⟨h5,hle⟩:=spliceW_ok hl' hd h2
      obtain ⟨zs,h3,h4⟩:=fillV_ok h h5 hp
      refine ⟨zs,?_,h4⟩
      simp only [Instr.fill,hpl,h1,List.size_toArray]
      rw [if_neg (by simp; omega)]
      have hz:=foldl_zip off ys 0 xs.toArray (by simpa using hle)
      simp only [Nat.add_zero] at hz
      rw [← h3]
      congr 1
      apply Array.ext'
      rw [← Array.foldl_toList,Array.toList_zipIdx]
      exact hz
    · cases h
def buildV (P : Program) (t : TypeId) (parts : List (Nat × V)) : Option (List V) :=
  match P.info? t,P.underlying t with
  | some it,some (.array _ e) =>
    match it.zero,P.info? e with
    | some z,some ie => match z.cells.toList.all Value.oneCell' with
      | true => fillV (fun i => some (i * ie.size,ie.size)) (z.cells.toList.map cvc1) parts
      | false => none
    | _,_ => none
  | some it,some (.struct fields) =>
    match it.zero,fields.toList.mapM (fun f => (P.info? f.type).map fun i => (f.offset,i.size)),kindsOf P 20 t with
    | some z,some places,some ks => match zeroC ks z.cells.toList with
      | some l => fillV (places.toArray[·]?) l parts
      | none => none
    | _,_,_ => none
  | _,_ => none
theorem buildV_ok {P : Program} {t : TypeId} {parts : List (Nat × V)} {r : List V} (h : buildV P t parts = some r) {σ : Sg} {E : EH} {ps : List (Nat × Value)} (hp : DenP σ E parts ps) :
    ∃ x,(∀ W,(Instr.build t ps.toArray).run P W = .ok x W)∧Den σ E (.agg r) x:=by
  unfold buildV at h
  split at h
  · rename_i it m e hi hu
    split at h <;> try (cases h; done)
    rename_i z ie hz hie
    split at h <;> try (cases h; done)
    rename_i hall
    obtain ⟨ys,h1,h2⟩:=fillV_ok h (denC_cvc1 σ E z.cells.toList hall) hp
    exact ⟨_,fun W => run_build W t ps.toArray ys.toArray (by simp only [Program.built,hi,hu,hz,hie]; simpa using h1),by simp only [Den]; exact ⟨ys,rfl,h2⟩⟩
  · rename_i it fields hi hu
    split at h <;> try (cases h; done)
    rename_i z places ks hz hpl hks
    split at h <;> try (cases h; done)
    rename_i l hl
    obtain ⟨ys,h1,h2⟩:=fillV_ok h (zeroC_ok σ E hl) hp
    exact ⟨_,fun W => run_build W t ps.toArray ys.toArray (by simp only [Program.built,hi,hu,hz,hpl]; simpa using h1),by simp only [Den]; exact ⟨ys,rfl,h2⟩⟩
  · cases h
def partsK (P : Program) (e : TypeId) : Nat→List (Nat × V)→KB→(List (List D)→KB→Prop)→Prop
  | _,[],kb,K => K [] kb
  | k,(i,v) :: rest,kb,K => match Nat.beq i k with
    | true => cellsD P e v kb (fun ds kb' => partsK P e (k + 1) rest kb' (fun es kb'' => K (ds :: es) kb''))
    | false => False
theorem splice_next {α : Type} {l xs ys : List α} {o : Nat} (h : o + xs.length + ys.length ≤ l.length) : splice (splice l o xs) (o + xs.length) ys = splice l o (xs ++ ys):=by
  unfold splice
  have h1 : (l.take o).length = o:=by simp; omega
  have e1 : (l.take o ++ xs ++ l.drop (o + xs.length)).take (o + xs.length) = l.take o ++ xs:=by
    rw [show o + xs.length = (l.take o ++ xs).length by simp [h1],List.take_left]
  rw [e1]
  have e2 : (l.take o ++ xs ++ l.drop (o + xs.length)).drop (o + xs.length + ys.length) = l.drop (o + xs.length + ys.length):=by
    rw [show o + xs.length + ys.length = (l.take o ++ xs).length + ys.length by simp [h1],List.drop_length_add_append,List.drop_drop]
    simp [h1]
  rw [e2,List.length_append,Nat.add_assoc]
  simp
theorem DenP.mono {σ τ : Sg} {E E' : EH} (hE : E.le E') : ∀ {vs : List (Nat × V)} {xs : List (Nat × Value)},DenP σ E vs xs→DenP (σ ++ τ) E' vs xs
  | [],_,h => by simpa only [DenP] using h
  | (i,v) :: vs,_,h => by
    simp only [DenP] at h ⊢
    obtain ⟨x,xs',h0,h1,h2⟩:=h
    exact ⟨x,xs',h0,Den.mono hE h1,h2.mono hE⟩
theorem partsK_ok {P : Program} {e : TypeId} {s : Nat} (hs : tSize P e = some s) : ∀ {parts : List (Nat × V)} {k : Nat} {kb : KB} {K : List (List D)→KB→Prop},partsK P e k parts kb K→∀ {σ : Sg} {E : EH} {W : World},Inv σ E kb W→∀ {ps : List (Nat × Value)},DenP σ E parts ps →
    ∃ E' kb' l ys,Step σ E kb W σ E' kb' W∧wl s l∧l.length = parts.length∧DenD E' l.flatten ys∧K l kb' ∧
      ∀ (cs : Array Value),k * s + ys.length ≤ cs.size→Instr.fill (fun j => some (j * s,s)) cs ps = some (splice cs.toList (k * s) ys).toArray
  | [],k,kb,K,h,σ,E,W,hi,ps,hp => by
    simp only [DenP] at hp; subst hp
    exact ⟨E,kb,[],[],Step.refl hi,wl.nil,rfl,.nil,h,fun cs hc => by simp [Instr.fill,splice]⟩
  | (i,v) :: rest,k,kb,K,h,σ,E,W,hi,ps,hp => by
    simp only [DenP] at hp
    obtain ⟨x,xs',rfl,hv,hp⟩:=hp
    simp only [partsK] at h
    split at h <;> try exact h.elim
    rename_i hb
    have hik:=Nat.eq_of_beq_eq_true hb
    subst hik
    obtain ⟨E1,kb1,ds,xs,s1,hc,hD,h,hn⟩:=cellsD_ok h hi hv
    rw [hs] at hn
    have hn:=Option.some.inj hn
    have hp':=hp.mono (τ:=[]) s1.le
    rw [List.append_nil] at hp'
    obtain ⟨E2,kb2,l,ys,s2,hw,hl,hD2,hK,hf⟩:=partsK_ok hs h s1.inv hp'
    have hdl:=hD.len
    refine ⟨E2,kb2,ds :: l,xs ++ ys,s1.trans s2,fun e he => ?_,by simp [hl],?_,hK,fun cs hcs => ?_⟩
    · rcases List.mem_cons.1 he with rfl | he
      · omega
      · exact hw e he
    · rw [List.flatten_cons]; exact (hD.mono s2.le).append hD2
    · simp only [List.length_append] at hcs
      simp only [Instr.fill,hc,List.size_toArray]
      rw [if_neg (by simp; omega)]
      have hz:=foldl_zip (i * s) xs 0 cs (by omega)
      simp only [Nat.add_zero] at hz
      have ez : (Array.foldl (fun cs x => cs.setIfInBounds (i * s + x.2) x.1) cs (Array.zipIdx xs.toArray)) = (splice cs.toList (i * s) xs).toArray:=by
        apply Array.ext'
        rw [← Array.foldl_toList,Array.toList_zipIdx]
        exact hz
      have hsl : (splice cs.toList (i * s) xs).length = cs.size:=by rw [splice_len (by simp; omega)]; simp
      have hf':=hf (splice cs.toList (i * s) xs).toArray (by rw [List.size_toArray,hsl,Nat.succ_mul]; omega)
      have e1 : (i + 1) * s = i * s + xs.length:=by rw [Nat.succ_mul]; omega
      rw [e1,List.toList_toArray,splice_next (by simp; omega)] at hf'
      rw [← hf']
      congr 1
def buildSliceK (P : Program) (t : TypeId) (len : Nat) (parts : List (Nat × V)) (kb : KB) (K : V→KB→Prop) : Prop :=
  match P.underlying t with
  | some (.slice elem) =>
    match P.info? elem with
    | some i =>
      match i.zero,i.size with
      | some z,s + 1 =>
        match Nat.ble (len * (s + 1)) 16777216,Nat.beq z.cells.size (s + 1),Nat.beq parts.length len with
        | true,true,true => partsK P elem 0 parts kb (fun l kb' => K (.sl kb'.length 0 len) (kb' ++ [.row elem (s + 1) l]))
        | _,_,_ => False
      | _,_ => False
    | none => False
  | _ => False
theorem buildSliceK_ok {P : Program} {t : TypeId} {len : Nat} {parts : List (Nat × V)} {kb : KB} {K : V→KB→Prop} (h : buildSliceK P t len parts kb K) {σ : Sg} {E : EH} {W : World} (hi : Inv σ E kb W) {ps : List (Nat × Value)}
    (hp : DenP σ E parts ps) : ∃ v x σ' E' kb' W',(Instr.buildSlice t len ps.toArray).run P W = .ok x W'∧Step σ E kb W σ' E' kb' W'∧Den σ' E' v x∧K v kb':=by
  unfold buildSliceK at h
  split at h <;> try exact h.elim
  rename_i elem ht
  split at h <;> try exact h.elim
  rename_i i hinf
  split at h <;> try exact h.elim
  rename_i z s hz hs
  split at h <;> try exact h.elim
  rename_i hb1 hb2 hb3
  have hle:=Nat.le_of_ble_eq_true hb1
  have hcl:=Nat.eq_of_beq_eq_true hb2
  have hpl:=Nat.eq_of_beq_eq_true hb3
  have hts : tSize P elem = some (s + 1):=by simp [tSize,hinf,hs]
  obtain ⟨E1,kb1,l,ys,s1,hw,hl,hD,hK,hf⟩:=partsK_ok hts h hi hp
  have hyl : ys.length = len * (s + 1):=by rw [hD.len,flat_len hw,hl,hpl]
  have hl1 : len ≤ len * (s + 1):=Nat.le_mul_of_pos_right _ (Nat.succ_pos s)
  have hrun : (Instr.buildSlice t len ps.toArray).run P W = .ok (.slice (some ⟨W.heap.size,0,none⟩) len len) (W.alloc (.cells ys.toArray elem)):=by
    have hfill : Instr.fill (fun j => some (j * (s + 1),s + 1)) ((Array.range (len * (s + 1))).map (z.cells[· % z.cells.size]!)) ps = some ys.toArray:=by
      rw [hf _ (by simp; omega)]
      simp only [Nat.zero_mul,splice,List.take_zero,List.nil_append]
      rw [List.drop_eq_nil_of_le (by simp; omega),List.append_nil]
    by_cases hl0 : len * (s + 1) = 0
    · have e0 : ((Array.range (len * (s + 1))).map (fun (x : Nat) => (#[] : Array Value)[x % (#[] : Array Value).size]!)) = ((Array.range (len * (s + 1))).map (z.cells[· % z.cells.size]!)):=by rw [hl0]; apply Array.ext'; simp
      have hn : ¬ len * (s + 1) > 2 ^ 24:=by omega
      unfold Instr.buildSlice
      rw [Sem.run_bind,run_underlying ht,Result.andThen_ok]
      simp only []
      rw [Sem.run_bind,show (Go.sizeOf elem).run P W = .ok (s + 1) W by simp [Go.sizeOf,typeInfo,hinf,hs],Result.andThen_ok]
      simp only [hn,if_false]
      rw [if_pos hl0,Sem.run_bind,Sem.run_pure,Result.andThen_ok]
      simp only [e0,hfill]
      simp [newRow]
    · have hn : ¬ len * (s + 1) > 2 ^ 24:=by omega
      unfold Instr.buildSlice
      rw [Sem.run_bind,run_underlying ht,Result.andThen_ok]
      simp only []
      rw [Sem.run_bind,show (Go.sizeOf elem).run P W = .ok (s + 1) W by simp [Go.sizeOf,typeInfo,hinf,hs],Result.andThen_ok]
      simp only [hn,if_false]
      rw [if_neg hl0,Sem.run_bind,show (zeroValue elem).run P W = .ok z W by simp [zeroValue,typeInfo,hinf,hz],Result.andThen_ok,Sem.run_bind,Sem.run_pure,Result.andThen_ok]
      simp only [hfill]
      simp [newRow]
  have hst : Step σ E1 kb1 W (σ ++ [⟨W.heap.size,len,s + 1⟩]) E1 (kb1 ++ [.row elem (s + 1) l]) (W.alloc (.cells ys.toArray elem)) :=
    alloc_row s1.inv hw (by omega) (by simp only [maxLen]; omega) (by simpa using hyl) (by rw [List.take_of_length_le (by rw [hl,hpl]; simp; omega)]; exact hD)
  exact ⟨_,_,_,_,_,_,hrun,s1.trans hst,by simp only [Den]; exact ⟨⟨W.heap.size,len,s + 1⟩,_,by rw [← s1.inv.len]; simp,rfl,by simp,by simp,by simp⟩,hK⟩
end Vc
