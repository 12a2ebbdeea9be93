import Derived.Test.YtfcjngcnifdmnaaQb
import Derived.Deep.LoopGhost
import Derived.Scope
import Derived.RangeFuncIn
import Derived.RangeFuncSeq
import Derived.OrdersIn
import Derived.TacticsIn
set_option linter.unusedSimpArgs false
set_option linter.unusedVariables false
namespace Vc
open Go
abbrev CallT:=FuncId→List V→KB→(V→KB→Prop)→Prop
def CallOk (P : Program) (X : CallT) : Prop:=∀ f args kb K,X f args kb K→∀ σ E W xs,Inv σ E kb W→DenL σ E args xs →
  Calls P f xs.toArray W (fun e W' => ∃ v r σ' E' kb',e = .returned v∧Step σ E kb W σ' E' kb' W'∧Den σ' E' r v∧K r kb')
def hasBody (P : Program) (f : FuncId) : Bool :=
  match P.funcs[f]? with
  | some fn => fn.body.isSome && !(fn.name == "runtime.NumGoroutine")
  | none => false
def effK (P : Program) (X : CallT) (o : Oper) (fr : Fr) (kb : KB) (K : V→KB→Prop) : Prop :=
  match o.op with
  | .load t x => match ev fr x with | some ad => loadK P t ad kb (fun v => K v kb) | none => False
  | .store t x y => match ev fr x,evR fr y with | some ad,some v => storeK P t ad v kb (fun kb' => K (.any undef) kb') | _,_ => False
  | .alloc t => allocK P t kb K
  | .lookup t x k ok => match ev fr x,ev fr k with | some m,some u => lookupK P t m u ok kb (fun v => K v kb) | _,_ => False
  | .mapUpdate t x k y => match ev fr x,ev fr k,evR fr y with | some m,some u,some v => updateK P t m u v kb (fun kb' => K (.any undef) kb') | _,_,_ => False
  | .insert t x k y => match ev fr x,ev fr k,evR fr y with | some m,some u,some v => updateK P t m u v kb (fun kb' => K (.any undef) kb') | _,_,_ => False
  | .makeMap t none => makeMapK P t kb K
  | .makeChan t x => match ev fr x with | some n => makeChanK P t n kb K | none => False
  | .makeSlice t l c => match ev fr l,ev fr c with | some n,some m => makeSliceK P t n m kb K | _,_ => False
  | .box t x => match evR fr x with | some v => boxK P t v kb K | none => False
  | .buildSlice t len parts => match evP fr parts.toList with | some ps => buildSliceK P t len ps kb K | none => False
  | .convert src dst x => match ev fr x with | some v => strK P src dst v kb K | none => False
  | .call c => match c.callee with
    | .builtin .append => match c.args.toList,c.argTypes.toList with
      | [x,y],[t,u] => match ev fr x,ev fr y with | some d,some s => appendK P t u d s kb K | _,_ => False
      | _,_ => False
    | .builtin .copy => match c.args.toList,c.argTypes.toList with
      | [x,y],[t,u] => match ev fr x,ev fr y with | some d,some s => copyK P t d s kb K | _,_ => False
      | _,_ => False
    | .builtin .delete => match c.args.toList,c.argTypes.toList with
      | [x,y],[t,u] => match ev fr x,ev fr y with | some d,some s => deleteK P t d s kb (fun kb' => K (.tup []) kb') | _,_ => False
      | _,_ => False
    | .builtin .clear => match c.args.toList,c.argTypes.toList with
      | [x],[t] => match ev fr x with | some d => clearK P t d kb (fun kb' => K (.tup []) kb') | _ => False
      | _,_ => False
    | .builtin .len => match c.args.toList,c.argTypes.toList with
      | [x],[t] => match ev fr x with | some d => lenMC P t d kb (fun v => K v kb) | _ => False
      | _,_ => False
    | .value f => match ev fr f,evs fr c.args.toList with
      | some (.fn g cap),some vs => match hasBody P g with | true => X g (vs ++ cap) kb K | false => False
      | _,_ => False
    | _ => False
  | _ => False
def opK (P : Program) (X : CallT) (o : Oper) (fr : Fr) (kb : KB) (K : V→KB→Prop) : Prop :=
  match isPure P o.op with
  | true => pureK P o fr kb (fun v => K v kb)
  | false => effK P X o fr kb K
def After (σ : Sg) (E : EH) (kb : KB) (W : World) (a : Act) (o : Oper) (K : V→KB→Prop) (a' : Act) (W' : World) : Prop :=
  ∃ σ' E' kb' v x,Step σ E kb W σ' E' kb' W'∧Den σ' E' v x∧a' = a.put o.dst x∧K v kb'
theorem wp_of_run {P : Program} {o : Oper} {a : Act} {W : World} {next : Act→World→Prop} {Q : Exit→Act→World→Prop} {x : Value} {W' : World} (h : (execOp a.eval o).run P W = .ok (.value x) W') (k : next (a.put o.dst x) W') : o.wp P a W next Q:=by
  unfold Oper.wp; rw [h]; exact k
theorem opK_ok {P : Program} {X : CallT} (hX : CallOk P X) {o : Oper} {fr : Fr} {kb : KB} {K : V→KB→Prop} (h : opK P X o fr kb K) {σ : Sg} {E : EH} {n : Nat} {a : Act} (hf : FrOk σ E fr n a) {W : World} (hi : Inv σ E kb W) (Q : Exit→Act→World→Prop) :
    o.wp P a W (After σ E kb W a o K) Q:=by
  unfold opK at h
  split at h
  · obtain ⟨v,x,h1,h2,h3⟩:=pureK_ok h hf hi
    exact wp_of_run (h1 W) ⟨σ,E,kb,v,x,Step.refl hi,h2,rfl,h3⟩
  · rename_i hpure
    clear hpure
    obtain ⟨dst,op,ty,pos,after,guard⟩:=o
    unfold effK at h
    simp only at h
    split at h
    · split at h
      · rename_i t x ad had
        obtain ⟨v,y,h1,h2,h3⟩:=loadK_ok h hi (ev_ok hf had)
        exact wp_of_run (by simp [execOp,h1]) ⟨σ,E,kb,v,y,Step.refl hi,h2,rfl,h3⟩
      · exact h.elim
    · split at h
      · rename_i t x y x1 x2 ad v had hv
        obtain ⟨E',kb',W',h1,h2,h3⟩:=storeK_ok h hi (ev_ok hf had) (evR_ok hf hv)
        unfold Oper.wp
        rw [show (execOp a.eval { dst,op:=.store t x y,type:=ty,pos,after,guard }).run P W = .ok .skip W' by simp [execOp,h1]]
        exact ⟨σ,E',kb',.any undef,undef,h2,by simp [Den],rfl,h3⟩
      · exact h.elim
    · rename_i t
      obtain ⟨v,x,σ',kb',W',h1,h2,h3,h4,_⟩:=allocK_ok h hi
      exact wp_of_run (by simp [execOp,h1]) ⟨σ',E,kb',v,x,h2,h3,rfl,h4⟩
    · split at h
      · rename_i t x k ok x1 x2 m u hm hu
        obtain ⟨v,y,h1,h2,h3⟩:=lookupK_ok h hi (ev_ok hf hm) (ev_ok hf hu)
        exact wp_of_run (by simp [execOp,h1]) ⟨σ,E,kb,v,y,Step.refl hi,h2,rfl,h3⟩
      · exact h.elim
    · split at h
      · rename_i t x k y x1 x2 x3 m u v hm hu hv
        obtain ⟨E',kb',W',h1,h2,h3⟩:=updateK_ok h hi (ev_ok hf hm) (ev_ok hf hu) (evR_ok hf hv)
        unfold Oper.wp
        rw [show (execOp a.eval { dst,op:=.mapUpdate t x k y,type:=ty,pos,after,guard }).run P W = .ok .skip W' by simp [execOp,h1]]
        exact ⟨σ,E',kb',.any undef,undef,h2,by simp [Den],rfl,h3⟩
      · exact h.elim
    · split at h
      · rename_i t x k y x1 x2 x3 m u v hm hu hv
        obtain ⟨E',kb',W',h1,h2,h3⟩:=updateK_ok h hi (ev_ok hf hm) (ev_ok hf hu) (evR_ok hf hv)
        unfold Oper.wp
        rw [show (execOp a.eval { dst,op:=.insert t x k y,type:=ty,pos,after,guard }).run P W = .ok .skip W' by simp [execOp,h1]]
        exact ⟨σ,E',kb',.any undef,undef,h2,by simp [Den],rfl,h3⟩
      · exact h.elim
    · rename_i t
      obtain ⟨v,x,σ',kb',W',h1,h2,h3,h4⟩:=makeMapK_ok h hi
      exact wp_of_run (by simp [execOp,h1]) ⟨σ',E,kb',v,x,h2,h3,rfl,h4⟩
    · split at h
      · rename_i t x0 m hm
        obtain ⟨v,x,σ',kb',W',h1,h2,h3,h4⟩:=makeChanK_ok h hi (ev_ok hf hm)
        exact wp_of_run (by simp [execOp,h1]) ⟨σ',E,kb',v,x,h2,h3,rfl,h4⟩
      · exact h.elim
    · split at h
      · rename_i t l c x1 x2 n m hn hm
        obtain ⟨v,x,σ',kb',W',h1,h2,h3,h4⟩:=makeSliceK_ok h hi (ev_ok hf hn) (ev_ok hf hm)
        exact wp_of_run (by simp [execOp,h1]) ⟨σ',E,kb',v,x,h2,h3,rfl,h4⟩
      · exact h.elim
    · split at h
      · rename_i t x v hv
        obtain ⟨u,y,σ',kb',W',h1,h2,h3,h4⟩:=boxK_ok h hi (evR_ok hf hv)
        exact wp_of_run (by simp [execOp,h1]) ⟨σ',E,kb',u,y,h2,h3,rfl,h4⟩
      · exact h.elim
    · split at h
      · rename_i t len parts x1 ps hps
        obtain ⟨u,y,σ',E',kb',W',h1,h2,h3,h4⟩:=buildSliceK_ok h hi (evP_ok hf hps)
        have e : (parts.toList.map fun x => (x.1,a.eval x.2)).toArray = parts.map fun x => (x.1,a.eval x.2):=by
          apply Array.ext'; simp
        rw [show (parts.toList.map fun (i,x) => (i,a.eval x)) = parts.toList.map (fun x => (x.1,a.eval x.2)) from rfl,e] at h1
        exact wp_of_run (by simp [execOp,h1]) ⟨σ',E',kb',u,y,h2,h3,rfl,h4⟩
      · exact h.elim
    · split at h
      · rename_i src dst' x v hv
        obtain ⟨u,y,E',kb',W',h1,h2,h3,h4⟩:=strK_ok h hi (ev_ok hf hv)
        exact wp_of_run (by simp [execOp,h1]) ⟨σ,E',kb',u,y,h2,h3,rfl,h4⟩
      · exact h.elim
    · rename_i c
      split at h
      · rename_i hcal
        split at h
        · rename_i x y t u hargs hats
          split at h
          · rename_i d s hd hs
            obtain ⟨callee,args,argTypes⟩:=c
            simp only at hcal hargs hats
            subst hcal
            have hargs' : args = #[x,y]:=by apply Array.ext'; simpa using hargs
            have hats' : argTypes = #[t,u]:=by apply Array.ext'; simpa using hats
            subst hargs'; subst hats'
            obtain ⟨v,z,σ',kb',W',h1,h2,h3,h4⟩:=appendK_ok h hi (ev_ok hf hd) (ev_ok hf hs) ty
            exact wp_of_run (by simp [execOp,resolve,invoke,builtin,h1]) ⟨σ',E,kb',v,z,h2,h3,rfl,h4⟩
          · exact h.elim
        · exact h.elim
      · rename_i hcal
        split at h
        · rename_i x y t u hargs hats
          split at h
          · rename_i d s hd hs
            obtain ⟨callee,args,argTypes⟩:=c
            simp only at hcal hargs hats
            subst hcal
            have hargs' : args = #[x,y]:=by apply Array.ext'; simpa using hargs
            have hats' : argTypes = #[t,u]:=by apply Array.ext'; simpa using hats
            subst hargs'; subst hats'
            obtain ⟨v,z,kb',W',h1,h2,h3,h4⟩:=copyK_ok h hi (ev_ok hf hd) (ev_ok hf hs) u ty
            exact wp_of_run (by simp [execOp,resolve,invoke,builtin,h1]) ⟨σ,E,kb',v,z,h2,h3,rfl,h4⟩
          · exact h.elim
        · exact h.elim
      · rename_i hcal
        split at h
        · rename_i x y t u hargs hats
          split at h
          · rename_i d s hd hs
            obtain ⟨callee,args,argTypes⟩:=c
            simp only at hcal hargs hats
            subst hcal
            have hargs' : args = #[x,y]:=by apply Array.ext'; simpa using hargs
            have hats' : argTypes = #[t,u]:=by apply Array.ext'; simpa using hats
            subst hargs'; subst hats'
            obtain ⟨kb',W',h1,h2,h3⟩:=deleteK_ok h hi (ev_ok hf hd) (ev_ok hf hs) u ty
            exact wp_of_run (by simp [execOp,resolve,invoke,builtin,h1]) ⟨σ,E,kb',.tup [],.tuple #[],h2,by simp [Den,DenL],rfl,h3⟩
          · exact h.elim
        · exact h.elim
      · rename_i hcal
        split at h
        · rename_i x t hargs hats
          split at h
          · rename_i d hd
            obtain ⟨callee,args,argTypes⟩:=c
            simp only at hcal hargs hats
            subst hcal
            have hargs' : args = #[x]:=by apply Array.ext'; simpa using hargs
            have hats' : argTypes = #[t]:=by apply Array.ext'; simpa using hats
            subst hargs'; subst hats'
            obtain ⟨kb',W',h1,h2,h3⟩:=clearK_ok h hi (ev_ok hf hd) ty
            exact wp_of_run (by simp [execOp,resolve,invoke,builtin,h1]) ⟨σ,E,kb',.tup [],.tuple #[],h2,by simp [Den,DenL],rfl,h3⟩
          · exact h.elim
        · exact h.elim
      · rename_i hcal
        split at h
        · rename_i x t hargs hats
          split at h
          · rename_i d hd
            obtain ⟨callee,args,argTypes⟩:=c
            simp only at hcal hargs hats
            subst hcal
            have hargs' : args = #[x]:=by apply Array.ext'; simpa using hargs
            have hats' : argTypes = #[t]:=by apply Array.ext'; simpa using hats
            subst hargs'; subst hats'
            obtain ⟨v,z,h1,h2,h3⟩:=lenMC_ok h hi (ev_ok hf hd) ty
            exact wp_of_run (by simp [execOp,resolve,invoke,builtin,h1]) ⟨σ,E,kb,v,z,Step.refl hi,h2,rfl,h3⟩
          · exact h.elim
        · exact h.elim
      · rename_i fo hcal
        split at h
        · rename_i g cap vs hg hvs
          split at h
          · rename_i hb
            obtain ⟨callee,args,argTypes⟩:=c
            simp only at hcal hvs
            subst hcal
            have hfv:=ev_ok hf hg
            simp only [Den] at hfv
            obtain ⟨cs,hfe,hcs⟩:=hfv
            have hD:=evs_ok hf hvs
            have hcall:=hX g _ kb K h σ E W _ hi (hD.append hcs)
            unfold hasBody at hb
            split at hb
            · rename_i fn hfn
              simp only [Bool.and_eq_true,Bool.not_eq_true',beq_eq_false_iff_ne,ne_eq] at hb
              unfold Oper.wp
              have hrun : (execOp a.eval { dst,op:=.call ⟨.value fo,args,argTypes⟩,type:=ty,pos,after,guard }).run P W = .ok (.enter g (args.toList.map a.eval ++ cs).toArray) W:=by
                have e : (args.toList.map a.eval ++ cs).toArray = args.map a.eval ++ cs.toArray:=by apply Array.ext'; simp
                obtain ⟨body,hbody⟩:=Option.isSome_iff_exists.1 hb.1
                rw [e]
                simp [execOp,resolve,Deferred.ofValue,hfe,invoke,callFunc,hfn,hb.2,hbody]
              rw [hrun]
              refine hcall.mono ?_
              rintro e W' ⟨v,r,σ',E',kb',rfl,h1,h2,h3⟩
              exact ⟨σ',E',kb',r,v,h1,h2,rfl,h3⟩
            · cases hb
          · exact h.elim
        · exact h.elim
      · exact h.elim
    · exact h.elim
def guardK (ops : Array Oper) (o : Oper) (fr : Fr) (yes no : Fr→Prop) : Prop :=
  match o.guard with
  | none => yes fr
  | some (j,want) => match (ops[j]?).bind (·.dst) with
    | some d => match look fr d with
      | some .tt => match want with | true => yes fr | false => no fr
      | some .ff => match want with | true => no fr | false => yes fr
      | some (.sb b) => (b = true→match want with | true => yes ((d,.tt) :: fr) | false => no ((d,.tt) :: fr)) ∧
          (b = false→match want with | true => no ((d,.ff) :: fr) | false => yes ((d,.ff) :: fr))
      | some (.any (.tuple _)) => no fr
      | _ => False
    | none => no fr
theorem FrOk.turn {σ : Sg} {E : EH} {fr : Fr} {n : Nat} {a : Act} (h : FrOk σ E fr n a) {d : Nat} {v u : V} (hv : look fr d = some v) (hu : ∀ x,Den σ E v x→Den σ E u x) : FrOk σ E ((d,u) :: fr) n a:=by
  refine ⟨h.size,h.defers,fun t w hw => ?_⟩
  simp only [look] at hw
  split at hw
  · rename_i hb
    have:=Nat.eq_of_beq_eq_true hb
    subst this
    cases hw
    obtain ⟨x,h1,h2⟩:=h.get _ _ hv
    exact ⟨x,h1,hu x h2⟩
  · exact h.get t w hw
theorem guardK_ok {ops : Array Oper} {o : Oper} {fr : Fr} {yes no : Fr→Prop} (h : guardK ops o fr yes no) {σ : Sg} {E : EH} {n : Nat} {a : Act} (hf : FrOk σ E fr n a) :
    ∃ fr',FrOk σ E fr' n a∧((Region.wanted o (yielded ops a.tmps) = true∧yes fr')∨(Region.wanted o (yielded ops a.tmps) = false∧no fr')):=by
  unfold guardK at h
  split at h
  · rename_i hg
    exact ⟨fr,hf,.inl ⟨by simp [Region.wanted,hg],h⟩⟩
  · rename_i j want hg
    split at h
    · rename_i d hd
      have key : ∀ b,a.tmps[d]? = some (.bool b)→Region.wanted o (yielded ops a.tmps) = (b == want):=by
        intro b hb
        simp [Region.wanted,hg,yielded,hd,hb]
      split at h
      · rename_i hl
        obtain ⟨x,h1,h2⟩:=hf.get _ _ hl
        simp only [Den] at h2; subst h2
        cases want
        · exact ⟨fr,hf,.inr ⟨by rw [key _ h1]; rfl,h⟩⟩
        · exact ⟨fr,hf,.inl ⟨by rw [key _ h1]; rfl,h⟩⟩
      · rename_i hl
        obtain ⟨x,h1,h2⟩:=hf.get _ _ hl
        simp only [Den] at h2; subst h2
        cases want
        · exact ⟨fr,hf,.inl ⟨by rw [key _ h1]; rfl,h⟩⟩
        · exact ⟨fr,hf,.inr ⟨by rw [key _ h1]; rfl,h⟩⟩
      · rename_i b hl
        obtain ⟨x,h1,h2⟩:=hf.get _ _ hl
        simp only [Den] at h2; subst h2
        cases b
        · have hf' : FrOk σ E ((d,.ff) :: fr) n a:=hf.turn hl (fun x hx => by simpa [Den] using hx)
          have h':=h.2 rfl
          cases want
          · exact ⟨_,hf',.inl ⟨by rw [key _ h1]; rfl,h'⟩⟩
          · exact ⟨_,hf',.inr ⟨by rw [key _ h1]; rfl,h'⟩⟩
        · have hf' : FrOk σ E ((d,.tt) :: fr) n a:=hf.turn hl (fun x hx => by simpa [Den] using hx)
          have h':=h.1 rfl
          cases want
          · exact ⟨_,hf',.inr ⟨by rw [key _ h1]; rfl,h'⟩⟩
          · exact ⟨_,hf',.inl ⟨by rw [key _ h1]; rfl,h'⟩⟩
      · rename_i vs hl
        obtain ⟨x,h1,h2⟩:=hf.get _ _ hl
        simp only [Den] at h2; subst h2
        exact ⟨fr,hf,.inr ⟨by simp [Region.wanted,hg,yielded,hd,h1],h⟩⟩
      · exact h.elim
    · rename_i hd
      exact ⟨fr,hf,.inr ⟨by simp [Region.wanted,hg,yielded,hd],h⟩⟩
def seqK (P : Program) (X : CallT) (n : Nat) (ops : Array Oper) : List Oper→(Fr→KB→Prop)→Fr→KB→Prop
  | [],K,fr,kb => K fr kb
  | o :: rest,K,fr,kb => guardK ops o fr (fun fr => opK P X o fr kb (fun v kb' => putK n o.dst v fr (fun fr' => seqK P X n ops rest K fr' kb')))
      (fun fr => putK n o.dst (.any undef) fr (fun fr' => seqK P X n ops rest K fr' kb))
structure Cx where
  σ : Sg
  E : EH
  kb : KB
  W : World
def Hat (c : Cx) (n : Nat) (K : Fr→KB→Prop) (a : Act) (W : World) : Prop :=
  ∃ σ E fr kb,Step c.σ c.E c.kb c.W σ E kb W∧FrOk σ E fr n a∧K fr kb
theorem After.hat {c : Cx} {n : Nat} {σ : Sg} {E : EH} {kb : KB} {W : World} (hs : Step c.σ c.E c.kb c.W σ E kb W) {a : Act} {fr : Fr} (hf : FrOk σ E fr n a) {o : Oper} {K : Fr→KB→Prop} {a' : Act} {W' : World}
    (h : After σ E kb W a o (fun v kb' => putK n o.dst v fr (fun fr' => K fr' kb')) a' W') : Hat c n K a' W':=by
  obtain ⟨σ',E',kb',v,x,h1,h2,rfl,h3⟩:=h
  obtain ⟨τ,rfl⟩:=h1.pre
  obtain ⟨fr',h4,h5⟩:=putK_ok h3 (hf.mono h1.le) h2
  exact ⟨_,E',fr',kb',hs.trans h1,h4,h5⟩
theorem seqK_ok {P : Program} {X : CallT} (hX : CallOk P X) {c : Cx} {n : Nat} {ops : Array Oper} {Q : Exit→Act→World→Prop} {K : Fr→KB→Prop} (hQ : ∀ a W,Hat c n K a W→Q .normal a W) :
    ∀ {l : List Oper} {a : Act} {W : World},Hat c n (seqK P X n ops l K) a W→wpList P ops Q l a W
  | [],a,W,h => hQ a W h
  | o :: rest,a,W,h => by
    obtain ⟨σ,E,fr,kb,hs,hf,h⟩:=h
    simp only [seqK] at h
    obtain ⟨fr',hf',h | h⟩:=guardK_ok h hf
    · unfold wpList
      rw [if_pos h.1]
      refine .inl ?_
      exact Oper.wp_mono (fun a' W' ha => seqK_ok hX hQ (ha.hat hs hf')) (opK_ok hX h.2 hf' hs.inv Q)
    · unfold wpList
      rw [if_neg (by simp [h.1])]
      obtain ⟨fr2,h1,h2⟩:=putK_ok h.2 hf' (σ:=σ) (E:=E) (x:=undef) (by simp [Den])
      exact seqK_ok hX hQ ⟨σ,E,fr2,kb,hs,h1,h2⟩
def wpAnyG (P : Program) (ops : Array Oper) (Q : Exit→Act→World→Prop) (G : Array Bool→Nat→World→World→Prop) : Nat→Array Bool→Act→World→Prop
  | 0,listed,a,w => Region.ready .any ops listed = []∧Q .normal a w
  | fuel + 1,listed,a,w =>
    (Region.ready .any ops listed = []→Q .normal a w) ∧
    ∀ i ∈ Region.ready .any ops listed,wpOp P ops Q i (fun a' w' => G listed i w w'∧wpAnyG P ops Q G fuel (listed.setIfInBounds i true) a' w') a w
theorem wpAnyG.any {P : Program} {ops : Array Oper} {Q : Exit→Act→World→Prop} {G : Array Bool→Nat→World→World→Prop} : ∀ {fuel : Nat} {listed : Array Bool} {a : Act} {w : World},wpAnyG P ops Q G fuel listed a w→wpAny P .any ops Q fuel listed a w
  | 0,_,_,_,h => h
  | fuel + 1,_,_,_,h => ⟨h.1,fun i hi => wpOp_mono (fun a' w' h' => h'.2.any) (h.2 i hi)⟩
theorem wpAnyG.weaken {P : Program} {ops : Array Oper} {Q : Exit→Act→World→Prop} {G G' : Array Bool→Nat→World→World→Prop} (hG : ∀ l i w w',G l i w w'→G' l i w w') : ∀ {fuel : Nat} {listed : Array Bool} {a : Act} {w : World},wpAnyG P ops Q G fuel listed a w→wpAnyG P ops Q G' fuel listed a w
  | 0,_,_,_,h => h
  | fuel + 1,_,_,_,h => ⟨h.1,fun i hi => wpOp_mono (fun a' w' h' => ⟨hG _ _ _ _ h'.1,h'.2.weaken hG⟩) (h.2 i hi)⟩
def eagerB (P : Program) (ops : Array Oper) (i : Nat) : Bool :=
  match ops[i]? with
  | some o => isPure P o.op || (match o.op with | .load .. => true | .lookup .. => true | _ => false)
  | none => false
def maskOf (l : List Nat) : Nat:=l.foldr (fun i s => Nat.lor s (2 ^ i)) 0
theorem maskOf_bit : ∀ (l : List Nat) (i : Nat),(maskOf l).testBit i = decide (i ∈ l)
  | [],i => by simp [maskOf]
  | a :: l,i => by
    have ih:=maskOf_bit l i
    simp only [maskOf,List.foldr_cons] at ih ⊢
    show (List.foldr (fun i s => Nat.lor s (2 ^ i)) 0 l ||| 2 ^ a).testBit i = _
    rw [Nat.testBit_or,ih,Nat.testBit_two_pow]
    by_cases h : a = i
    · subst h; simp
    · have h' : ¬ i = a:=fun e => h e.symm
      simp [h,h']
structure OpI where
  am : Nat
  rd : Nat
  wr : Nat
  eag : Bool
  al : Bool
def isAl : Op→Bool
  | .alloc _ => true
  | _ => false
def amL (o : Oper) : List Nat:=(o.after.toList.filter (Region.binds .any)).map (·.on)
def opI (P : Program) (ops : Array Oper) (i : Nat) : OpI :=
  match ops[i]? with
  | some o => ⟨maskOf (amL o),maskOf (o.looksAt ops),match o.dst with | some d => 2 ^ d | none => 0,eagerB P ops i,isAl o.op⟩
  | none => ⟨0,0,0,false,false⟩
def planOf (P : Program) (ops : Array Oper) : Nat→Nat→List OpI
  | _,0 => []
  | i,n + 1 => opI P ops i :: planOf P ops (i + 1) n
def orAll : List OpI→Nat→Nat→Nat→Nat
  | [],_,_,acc => acc
  | o :: r,k,m,acc => match Nat.testBit m k with
    | true => orAll r (k + 1) m (Nat.lor acc o.am)
    | false => orAll r (k + 1) m acc
def cloM (plan : List OpI) : Nat→Nat→Nat
  | 0,m => m
  | f + 1,m => cloM plan f (orAll plan 0 m m)
def direct (ops : Array Oper) (j i : Nat) : Bool :=
  match ops[j]? with
  | some o => o.after.any fun e => Region.binds .any e && e.on == i
  | none => false
theorem am_direct {P : Program} {ops : Array Oper} {j i : Nat} : (opI P ops j).am.testBit i = direct ops j i:=by
  unfold opI direct
  split
  · rename_i o ho
    rw [maskOf_bit,Bool.eq_iff_iff,decide_eq_true_eq,Array.any_eq_true']
    simp only [amL,List.mem_map,List.mem_filter,Array.mem_toList_iff,Bool.and_eq_true,beq_iff_eq]
    constructor
    · rintro ⟨e,⟨h1,h2⟩,h3⟩; exact ⟨e,h1,h2,h3⟩
    · rintro ⟨e,h1,h2,h3⟩; exact ⟨e,⟨h1,h2⟩,h3⟩
  · simp
def waits (P : Program) (ops : Array Oper) (j i : Nat) : Bool:=Nat.testBit (cloM (planOf P ops 0 ops.size) 12 (opI P ops j).am) i
theorem planOf_at {P : Program} {ops : Array Oper} : ∀ {n k q : Nat} {o : OpI},(planOf P ops k n)[q]? = some o→o = opI P ops (k + q)
  | 0,k,q,o,h => by simp [planOf] at h
  | n + 1,k,0,o,h => by simp [planOf] at h; simpa using h.symm
  | n + 1,k,q + 1,o,h => by
    have:=planOf_at (n:=n) (k:=k + 1) (q:=q) (o:=o) (by simpa [planOf] using h)
    rw [this]; congr 1; omega
theorem orAll_sub {S : Nat→Prop} : ∀ {l : List OpI} {k m acc : Nat},(∀ i,acc.testBit i = true→S i)→(∀ q o,l[q]? = some o→m.testBit (k + q) = true→∀ i,o.am.testBit i = true→S i)→∀ i,(orAll l k m acc).testBit i = true→S i
  | [],k,m,acc,h1,h2,i,hi => h1 i (by simpa [orAll] using hi)
  | o :: r,k,m,acc,h1,h2,i,hi => by
    have hr : ∀ q o',r[q]? = some o'→m.testBit (k + 1 + q) = true→∀ i,o'.am.testBit i = true→S i:=fun q o' hq hm => h2 (q + 1) o' (by simpa using hq) (by rw [show k + (q + 1) = k + 1 + q by omega]; exact hm)
    simp only [orAll] at hi
    split at hi
    · rename_i hm
      refine orAll_sub (acc:=Nat.lor acc o.am) (fun i hi => ?_) hr i hi
      have hi' : (acc ||| o.am).testBit i = true:=hi
      rw [Nat.testBit_or,Bool.or_eq_true] at hi'
      rcases hi' with hi' | hi'
      · exact h1 i hi'
      · exact h2 0 o rfl hm i hi'
    · exact orAll_sub h1 hr i hi
theorem cloM_sub {S : Nat→Prop} {plan : List OpI} (hc : ∀ q o,plan[q]? = some o→S q→∀ i,o.am.testBit i = true→S i) : ∀ {f m : Nat},(∀ i,m.testBit i = true→S i)→∀ i,(cloM plan f m).testBit i = true→S i
  | 0,m,h,i,hi => h i (by simpa [cloM] using hi)
  | f + 1,m,h,i,hi => cloM_sub hc (f:=f) (m:=orAll plan 0 m m) (orAll_sub h (fun q o hq hm => hc q o hq (h q (by simpa using hm)))) i (by simpa [cloM] using hi)
theorem orAll_nil {plan : List OpI} : ∀ {k acc : Nat},orAll plan k 0 acc = acc:=by
  induction plan with
  | nil => intro k acc; rfl
  | cons o r ih => intro k acc; simp [orAll,ih]
theorem cloM_zero {plan : List OpI} : ∀ {f : Nat},cloM plan f 0 = 0
  | 0 => rfl
  | f + 1 => by simp only [cloM,orAll_nil]; exact cloM_zero
def Closed (ops : Array Oper) (listed : Array Bool) : Prop:=∀ k i,listed.getD k false = true→direct ops k i = true→listed.getD i false = true
theorem ready_listed {ops : Array Oper} {listed : Array Bool} {j : Nat} (hj : j ∈ Region.ready .any ops listed) : ∀ i,direct ops j i = true→listed.getD i false = true:=by
  obtain ⟨_,o,ho,hall⟩:=mem_ready.1 hj
  intro i h
  unfold direct at h
  rw [ho] at h
  obtain ⟨e,he,hb⟩:=Array.any_eq_true'.1 h
  simp only [Bool.and_eq_true,beq_iff_eq] at hb
  rw [← hb.2]
  exact hall e he hb.1
theorem ready_not {ops : Array Oper} {listed : Array Bool} {j : Nat} (hj : j ∈ Region.ready .any ops listed) : listed.getD j false = false:=by
  have h0:=(mem_ready.1 hj).1
  rcases Nat.lt_or_ge j listed.size with h' | h'
  · simp [h'] at h0 ⊢; exact h0
  · simp [Array.getElem?_eq_none h']
theorem waits_listed {P : Program} {ops : Array Oper} {listed : Array Bool} (hc : Closed ops listed) {j : Nat} (hj : ∀ i,direct ops j i = true→listed.getD i false = true) {i : Nat} (h : waits P ops j i = true) : listed.getD i false = true :=
  cloM_sub (S:=fun i => listed.getD i false = true) (fun q o hq hS i hi => by
    have:=planOf_at hq
    rw [this,am_direct,Nat.zero_add] at hi
    exact hc q i hS hi) (fun i hi => hj i (by rw [am_direct] at hi; exact hi)) i h
theorem Closed.empty {ops : Array Oper} {n : Nat} : Closed ops (Array.replicate n false):=fun k i h => by
  simp only [Array.getD_eq_getD_getElem?,Array.getElem?_replicate] at h
  split at h <;> simp at h
theorem Closed.set {ops : Array Oper} {listed : Array Bool} (hc : Closed ops listed) {j : Nat} (hj : j ∈ Region.ready .any ops listed) : Closed ops (listed.setIfInBounds j true):=by
  have up : ∀ i,listed.getD i false = true→(listed.setIfInBounds j true).getD i false = true:=fun i hi => by
    by_cases hji : j = i
    · subst hji; rw [ready_not hj] at hi; cases hi
    · rw [getD_set_ne false hji]; exact hi
  intro k i hk hd
  by_cases hjk : j = k
  · subst hjk; exact up i (ready_listed hj i hd)
  · rw [getD_set_ne false hjk] at hk
    exact up i (hc k i hk hd)
theorem not_waits {P : Program} {ops : Array Oper} {listed : Array Bool} (hc : Closed ops listed) {i j : Nat} (hj : j ∈ Region.ready .any ops listed) (hi : i ∈ Region.ready .any ops listed) : waits P ops j i = false:=by
  rw [Bool.eq_false_iff]
  intro h
  have:=waits_listed hc (ready_listed hj) h
  rw [ready_not hi] at this; cases this
def noWaiter (P : Program) (ops : Array Oper) (listed : Array Bool) (i : Nat) : Bool:=(List.range ops.size).all fun k => !(waits P ops k i) || (eagerB P ops k || !(listed.getD k false))
theorem waits_lt {P : Program} {ops : Array Oper} {k i : Nat} (h : waits P ops k i = true) : k < ops.size:=by
  rcases Nat.lt_or_ge k ops.size with h' | h'
  · exact h'
  · unfold waits opI at h
    rw [Array.getElem?_eq_none h'] at h
    simp only [cloM_zero] at h
    simp at h
theorem noWaiter_spec {P : Program} {ops : Array Oper} {listed : Array Bool} {i : Nat} : noWaiter P ops listed i = true ↔ ∀ k,waits P ops k i = true→eagerB P ops k = false→listed.getD k false = false:=by
  unfold noWaiter
  simp only [List.all_eq_true,List.mem_range,Bool.or_eq_true,Bool.not_eq_true']
  constructor
  · intro h k hk he
    rcases h k (waits_lt hk) with h1 | h1 | h1
    · rw [hk] at h1; cases h1
    · rw [he] at h1; cases h1
    · exact h1
  · intro h k _
    cases hk : waits P ops k i
    · exact .inl rfl
    · cases he : eagerB P ops k
      · exact .inr (.inr (h k hk he))
      · exact .inr (.inl rfl)
theorem getD_set_false {listed : Array Bool} {j k : Nat} (h : (listed.setIfInBounds j true).getD k false = false) : listed.getD k false = false:=by
  by_cases hjk : j = k
  · subst hjk
    rcases Nat.lt_or_ge j listed.size with h' | h'
    · simp [h'] at h
    · simp [Array.getElem?_eq_none h']
  · rw [getD_set_ne false hjk] at h; exact h
theorem noWaiter_set {P : Program} {ops : Array Oper} {listed : Array Bool} {i j : Nat} (h : noWaiter P ops listed i = true) (hw : waits P ops j i = false∨eagerB P ops j = true) : noWaiter P ops (listed.setIfInBounds j true) i = true:=by
  rw [noWaiter_spec] at h ⊢
  intro k hk he
  have hjk : j ≠ k:=fun e => by
    subst e
    rcases hw with hw | hw
    · rw [hk] at hw; cases hw
    · rw [he] at hw; cases hw
  rw [getD_set_ne false hjk]
  exact h k hk he
theorem noWaiter_unset {P : Program} {ops : Array Oper} {listed : Array Bool} {i j : Nat} (h : noWaiter P ops (listed.setIfInBounds j true) i = true) : noWaiter P ops listed i = true:=by
  rw [noWaiter_spec] at h ⊢
  exact fun k hk he => getD_set_false (h k hk he)
theorem noWaiter_waits {P : Program} {ops : Array Oper} {listed : Array Bool} {i j : Nat} (hj : j < listed.size) (he : eagerB P ops j = false) (h : noWaiter P ops (listed.setIfInBounds j true) i = true) : waits P ops j i = false:=by
  rw [noWaiter_spec] at h
  cases hw : waits P ops j i
  · rfl
  · have:=h j hw he
    simp [hj] at this
def YC (P : Program) (ops : Array Oper) (C : World→Prop) (o : Oper) (v : Value) (a : Act) : Prop :=
  (Region.wanted o (yielded ops a.tmps) = true∧∀ w,C w→(execOp a.eval o).run P w = .ok (.value v) w) ∨
  (Region.wanted o (yielded ops a.tmps) = false∧v = undef)
theorem YC.of_same {P : Program} {ops : Array Oper} {C : World→Prop} {o : Oper} {v : Value} {a a' : Act} (hy : YC P ops C o v a) (he : execOp a'.eval o = execOp a.eval o)
    (hw : Region.wanted o (yielded ops a'.tmps) = Region.wanted o (yielded ops a.tmps)) : YC P ops C o v a':=by
  unfold YC at *
  rw [he,hw]
  exact hy
theorem YC.wpOp {P : Program} {ops : Array Oper} {Q : Exit→Act→World→Prop} {C : World→Prop} {i : Nat} {o : Oper} {v : Value} {a : Act} (hi : ops[i]? = some o) (hy : YC P ops C o v a)
    {K : Act→World→Prop} {w : World} (hC : C w) (h : K (a.put o.dst v) w) : wpOp P ops Q i K a w:=by
  unfold Go.wpOp
  simp only [hi]
  rcases hy with ⟨hw,hv⟩ | ⟨hw,rfl⟩
  · simp only [hw,if_true,Oper.wp,hv w hC,Oper.upon]; exact .inl h
  · simp only [hw,Bool.false_eq_true,if_false]; exact h
theorem wpOp_putC {P : Program} {ops : Array Oper} {Q : Exit→Act→World→Prop} {C : World→Prop} {j : Nat} {oi oj : Oper} {v : Value} (hj : ops[j]? = some oj) (hap : oi.apart ops oj = true)
    (hsi : ∀ cs b,oi.op ≠ .select cs b) (hsj : ∀ cs b,oj.op ≠ .select cs b)
    (hQ : ∀ c a w,Q (.panic c) (a.put oi.dst v) w→Q (.panic c) a w) {K : Act→World→Prop} {a : Act} {w : World}
    (hy : YC P ops C oi v a) (h : wpOp P ops Q j K (a.put oi.dst v) w) :
    wpOp P ops Q j (fun a' w' => YC P ops C oi v a'∧K (a'.put oi.dst v) w') a w:=by
  obtain ⟨h1,h2,h3⟩:=Oper.apart_spec hap
  have keep : ∀ (a : Act),YC P ops C oi v a→∀ u,YC P ops C oi v (a.put oj.dst u):=fun a hy u =>
    hy.of_same (execOp_put oi hsi a oj.dst u h3) (wanted_put oi a oj.dst u h3)
  have keepD : ∀ d,YC P ops C oi v { a with defers:=d :: a.defers }:=fun d => hy.of_same rfl rfl
  unfold wpOp at *
  simp only [hj] at *
  rw [wanted_put oj a oi.dst v h1] at h
  split
  · rename_i hw
    simp only [hw,if_true] at h
    rcases h with h | ⟨hasks,hlets⟩
    case inr => exact .inr ⟨by unfold Oper.asks at *; rw [execOp_put oj hsj a oi.dst v h1] at hasks; exact hasks,hlets⟩
    refine .inl ?_
    unfold Oper.wp at *
    rw [execOp_put oj hsj a oi.dst v h1] at h
    generalize (execOp a.eval oj).run P w = r at *
    cases r with
    | ok n w' =>
      cases n <;> simp only [Oper.upon] at h ⊢
      case value u => exact ⟨keep a hy u,by rw [← Act.put_comm a v u h2]; exact h⟩
      case skip => exact ⟨keep a hy _,by rw [← Act.put_comm a v undef h2]; exact h⟩
      case defer d =>
        refine ⟨keep _ (keepD d) _,?_⟩
        rw [← Act.put_comm _ v undef h2,← Act.put_defers]
        exact h
      case enter f args =>
        refine Calls.mono h fun e w'' he => ?_
        cases e with
        | returned u => exact ⟨keep a hy u,by rw [← Act.put_comm a v u h2]; exact he⟩
        | panicked c => exact hQ _ _ _ he
        | outgrown => exact he
      case row row args => exact Rows.mono h fun u w'' he => ⟨keep a hy u,by rw [← Act.put_comm a v u h2]; exact he⟩
    | halt x w' =>
      cases x <;> simp only [Oper.upon] at h ⊢
      case panic u => exact hQ _ _ _ h
  · rename_i hw
    simp only [hw] at h
    exact ⟨keep a hy _,by rw [← Act.put_comm a v undef h2]; exact h⟩
theorem firstG {P : Program} {ops : Array Oper} {Q : Exit→Act→World→Prop} {G : Array Bool→Nat→World→World→Prop} {C : World→Prop} {i : Nat} {oi : Oper} {v : Value} (hi : ops[i]? = some oi)
    (hsel : ∀ (j : Nat) (o : Oper) cs b,ops[j]? = some o→o.op ≠ .select cs b) (hQ : ∀ c a w,Q (.panic c) (a.put oi.dst v) w→Q (.panic c) a w)
    (hG : ∀ l j w w',noWaiter P ops l i = true→waits P ops j i = false→G l j w w'→C w→C w') (hrefl : ∀ l w,G l i w w)
    (hset : ∀ l j w w',j ≠ i→G (l.setIfInBounds i true) j w w'→G l j w w') :
    ∀ (fuel : Nat) (listed : Array Bool) (a : Act) (w : World),
      (∀ j oj,ops[j]? = some oj→j ≠ i→listed.getD j true = false→(∀ e ∈ oj.after,Region.binds .any e = true→e.on ≠ i)→oi.apart ops oj = true) →
      Closed ops listed→i ∈ Region.ready .any ops listed→YC P ops C oi v a→C w→noWaiter P ops listed i = true→waits P ops i i = false →
      wpAnyG P ops Q G fuel (listed.setIfInBounds i true) (a.put oi.dst v) w→wpAnyG P ops Q G (fuel + 1) listed a w:=by
  intro fuel
  induction fuel with
  | zero =>
    intro listed a w _ hcl hr hy hC hnw hii H
    refine ⟨fun h => (by rw [h] at hr; cases hr),fun j hj => ?_⟩
    by_cases hji : j = i
    · subst hji; exact hy.wpOp hi hC ⟨hrefl _ w,H⟩
    · have:=ready_mono hj hji
      rw [H.1] at this
      cases this
  | succ fuel ih =>
    intro listed a w hfree hcl hr hy hC hnw hii H
    refine ⟨fun h => (by rw [h] at hr; cases hr),fun j hj => ?_⟩
    by_cases hji : j = i
    · subst hji; exact hy.wpOp hi hC ⟨hrefl _ w,H⟩
    · have h1:=H.2 j (ready_mono hj hji)
      obtain ⟨hjun,oj,hoj,hall⟩:=mem_ready.1 hj
      have hnot : ∀ e ∈ oj.after,Region.binds .any e = true→e.on ≠ i:=fun e he hb heq => by
        have h1:=hall e he hb
        have h0:=(mem_ready.1 hr).1
        rw [heq] at h1
        rcases Nat.lt_or_ge i listed.size with h' | h'
        · simp [h'] at h0 h1; rw [h0] at h1; cases h1
        · simp [Array.getElem?_eq_none h'] at h1
      have hw:=not_waits (P:=P) hcl hj hr
      have h2:=wpOp_putC hoj (hfree j oj hoj hji hjun hnot) (fun cs b => hsel i oi cs b hi) (fun cs b => hsel j oj cs b hoj) hQ hy h1
      have hfree' : ∀ k ok,ops[k]? = some ok→k ≠ i→(listed.setIfInBounds j true).getD k true = false →
          (∀ e ∈ ok.after,Region.binds .any e = true→e.on ≠ i)→oi.apart ops ok = true:=fun k ok hk hki hun hno => by
        refine hfree k ok hk hki ?_ hno
        by_cases hjk : j = k
        · subst hjk; exact hjun
        · rw [getD_set_ne true hjk] at hun; exact hun
      refine wpOp_mono (fun a' w' h3 => ⟨hset _ _ _ _ hji h3.2.1,ih (listed.setIfInBounds j true) a' w' hfree' (hcl.set hj) (ready_mono hr (Ne.symm hji)) h3.1 (hG _ j w w' (noWaiter_set hnw (.inl hii)) hw h3.2.1 hC) (noWaiter_set hnw (.inl hw)) hii ?_⟩) h2
      rw [Array.setIfInBounds_comm _ _ hji]
      exact h3.2.2
inductive Rd where
  | load (t : TypeId)
  | look (t : TypeId) (ok : Bool)
def rdOf (o : Oper) : Option (Rd × List Operand) :=
  match o.op with
  | .load t x => some (.load t,[x])
  | .lookup t x k ok => some (.look t ok,[x,k])
  | _ => none
def rdRun : Rd→List Value→Sem Value
  | .load t,[a] => Instr.loadAt t a
  | .look t ok,[m,k] => Instr.lookup t m k ok
  | _, _ => stuck ""
def rdK (P : Program) (r : Rd) (ads : List V) (kb : KB) (K : V→Prop) : Prop :=
  match r,ads with
  | .load t,[ad] => loadK P t ad kb K
  | .look t ok,[m,k] => lookupK P t m k ok kb K
  | _,_ => False
theorem rdK_ok {P : Program} {r : Rd} {ads : List V} {kb : KB} {K : V→Prop} (h : rdK P r ads kb K) {σ : Sg} {E : EH} {W : World} (hi : Inv σ E kb W) {as : List Value} (hd : DenL σ E ads as) :
    ∃ v x,(rdRun r as).run P W = .ok x W∧Den σ E v x∧K v:=by
  unfold rdK at h
  split at h <;> try exact h.elim
  · simp only [DenL] at hd
    obtain ⟨x,xs,rfl,h1,rfl⟩:=hd
    exact loadK_ok h hi h1
  · simp only [DenL] at hd
    obtain ⟨x,xs,rfl,h1,y,ys,rfl,h2,rfl⟩:=hd
    exact lookupK_ok h hi h1 h2
theorem rdOf_exec {o : Oper} {r : Rd} {xs : List Operand} (h : rdOf o = some (r,xs)) (ρ : Operand→Value) : execOp ρ o = (do pure (.value (← rdRun r (xs.map ρ)))):=by
  unfold rdOf at h
  split at h <;> try (cases h; done)
  · rename_i hop; cases h; unfold execOp; rw [hop]; rfl
  · rename_i hop; cases h; unfold execOp; rw [hop]; rfl
def evsD (fr : Fr) : List Operand→Option (List V)
  | [] => some []
  | x :: xs => match ev fr x,evsD fr xs with
    | some v,some vs => some (v :: vs)
    | _,_ => none
theorem evsD_ok {σ : Sg} {E : EH} {fr : Fr} {n : Nat} {a : Act} (h : FrOk σ E fr n a) : ∀ {xs : List Operand} {vs : List V},evsD fr xs = some vs→DenL σ E vs (xs.map a.eval)
  | [],vs,hv => by simp [evsD] at hv; subst hv; exact .nil
  | x :: xs,vs,hv => by
    simp only [evsD] at hv
    split at hv
    · rename_i v us h1 h2
      cases hv
      exact .cons (ev_ok h h1) (evsD_ok h h2)
    · cases hv
structure Lock where
  i : Nat
  r : Rd
  ads : List V
  v : V
structure EqI (a b : Int) : Prop where
  h : a = b
mutual
def veq : V→V→Prop
  | .int k n,.int k' m => match decide (k = k') with | true => EqI n m | false => False
  | .lit k n,.lit k' m => match decide (k = k') with | true => EqI n m | false => False
  | .sb a,.sb b => a = b
  | .tt,.tt => True
  | .ff,.ff => True
  | .agg l,.agg m => veqL l m
  | .any (.slice none 0 0),.any (.slice none 0 0) => True
  | a,b => a = b
def veqL : List V→List V→Prop
  | [],[] => True
  | [a],[b] => veq a b
  | a :: l,b :: m => veq a b∧veqL l m
  | _,_ => False
end
mutual
theorem veq_ok : ∀ {a b : V},veq a b→a = b
  | .int k n,b,h => by
    cases b <;> simp only [veq,reduceCtorEq] at h
    split at h
    · rename_i hk; rw [of_decide_eq_true hk,h.h]
    · exact h.elim
  | .lit k n,b,h => by
    cases b <;> simp only [veq,reduceCtorEq] at h
    split at h
    · rename_i hk; rw [of_decide_eq_true hk,h.h]
    · exact h.elim
  | .sb a,b,h => by cases b <;> simp only [veq,reduceCtorEq] at h; rw [h]
  | .tt,b,h => by cases b <;> simp only [veq,reduceCtorEq] at h; rfl
  | .ff,b,h => by cases b <;> simp only [veq,reduceCtorEq] at h; rfl
  | .agg l,b,h => by
    cases b <;> simp only [veq,reduceCtorEq] at h
    rw [veqL_ok h]
  | .any u,b,h => by
    unfold veq at h
    split at h
    all_goals first
      | exact h
      | assumption
      | (rename_i e; cases e; done)
  | .ptr ..,b,h | .pa ..,b,h | .sl ..,b,h | .pe ..,b,h | .pw ..,b,h | .e0,b,h | .sa ..,b,h | .se ..,b,h | .ipe ..,b,h | .ipo _,b,h | .imp ..,b,h | .dat _,b,h | .tup _,b,h | .fn ..,b,h | .mp _,b,h | .ch _,b,h | .arr ..,b,h => by simpa only [veq] using h
theorem veqL_ok : ∀ {l m : List V},veqL l m→l = m
  | [],m,h => by cases m <;> simp only [veqL] at h; rfl
  | [a],m,h => by
    match m with
    | [] => simp only [veqL] at h
    | [b] => simp only [veqL] at h; rw [veq_ok h]
    | b :: c :: m => simp only [veqL] at h; exact h.2.elim
  | a :: a' :: l,m,h => by
    match m with
    | [] => simp only [veqL] at h
    | [b] => simp only [veqL] at h; exact h.2.elim
    | b :: c :: m => simp only [veqL] at h; rw [veq_ok h.1,veqL_ok h.2]
end
structure PlainD (cs : List D) : Prop where
  h : ∀ d ∈ cs,∃ v,d = .val v
def conjD : List (List D)→Prop
  | [] => True
  | [p] => PlainD p
  | p :: ps => PlainD p∧conjD ps
theorem conjD_mem : ∀ {ps : List (List D)},conjD ps→∀ p ∈ ps,PlainD p
  | [p],h,q,hq => by rw [List.mem_singleton] at hq; subst hq; exact h
  | p :: r :: ps,h,q,hq => by
    rcases List.mem_cons.1 hq with rfl | hq
    · exact h.1
    · exact conjD_mem h.2 q hq
def detAL : List V→Option (List (List D))
  | [] => some []
  | v :: vs => match detAL vs with
    | some ps => match v with
      | .arr _ cs => some (cs :: ps)
      | v => match V.det v with | true => some ps | false => none
    | none => none
def V.detA : V→Option (List (List D))
  | .agg l => detAL l
  | _ => none
theorem plainD_den {E E' : EH} : ∀ {cs : List D},(∀ d ∈ cs,∃ v,d = .val v)→∀ {xs ys : List Value},DenD E cs xs→DenD E' cs ys→xs = ys
  | [],_,xs,ys,h,k => by simp only [DenD] at h k; rw [h,k]
  | d :: cs,hp,xs,ys,h,k => by
    simp only [DenD] at h k
    obtain ⟨x,xs',rfl,h1,h2⟩:=h
    obtain ⟨y,ys',rfl,k1,k2⟩:=k
    obtain ⟨v,rfl⟩:=hp d List.mem_cons_self
    simp only [RepD] at h1 k1
    rw [h1.1,k1.1,plainD_den (fun d hd => hp d (List.mem_cons_of_mem _ hd)) h2 k2]
def DetV (v : V) : Prop:=∀ (σ τ : Sg) (E E' : EH) (x y : Value),Den σ E v x→Den (σ ++ τ) E' v y→x = y
theorem detAL_den {σ τ : Sg} {E E' : EH} : ∀ {vs : List V} {ps : List (List D)},detAL vs = some ps→(∀ p ∈ ps,PlainD p)→∀ {xs ys : List Value},DenC σ E vs xs→DenC (σ ++ τ) E' vs ys→xs = ys
  | [],_,_,_,xs,ys,h,k => by simp only [DenC] at h k; rw [h,k]
  | v :: vs,ps,hd,hp,xs,ys,h,k => by
    simp only [detAL] at hd
    split at hd <;> try (cases hd; done)
    rename_i qs hqs
    simp only [DenC] at h k
    obtain ⟨x1,x2,rfl,h1,h2⟩:=h
    obtain ⟨y1,y2,rfl,k1,k2⟩:=k
    split at hd
    · rename_i m cs
      simp only [Option.some.injEq] at hd
      subst hd
      rw [detAL_den hqs (fun p hq => hp p (List.mem_cons_of_mem _ hq)) h2 k2]
      rcases h1 with ⟨x,rfl,_,h1⟩ | ⟨m',cs',e,_,h1⟩
      · simp only [Den] at h1
      rcases k1 with ⟨y,rfl,_,k1⟩ | ⟨m'',cs'',e2,_,k1⟩
      · simp only [Den] at k1
      cases e
      cases e2
      rw [plainD_den (hp _ List.mem_cons_self).h h1 k1]
    · split at hd <;> try (cases hd; done)
      rename_i hne _ hdet
      simp only [Option.some.injEq] at hd
      subst hd
      rw [detAL_den hqs hp h2 k2]
      rcases h1 with ⟨x,rfl,_,h1⟩ | ⟨m',cs',e,_,_⟩
      · rcases k1 with ⟨y,rfl,_,k1⟩ | ⟨m',cs',e,_,_⟩
        · rw [det_den hdet h1 k1]
        · exact absurd e (hne m' cs')
      · exact absurd e (hne m' cs')
theorem detA_den {v : V} {ps : List (List D)} (h : V.detA v = some ps) (hp : conjD ps) : DetV v:=fun σ τ E E' x y h1 h2 => by
  unfold V.detA at h
  split at h <;> try (cases h; done)
  simp only [Den] at h1 h2
  obtain ⟨xs,rfl,h1⟩:=h1
  obtain ⟨ys,rfl,h2⟩:=h2
  rw [detAL_den h (conjD_mem hp) h1 h2]
def immRd : Rd→List V→Bool
  | .load _,[.ipe _ _] => true
  | _,_ => false
def locksK (P : Program) (ops : Array Oper) (j : Nat) (kb : KB) : List Lock→Prop→Prop
  | [],K => K
  | ⟨i,r,ads,u⟩ :: ls,K => match waits P ops j i with
    | true => locksK P ops j kb ls K
    | false => match V.det u with
      | true => rdK P r ads kb (fun v => veq v u)∧locksK P ops j kb ls K
      | false => match V.detA u with
        | some ps => (conjD ps∧rdK P r ads kb (fun v => veq v u))∧locksK P ops j kb ls K
        | none => match immRd r ads with
          | true => rdK P r ads kb (fun _ => True)∧locksK P ops j kb ls K
          | false => False
def quietK (P : Program) (kb : KB) : List Lock→Prop→Prop
  | [],K => K
  | ⟨_,.load t,ads,_⟩ :: ls,K => rdK P (.load t) ads kb (fun _ => True)∧quietK P kb ls K
  | _ :: _,_ => False
def isLd : List Lock→Bool
  | [] => true
  | ⟨_,.load _,_,_⟩ :: ls => isLd ls
  | _ :: _ => false
def conj : List Nat→(Nat→Prop)→Prop
  | [],_ => True
  | [i],p => p i
  | i :: is,p => p i∧conj is p
theorem conj_mem : ∀ {l : List Nat} {p : Nat→Prop},conj l p→∀ i ∈ l,p i
  | [],_,_,i,hi => by cases hi
  | [j],p,h,i,hi => by simp at hi; subst hi; exact h
  | j :: k :: l,p,h,i,hi => by
    rcases List.mem_cons.1 hi with rfl | hi
    · exact h.1
    · exact conj_mem (l:=k :: l) h.2 i hi
def subB (a m : Nat) : Bool:=Nat.beq (Nat.land a m) a
def apartB (a m : Nat) : Bool:=Nat.beq (Nat.land a m) 0
theorem subB_ok {l : List Nat} {m : Nat} : subB (maskOf l) m = true ↔ ∀ i ∈ l,m.testBit i = true:=by
  unfold subB
  constructor
  · intro h i hi
    have h:=Nat.eq_of_beq_eq_true h
    have h1 : (maskOf l &&& m).testBit i = (maskOf l).testBit i:=congrArg (fun z => z.testBit i) h
    rw [Nat.testBit_and,maskOf_bit,decide_eq_true hi] at h1
    simpa using h1
  · intro h
    have : Nat.land (maskOf l) m = maskOf l:=by
      apply Nat.eq_of_testBit_eq
      intro i
      show (maskOf l &&& m).testBit i = _
      rw [Nat.testBit_and,maskOf_bit]
      by_cases hi : i ∈ l
      · simp [hi,h i hi]
      · simp [hi]
    rw [this]; exact Nat.beq_refl _
def apM (x y : OpI) : Bool:=apartB x.wr (Nat.lor y.rd y.wr) && apartB y.wr x.rd
def freeB (x : OpI) (i m : Nat) : List OpI→Nat→Bool
  | [],_ => true
  | y :: ys,j => match Nat.testBit m j with
    | true => match Nat.testBit y.am i,y.eag with
      | true,false => false
      | _,_ => freeB x i m ys (j + 1)
    | false => match Nat.beq j i with
      | true => match Nat.testBit y.am i with
        | true => false
        | false => freeB x i m ys (j + 1)
      | false => match Nat.testBit y.am i with
        | true => freeB x i m ys (j + 1)
        | false => match apM x y with
          | true => freeB x i m ys (j + 1)
          | false => false
def readyL : List OpI→Nat→Nat→List Nat
  | [],_,_ => []
  | p :: ps,i,m => match Nat.testBit m i with
    | true => readyL ps (i + 1) m
    | false => match subB p.am m with
      | true => i :: readyL ps (i + 1) m
      | false => readyL ps (i + 1) m
structure MaskOk (ops : Array Oper) (listed : Array Bool) (m : Nat) : Prop where
  size : listed.size = ops.size
  bit : ∀ i,i < ops.size→m.testBit i = listed.getD i false
theorem MaskOk.set {ops : Array Oper} {listed : Array Bool} {m : Nat} (h : MaskOk ops listed m) (i : Nat) : MaskOk ops (listed.setIfInBounds i true) (Nat.lor m (2 ^ i)):=by
  refine ⟨by simp [h.size],fun k hk => ?_⟩
  show (m ||| 2 ^ i).testBit k = _
  rw [Nat.testBit_or,Nat.testBit_two_pow,h.bit k hk]
  by_cases hik : i = k
  · subst hik
    have : i < listed.size:=by rw [h.size]; exact hk
    simp [this]
  · rw [getD_set_ne false hik]
    simp [hik]
theorem MaskOk.ready {P : Program} {ops : Array Oper} {listed : Array Bool} {m : Nat} (h : MaskOk ops listed m) (hlt : ∀ o ∈ ops,∀ e ∈ o.after,e.on < ops.size) {i : Nat} {o : Oper} (ho : ops[i]? = some o) : i ∈ Region.ready .any ops listed ↔ m.testBit i = false∧subB (opI P ops i).am m = true:=by
  have hi : i < ops.size:=(Array.getElem?_eq_some_iff.1 ho).1
  have hil : i < listed.size:=by rw [h.size]; exact hi
  rw [mem_ready]
  simp only [opI,ho,subB_ok]
  have e1 : (listed.getD i true = false) ↔ m.testBit i = false:=by
    rw [h.bit i hi]
    simp [hil]
  rw [e1]
  constructor
  · rintro ⟨h1,o',ho',hall⟩
    cases ho'
    refine ⟨h1,fun k hk => ?_⟩
    simp only [amL,List.mem_map,List.mem_filter] at hk
    obtain ⟨e,⟨he,hb⟩,rfl⟩:=hk
    rw [h.bit e.on (hlt o (Array.mem_of_getElem? ho) e (by simpa using he))]
    exact hall e (by simpa using he) hb
  · rintro ⟨h1,hall⟩
    refine ⟨h1,o,rfl,fun e he hb => ?_⟩
    have:=hall e.on (List.mem_map.2 ⟨e,List.mem_filter.2 ⟨by simpa using he,hb⟩,rfl⟩)
    rwa [h.bit e.on (hlt o (Array.mem_of_getElem? ho) e he)] at this
theorem opI_eag {P : Program} {ops : Array Oper} {j : Nat} : (opI P ops j).eag = eagerB P ops j:=by
  unfold opI
  split
  · rfl
  · rename_i h; simp [eagerB,h]
theorem apartB_two {d m : Nat} (h : apartB (2 ^ d) m = true) : m.testBit d = false:=by
  have h:=Nat.eq_of_beq_eq_true h
  have h1 : (2 ^ d &&& m).testBit d = (0 : Nat).testBit d:=congrArg (fun z => z.testBit d) h
  rw [Nat.testBit_and,Nat.testBit_two_pow] at h1
  simpa using h1
theorem apM_ok {P : Program} {ops : Array Oper} {i j : Nat} {oi oj : Oper} (hi : ops[i]? = some oi) (hj : ops[j]? = some oj) (h : apM (opI P ops i) (opI P ops j) = true) : oi.apart ops oj = true:=by
  simp only [apM,opI,hi,hj,Bool.and_eq_true] at h
  obtain ⟨h1,h2⟩:=h
  unfold Oper.apart
  rw [Bool.and_eq_true]
  constructor
  · split
    · rename_i d hd
      rw [hd] at h1
      have h3:=apartB_two h1
      have h4 : (maskOf (oj.looksAt ops) ||| (match oj.dst with | some d => 2 ^ d | none => 0)).testBit d = false:=h3
      rw [Nat.testBit_or,Bool.or_eq_false_iff,maskOf_bit] at h4
      simp only [decide_eq_false_iff_not] at h4
      simp only [Bool.and_eq_true,Bool.not_eq_true',List.contains_eq_mem,decide_eq_false_iff_not,bne_iff_ne,ne_eq]
      refine ⟨h4.1,fun e => ?_⟩
      rw [e] at h4
      simp at h4
    · rfl
  · split
    · rename_i d hd
      rw [hd] at h2
      have h3:=apartB_two h2
      rw [maskOf_bit] at h3
      simp only [decide_eq_false_iff_not] at h3
      simp [h3]
    · rfl
theorem freeB_ok {P : Program} {ops : Array Oper} {i m : Nat} : ∀ {n k : Nat},freeB (opI P ops i) i m (planOf P ops k n) k = true→∀ j,k ≤ j→j < k + n →
    (m.testBit j = true→direct ops j i = true→eagerB P ops j = true)∧(m.testBit j = false→(j = i∧direct ops i i = false)∨(j ≠ i∧(direct ops j i = true∨apM (opI P ops i) (opI P ops j) = true)))
  | 0,k,_,j,h1,h2 => by omega
  | n + 1,k,h,j,h1,h2 => by
    simp only [planOf,freeB] at h
    have rest : freeB (opI P ops i) i m (planOf P ops (k + 1) n) (k + 1) = true→k ≠ j→(m.testBit j = true→direct ops j i = true→eagerB P ops j = true)∧(m.testBit j = false→(j = i∧direct ops i i = false)∨(j ≠ i∧(direct ops j i = true∨apM (opI P ops i) (opI P ops j) = true))) :=
      fun hr hkj => freeB_ok hr j (by omega) (by omega)
    split at h
    · rename_i hb
      split at h
      · cases h
      · rename_i hne
        by_cases hkj : k = j
        · subst hkj
          refine ⟨fun _ hw => ?_,fun hf => by rw [hb] at hf; cases hf⟩
          cases he : eagerB P ops k
          · exact (hne (by rw [am_direct]; exact hw) (by rw [opI_eag]; exact he)).elim
          · rfl
        · exact rest h hkj
    · rename_i hb
      split at h
      · rename_i hki
        have hki':=Nat.eq_of_beq_eq_true hki
        split at h
        · cases h
        · rename_i hw
          rw [am_direct] at hw
          by_cases hkj : k = j
          · subst hkj
            exact ⟨fun ht => (by rw [hb] at ht; cases ht),fun _ => .inl ⟨hki',by rw [← hki'] at hw ⊢; exact hw⟩⟩
          · exact rest h hkj
      · rename_i hki
        have hne : ∀ {x : Nat},k = x→x ≠ i:=fun e e' => by subst e; subst e'; simp at hki
        split at h
        · rename_i hw
          rw [am_direct] at hw
          by_cases hkj : k = j
          · exact ⟨fun ht => (by rw [← hkj,hb] at ht; cases ht),fun _ => .inr ⟨hne hkj,.inl (by rw [← hkj]; exact hw)⟩⟩
          · exact rest h hkj
        · split at h
          · rename_i hap
            by_cases hkj : k = j
            · exact ⟨fun ht => (by rw [← hkj,hb] at ht; cases ht),fun _ => .inr ⟨hne hkj,.inr (by rw [← hkj]; exact hap)⟩⟩
            · exact rest h hkj
          · cases h
theorem readyL_ok {P : Program} {ops : Array Oper} {m : Nat} : ∀ {n i k : Nat},i ≤ k→k < i + n→m.testBit k = false→subB (opI P ops k).am m = true→k ∈ readyL (planOf P ops i n) i m
  | 0,i,k,h1,h2,_,_ => by omega
  | n + 1,i,k,h1,h2,h3,h4 => by
    simp only [planOf,readyL]
    by_cases hik : i = k
    · subst hik
      rw [h3,h4]
      simp
    · have:=readyL_ok (n:=n) (i:=i + 1) (by omega) (by omega) h3 h4
      split
      · exact this
      · split
        · exact List.mem_cons_of_mem _ this
        · exact this
theorem readyL_mem {P : Program} {ops : Array Oper} {m : Nat} : ∀ {n i k : Nat},k ∈ readyL (planOf P ops i n) i m→i ≤ k∧k < i + n∧m.testBit k = false∧subB (opI P ops k).am m = true
  | 0,i,k,h => by simp [planOf,readyL] at h
  | n + 1,i,k,h => by
    simp only [planOf,readyL] at h
    have rest : k ∈ readyL (planOf P ops (i + 1) n) (i + 1) m→i ≤ k∧k < i + (n + 1)∧m.testBit k = false∧subB (opI P ops k).am m = true:=fun h => by
      obtain ⟨a,b,c,d⟩:=readyL_mem h
      exact ⟨by omega,by omega,c,d⟩
    split at h
    · exact rest h
    · rename_i h1
      split at h
      · rename_i h2
        rcases List.mem_cons.1 h with rfl | h
        · exact ⟨Nat.le_refl _,by omega,h1,h2⟩
        · exact rest h
      · exact rest h
theorem MaskOk.free {P : Program} {ops : Array Oper} {listed : Array Bool} {m : Nat} (h : MaskOk ops listed m) {i : Nat} {oi : Oper} (ho : ops[i]? = some oi) (hc : freeB (opI P ops i) i m (planOf P ops 0 ops.size) 0 = true) :
    (∀ j oj,ops[j]? = some oj→j ≠ i→listed.getD j true = false→(∀ e ∈ oj.after,Region.binds .any e = true→e.on ≠ i)→oi.apart ops oj = true):=by
  intro j oj hj hji hun hno
  have hjl : j < ops.size:=(Array.getElem?_eq_some_iff.1 hj).1
  have hjl' : j < listed.size:=by rw [h.size]; exact hjl
  have hw : direct ops j i = false:=by
    unfold direct
    rw [hj]
    rw [Bool.eq_false_iff]
    intro hw
    obtain ⟨e,he,hb⟩:=Array.any_eq_true'.1 hw
    simp only [Bool.and_eq_true,beq_iff_eq] at hb
    exact hno e he hb.1 hb.2
  have hbit : m.testBit j = false:=by
    rw [h.bit j hjl]
    simp [hjl'] at hun ⊢
    exact hun
  rcases (freeB_ok hc j (Nat.zero_le j) (by omega)).2 hbit with ⟨h1,_⟩ | ⟨_,h2 | h2⟩
  · exact absurd h1 hji
  · rw [hw] at h2; cases h2
  · exact apM_ok ho hj h2
theorem Closed.noWaiter {P : Program} {ops : Array Oper} {listed : Array Bool} (hc : Closed ops listed) {i : Nat} (hi : i ∈ Region.ready .any ops listed) : noWaiter P ops listed i = true∧waits P ops i i = false:=by
  constructor
  · rw [noWaiter_spec]
    intro k hk he
    cases hb : listed.getD k false
    · rfl
    · have:=waits_listed hc (fun q hq => hc k q hb hq) hk
      rw [ready_not hi] at this; cases this
  · exact not_waits hc hi hi
def edgesB (ops : Array Oper) : Bool:=ops.all fun o => o.after.all fun e => Nat.blt e.on ops.size
theorem edgesB_ok {ops : Array Oper} (h : edgesB ops = true) : ∀ o ∈ ops,∀ e ∈ o.after,e.on < ops.size:=by
  intro o ho e he
  have h1:=Array.all_eq_true_iff_forall_mem.1 h o ho
  have h2:=Array.all_eq_true_iff_forall_mem.1 h1 e he
  exact Nat.lt_of_succ_le (Nat.le_of_ble_eq_true h2)
def deferB (ops : Array Oper) (i : Nat) (fr : Fr) (kb : KB) : Bool :=
  match ops[i]? with
  | some o => match rdOf o with
    | some (.load _,xs) => match evsD fr xs with
      | some [.ptr b off] => match kb[b]? with
        | some (.cells l) => match pieceAt l off with
          | some v => !(V.det v)
          | none => false
        | _ => false
      | _ => false
    | _ => false
  | none => false
def moving (plan : List OpI) (m i : Nat) : List OpI→Nat→Bool
  | [],_ => false
  | o :: r,k => match Nat.testBit m k,o.eag,o.al with
    | false,false,false => match Nat.testBit (cloM plan 12 o.am) i with
      | false => true
      | true => moving plan m i r (k + 1)
    | _,_,_ => moving plan m i r (k + 1)
def pickL (all : List OpI) (ops : Array Oper) (m : Nat) (fr : Fr) (kb : KB) : List OpI→Nat→Option Nat
  | [],_ => none
  | p :: ps,i => match p.eag,Nat.testBit m i with
    | true,false => match subB p.am m with
      | true => match freeB p i m all 0 with
        | true => match deferB ops i fr kb with
          | true => match moving all m i all 0 with
            | true => pickL all ops m fr kb ps (i + 1)
            | false => some i
          | false => some i
        | false => pickL all ops m fr kb ps (i + 1)
      | false => pickL all ops m fr kb ps (i + 1)
    | _,_ => pickL all ops m fr kb ps (i + 1)
def pickE (plan : List OpI) (ops : Array Oper) (m : Nat) (fr : Fr) (kb : KB) : Option Nat:=pickL plan ops m fr kb plan 0
theorem pickL_ok {P : Program} {ops : Array Oper} {m : Nat} {fr : Fr} {kb : KB} {all : List OpI} : ∀ {n i k : Nat},pickL all ops m fr kb (planOf P ops i n) i = some k→k < i + n∧(opI P ops k).eag = true∧m.testBit k = false∧subB (opI P ops k).am m = true∧freeB (opI P ops k) k m all 0 = true
  | 0,i,k,h => by simp [planOf,pickL] at h
  | n + 1,i,k,h => by
    simp only [planOf,pickL] at h
    have rest : pickL all ops m fr kb (planOf P ops (i + 1) n) (i + 1) = some k→k < i + (n + 1)∧(opI P ops k).eag = true∧m.testBit k = false∧subB (opI P ops k).am m = true∧freeB (opI P ops k) k m all 0 = true:=fun h => by
      obtain ⟨a,b⟩:=pickL_ok h
      exact ⟨by omega,b⟩
    split at h
    · rename_i h1 h2
      split at h
      · rename_i h3
        split at h
        · rename_i h4
          split at h
          · split at h
            · exact rest h
            · cases h
              exact ⟨by omega,h1,h2,h3,h4⟩
          · cases h
            exact ⟨by omega,h1,h2,h3,h4⟩
        · exact rest h
      · exact rest h
    · exact rest h
def drawK (P : Program) (X : CallT) (n : Nat) (ops : Array Oper) (plan : List OpI) : Nat→Nat→List Lock→(Fr→KB→Prop)→Fr→KB→Prop
  | 0,m,_,K,fr,kb => match readyL plan 0 m with | [] => K fr kb | _ => False
  | fuel + 1,m,locks,K,fr,kb =>
    match pickE plan ops m fr kb with
    | some i => match ops[i]? with
      | some o => guardK ops o fr
          (fun fr => match rdOf o with
            | some (r,xs) => match evsD fr xs with
              | some ads => rdK P r ads kb (fun v => putK n o.dst v fr (fun fr' => drawK P X n ops plan fuel (Nat.lor m (2 ^ i)) (⟨i,r,ads,v⟩ :: locks) K fr' kb))
              | none => False
            | none => match isPure P o.op with
              | true => pureK P o fr kb (fun v => putK n o.dst v fr (fun fr' => drawK P X n ops plan fuel (Nat.lor m (2 ^ i)) locks K fr' kb))
              | false => False)
          (fun fr => putK n o.dst (.any undef) fr (fun fr' => drawK P X n ops plan fuel (Nat.lor m (2 ^ i)) locks K fr' kb))
      | none => False
    | none => match readyL plan 0 m with
      | [] => K fr kb
      | r :: rs => conj (r :: rs) (fun j => match ops[j]?,eagerB P ops j with
        | some o,false => guardK ops o fr
            (fun fr => match isAl o.op,isLd locks with
              | true,true => quietK P kb locks (opK P X o fr kb (fun v kb' => putK n o.dst v fr (fun fr' => drawK P X n ops plan fuel (Nat.lor m (2 ^ j)) (locks.filter fun l => !(waits P ops j l.i)) K fr' kb')))
              | _,_ => opK P X o fr kb (fun v kb' => locksK P ops j kb' locks (putK n o.dst v fr (fun fr' => drawK P X n ops plan fuel (Nat.lor m (2 ^ j)) (locks.filter fun l => !(waits P ops j l.i)) K fr' kb'))))
            (fun fr => putK n o.dst (.any undef) fr (fun fr' => drawK P X n ops plan fuel (Nat.lor m (2 ^ j)) (locks.filter fun l => !(waits P ops j l.i)) K fr' kb))
        | some o,true => guardK ops o fr
            (fun fr => match rdOf o with
              | some (r,xs) => match evsD fr xs with
                | some ads => rdK P r ads kb (fun v => putK n o.dst v fr (fun fr' => drawK P X n ops plan fuel (Nat.lor m (2 ^ j)) locks K fr' kb))
                | none => False
              | none => match isPure P o.op with
                | true => pureK P o fr kb (fun v => putK n o.dst v fr (fun fr' => drawK P X n ops plan fuel (Nat.lor m (2 ^ j)) locks K fr' kb))
                | false => False)
            (fun fr => putK n o.dst (.any undef) fr (fun fr' => drawK P X n ops plan fuel (Nat.lor m (2 ^ j)) locks K fr' kb))
        | none,_ => False)
structure RLock where
  i : Nat
  s : Sem Next
  x : Value
def GL (P : Program) (ops : Array Oper) (L : List RLock) (listed : Array Bool) (j : Nat) (w w' : World) : Prop :=
  ∀ l ∈ L,noWaiter P ops listed l.i = true→waits P ops j l.i = false→l.s.run P w = .ok (.value l.x) w→l.s.run P w' = .ok (.value l.x) w'
def LockOk (P : Program) (σ : Sg) (E : EH) (W : World) (l : Lock) (r : RLock) : Prop :=
  r.i = l.i∧r.s.run P W = .ok (.value r.x) W∧Den σ E l.v r.x∧∃ as,DenL σ E l.ads as∧r.s = (do pure (.value (← rdRun l.r as)))
def LocksOk (P : Program) (ops : Array Oper) (listed : Array Bool) (σ : Sg) (E : EH) (W : World) (ls : List Lock) (L : List RLock) : Prop :=
  ∀ r ∈ L,noWaiter P ops listed r.i = true→∃ l ∈ ls,LockOk P σ E W l r
def KeepOk (P : Program) (kb : KB) (l : Lock) : Prop:=(DetV l.v∧rdK P l.r l.ads kb (fun v => veq v l.v))∨(immRd l.r l.ads = true∧rdK P l.r l.ads kb (fun _ => True))
theorem locksK_ok {P : Program} {ops : Array Oper} {j : Nat} {kb : KB} : ∀ {ls : List Lock} {R : Prop},locksK P ops j kb ls R→R∧∀ l ∈ ls,waits P ops j l.i = false→KeepOk P kb l
  | [],R,h => ⟨h,fun l hl => by cases hl⟩
  | l :: ls,R,h => by
    simp only [locksK] at h
    split at h
    · rename_i hw
      obtain ⟨h1,h2⟩:=locksK_ok h
      refine ⟨h1,fun l' hl' hw' => ?_⟩
      rcases List.mem_cons.1 hl' with rfl | hl'
      · rw [hw] at hw'; cases hw'
      · exact h2 l' hl' hw'
    · split at h
      · rename_i hx
        obtain ⟨h1,h2⟩:=locksK_ok h.2
        refine ⟨h1,fun l' hl' hw' => ?_⟩
        rcases List.mem_cons.1 hl' with rfl | hl'
        · exact .inl ⟨fun _ _ _ _ _ _ h k => det_den hx h k,h.1⟩
        · exact h2 l' hl' hw'
      · split at h
        · rename_i ps hps
          obtain ⟨h1,h2⟩:=locksK_ok h.2
          refine ⟨h1,fun l' hl' hw' => ?_⟩
          rcases List.mem_cons.1 hl' with rfl | hl'
          · exact .inl ⟨detA_den hps h.1.1,h.1.2⟩
          · exact h2 l' hl' hw'
        · split at h
          · rename_i hx
            obtain ⟨h1,h2⟩:=locksK_ok h.2
            refine ⟨h1,fun l' hl' hw' => ?_⟩
            rcases List.mem_cons.1 hl' with rfl | hl'
            · exact .inr ⟨hx,h.1⟩
            · exact h2 l' hl' hw'
          · exact h.elim
theorem quietK_ok {P : Program} {kb : KB} : ∀ {ls : List Lock} {R : Prop},quietK P kb ls R→R∧∀ l ∈ ls,∃ t,l.r = .load t∧rdK P l.r l.ads kb (fun _ => True)
  | [],R,h => ⟨h,fun l hl => by cases hl⟩
  | ⟨i,r,ads,u⟩ :: ls,R,h => by
    cases r with
    | look t ok => simp only [quietK] at h
    | load t =>
      simp only [quietK] at h
      obtain ⟨h1,h2⟩:=quietK_ok h.2
      refine ⟨h1,fun l hl => ?_⟩
      rcases List.mem_cons.1 hl with rfl | hl
      · exact ⟨t,rfl,h.1⟩
      · exact h2 l hl
theorem LockOk.quiet {P : Program} {σ τ : Sg} {E E' : EH} {W W' : World} {l : Lock} {r : RLock} (h : LockOk P σ E W l r) (hE : E.le E') {kb : KB} (hi : Inv σ E kb W) (hW : WExt W W') {t : TypeId} (hl : l.r = .load t) (hk : rdK P l.r l.ads kb (fun _ => True)) : LockOk P (σ ++ τ) E' W' l r:=by
  obtain ⟨h1,h2,h3,a,h4,h5⟩:=h
  obtain ⟨li,lr,lads,lv⟩:=l
  simp only at hl h1 h3 h4 h5 hk
  subst hl
  unfold rdK at hk
  split at hk <;> try exact hk.elim
  · rename_i ad _ _
    simp only [DenL] at h4
    obtain ⟨y,ys,rfl,h6,rfl⟩:=h4
    rename_i hr
    cases hr
    obtain ⟨v,x,k1,_,_⟩:=loadK_okS hk hi h6
    have e1:=k1 W (WExt.refl W)
    have e2:=k1 W' hW
    have e3 : r.x = x:=by
      rw [h5] at h2
      simp [rdRun,e1] at h2
      exact h2.symm
    refine ⟨h1,?_,Den.mono hE h3,[y],DenL.mono hE (by simp only [DenL]; exact ⟨y,[],rfl,h6,rfl⟩),h5⟩
    rw [h5,e3]
    simp [rdRun,e2]
  · contradiction
theorem alloc_wp {P : Program} {X : CallT} {o : Oper} (ho : isAl o.op = true) {fr : Fr} {kb : KB} {K : V→KB→Prop} (h : opK P X o fr kb K) {σ : Sg} {E : EH} {n : Nat} {a : Act} {W : World} (hi : Inv σ E kb W) (Q : Exit→Act→World→Prop) :
    o.wp P a W (fun a' W' => After σ E kb W a o K a' W'∧WExt W W') Q:=by
  obtain ⟨dst,op,ty,pos,after,guard⟩:=o
  cases op <;> simp only [isAl] at ho <;> try (cases ho; done)
  rename_i t
  unfold opK at h
  simp only [isPure] at h
  unfold effK at h
  simp only at h
  obtain ⟨v,x,σ',kb',W',h1,h2,h3,h4,h5⟩:=allocK_ok h hi
  exact wp_of_run (by simp [execOp,h1]) ⟨⟨σ',E,kb',v,x,h2,h3,rfl,h4⟩,h5⟩
theorem LockOk.step {P : Program} {σ τ : Sg} {E E' : EH} {W W' : World} {l : Lock} {r : RLock} (h : LockOk P σ E W l r) (hE : E.le E') {kb' : KB} (hi0 : ∀ b o,E b = some o→W.heap[b]? = some o) (hi : Inv (σ ++ τ) E' kb' W') (hk : KeepOk P kb' l) : LockOk P (σ ++ τ) E' W' l r:=by
  obtain ⟨h1,h2,h3,a,h4,h5⟩:=h
  rcases hk with ⟨hv,hl⟩ | ⟨hm,hl⟩
  case inr =>
    obtain ⟨li,lr,lads,lv⟩:=l
    simp only at h1 h3 h4 h5 hm hl
    unfold immRd at hm
    split at hm
    case h_2 => cases hm
    rename_i t e fld
    simp only [DenL] at h4
    obtain ⟨y,ys,rfl,h6,rfl⟩:=h4
    simp only [rdK] at hl
    obtain ⟨x,hx⟩:=load_imm hl h6
    have e1:=hx hi0
    have e2:=hx (W:=W') (fun b o hb => hi.imm b o (hE b o hb))
    have e3 : r.x = x:=by
      rw [h5] at h2
      simp [rdRun,e1] at h2
      exact h2.symm
    refine ⟨h1,?_,Den.mono hE h3,[y],DenL.mono hE (by simp only [DenL]; exact ⟨y,[],rfl,h6,rfl⟩),h5⟩
    rw [h5,e3]
    simp [rdRun,e2]
  obtain ⟨v,x,k1,k2,k3⟩:=rdK_ok hl hi (DenL.mono hE h4)
  replace k3:=veq_ok k3
  subst k3
  have e1:=hv _ _ _ _ _ _ h3 k2
  refine ⟨h1,?_,Den.mono hE h3,a,DenL.mono hE h4,h5⟩
  rw [h5,e1]
  simp [k1]
theorem drawK_ok {P : Program} {X : CallT} (hX : CallOk P X) {c : Cx} {n : Nat} {ops : Array Oper} (hns : Region.noSelect ops = true) (hed : edgesB ops = true) {Q : Exit→Act→World→Prop} {K : Fr→KB→Prop} (hQ : ∀ a W,Hat c n K a W→Q .normal a W)
    (hQp : ∀ ch a a' w,Q (.panic ch) a w→Q (.panic ch) a' w) : ∀ (fuel : Nat) (m : Nat) (listed : Array Bool) (locks : List Lock) (fr : Fr) (kb : KB) (a : Act) (W : World) (σ : Sg) (E : EH) (L : List RLock),MaskOk ops listed m→Closed ops listed →
      Step c.σ c.E c.kb c.W σ E kb W→FrOk σ E fr n a→LocksOk P ops listed σ E W locks L→drawK P X n ops (planOf P ops 0 ops.size) fuel m locks K fr kb→wpAnyG P ops Q (GL P ops L) fuel listed a W:=by
  have hlt:=edgesB_ok hed
  have hempty : ∀ {m : Nat} {listed : Array Bool},MaskOk ops listed m→readyL (planOf P ops 0 ops.size) 0 m = []→Region.ready .any ops listed = []:=by
    intro m listed hm h0
    apply List.eq_nil_iff_forall_not_mem.2
    intro k hk
    obtain ⟨_,o,ho,_⟩:=mem_ready.1 hk
    obtain ⟨h1,h2⟩:=(hm.ready hlt ho).1 hk
    have:=readyL_ok (ops:=ops) (n:=ops.size) (i:=0) (Nat.zero_le k) (by have:=(Array.getElem?_eq_some_iff.1 ho).1; omega) h1 h2
    rw [h0] at this; cases this
  intro fuel
  induction fuel with
  | zero =>
    intro m listed locks fr kb a W σ E L hm hcl hs hf hL h
    simp only [drawK] at h
    split at h
    · rename_i hr; exact ⟨hempty hm hr,hQ a W ⟨σ,E,fr,kb,hs,hf,h⟩⟩
    · exact h.elim
  | succ fuel ih =>
    intro m listed locks fr kb a W σ E L hm hcl hs hf hL h
    simp only [drawK] at h
    have hsel:=Region.noSelect_spec hns
    split at h
    · rename_i i hfind
      obtain ⟨hil,heag,hbit,hsub,hcm⟩:=pickL_ok hfind
      split at h
      case h_2 => exact h.elim
      rename_i o ho
      have hmem:=(hm.ready hlt ho).2 ⟨hbit,hsub⟩
      have hfree:=hm.free ho hcm
      obtain ⟨hnw,hii⟩:=hcl.noWaiter (P:=P) hmem
      have heag' : eagerB P ops i = true:=by rw [← opI_eag]; exact heag
      have hset : ∀ (L : List RLock) l j w w',j ≠ i→GL P ops L (l.setIfInBounds i true) j w w'→GL P ops L l j w w':=by
        intro L l j w w' _ hg r hr hn hw hrun
        exact hg r hr (noWaiter_set hn (.inr heag')) hw hrun
      have hkeep : ∀ {ls : List Lock},LocksOk P ops listed σ E W ls L→LocksOk P ops (listed.setIfInBounds i true) σ E W ls L:=fun hl r hr hn => hl r hr (noWaiter_unset hn)
      obtain ⟨fr',hf',⟨hw,h⟩ | ⟨hw,h⟩⟩:=guardK_ok h hf
      · split at h
        · rename_i rr xs hrd
          split at h
          case h_2 => exact h.elim
          rename_i ads had
          obtain ⟨v,y,h1,h2,h3⟩:=rdK_ok h hs.inv (evsD_ok hf' had)
          obtain ⟨fr2,hf2,h4⟩:=putK_ok h3 hf' h2
          have hse:=rdOf_exec hrd a.eval
          have hW : (execOp a.eval o).run P W = .ok (.value y) W:=by rw [hse]; simp [h1]
          have ih1:=ih (Nat.lor m (2 ^ i)) (listed.setIfInBounds i true) (⟨i,rr,ads,v⟩ :: locks) fr2 kb (a.put o.dst y) W σ E (⟨i,execOp a.eval o,y⟩ :: L) (hm.set i) (hcl.set hmem) hs hf2 (fun r hr hn => by
            rcases List.mem_cons.1 hr with rfl | hr
            · exact ⟨_,List.mem_cons_self,rfl,hW,h2,_,evsD_ok hf' had,hse⟩
            · obtain ⟨l,hl,hl2⟩:=hkeep hL r hr hn
              exact ⟨l,List.mem_cons_of_mem _ hl,hl2⟩) h4
          exact wpAnyG.weaken (fun l j w w' hg r hr => hg r (List.mem_cons_of_mem _ hr)) (firstG (C:=fun w => (execOp a.eval o).run P w = .ok (.value y) w) ho hsel (fun ch a w => hQp ch _ a w)
            (fun l j w w' hn hwt hg hC => hg ⟨i,execOp a.eval o,y⟩ List.mem_cons_self hn hwt hC) (fun l w r hr hn hw hrun => hrun) (hset _) fuel listed a W hfree hcl hmem (.inl ⟨hw,fun w hC => hC⟩) hW hnw hii ih1)
        · split at h
          case h_2 => exact h.elim
          obtain ⟨v,y,h1,h2,h3⟩:=pureK_ok h hf' hs.inv
          obtain ⟨fr2,hf2,h4⟩:=putK_ok h3 hf' h2
          have ih1:=ih (Nat.lor m (2 ^ i)) (listed.setIfInBounds i true) locks fr2 kb (a.put o.dst y) W σ E L (hm.set i) (hcl.set hmem) hs hf2 (hkeep hL) h4
          exact firstG (C:=fun _ => True) ho hsel (fun ch a w => hQp ch _ a w) (fun _ _ _ _ _ _ _ _ => trivial) (fun l w r hr hn hw hrun => hrun) (hset _) fuel listed a W hfree hcl hmem (.inl ⟨hw,fun w _ => h1 w⟩) trivial hnw hii ih1
      · obtain ⟨fr2,hf2,h4⟩:=putK_ok h hf' (σ:=σ) (E:=E) (x:=undef) (by simp [Den])
        have ih1:=ih (Nat.lor m (2 ^ i)) (listed.setIfInBounds i true) locks fr2 kb (a.put o.dst undef) W σ E L (hm.set i) (hcl.set hmem) hs hf2 (hkeep hL) h4
        exact firstG (C:=fun _ => True) ho hsel (fun ch a w => hQp ch _ a w) (fun _ _ _ _ _ _ _ _ => trivial) (fun l w r hr hn hw hrun => hrun) (hset _) fuel listed a W hfree hcl hmem (.inr ⟨hw,rfl⟩) trivial hnw hii ih1
    · split at h
      · rename_i hr
        have hr':=hempty hm hr
        exact ⟨fun _ => hQ a W ⟨σ,E,fr,kb,hs,hf,h⟩,by rw [hr']; simp⟩
      · rename_i r rs hr
        refine ⟨fun h0 => ?_,fun j hj => ?_⟩
        · obtain ⟨_,g2,g3,g4⟩:=readyL_mem (ops:=ops) (m:=m) (n:=ops.size) (i:=0) (k:=r) (by rw [hr]; exact List.mem_cons_self)
          have hrl : r < ops.size:=by omega
          have:=(hm.ready hlt (Array.getElem?_eq_getElem hrl)).2 ⟨g3,g4⟩
          rw [h0] at this; cases this
        have hltj : j < listed.size:=by
          obtain ⟨h0,_⟩:=mem_ready.1 hj
          rcases Nat.lt_or_ge j listed.size with h' | h'
          · exact h'
          · simp [Array.getElem?_eq_none h'] at h0
        have hjr : j ∈ r :: rs:=by
          obtain ⟨_,o,ho,_⟩:=mem_ready.1 hj
          obtain ⟨h1,h2⟩:=(hm.ready hlt ho).1 hj
          rw [← hr]
          exact readyL_ok (ops:=ops) (n:=ops.size) (i:=0) (Nat.zero_le j) (by rw [← hm.size]; omega) h1 h2
        have h:=conj_mem h j hjr
        split at h
        case h_3 => exact h.elim
        case h_2 =>
          rename_i o ho heag
          unfold wpOp
          simp only [ho]
          have hkeep2 : LocksOk P ops (listed.setIfInBounds j true) σ E W locks L:=fun r hr hn => hL r hr (noWaiter_unset hn)
          obtain ⟨fr',hf',⟨hw,h⟩ | ⟨hw,h⟩⟩:=guardK_ok h hf
          · rw [if_pos hw]
            split at h
            · rename_i rr xs hrd
              split at h
              case h_2 => exact h.elim
              rename_i ads had
              obtain ⟨v,y,h1,h2,h3⟩:=rdK_ok h hs.inv (evsD_ok hf' had)
              obtain ⟨fr2,hf2,h4⟩:=putK_ok h3 hf' h2
              have hse:=rdOf_exec hrd a.eval
              have hW : (execOp a.eval o).run P W = .ok (.value y) W:=by rw [hse]; simp [h1]
              exact .inl (wp_of_run hW ⟨fun r hr hn hwt hrun => hrun,ih (Nat.lor m (2 ^ j)) (listed.setIfInBounds j true) locks fr2 kb _ W σ E L (hm.set j) (hcl.set hj) hs hf2 hkeep2 h4⟩)
            · split at h
              case h_2 => exact h.elim
              obtain ⟨v,y,h1,h2,h3⟩:=pureK_ok h hf' hs.inv
              obtain ⟨fr2,hf2,h4⟩:=putK_ok h3 hf' h2
              exact .inl (wp_of_run (h1 W) ⟨fun r hr hn hwt hrun => hrun,ih (Nat.lor m (2 ^ j)) (listed.setIfInBounds j true) locks fr2 kb _ W σ E L (hm.set j) (hcl.set hj) hs hf2 hkeep2 h4⟩)
          · rw [if_neg (by simp [hw])]
            obtain ⟨fr2,hf2,h4⟩:=putK_ok h hf' (σ:=σ) (E:=E) (x:=undef) (by simp [Den])
            exact ⟨fun r hr hn hwt hrun => hrun,ih (Nat.lor m (2 ^ j)) (listed.setIfInBounds j true) locks fr2 kb _ W σ E L (hm.set j) (hcl.set hj) hs hf2 hkeep2 h4⟩
        rename_i o ho heag
        unfold wpOp
        simp only [ho]
        obtain ⟨fr',hf',⟨hw,h⟩ | ⟨hw,h⟩⟩:=guardK_ok h hf
        · rw [if_pos hw]
          split at h
          · rename_i hal _
            obtain ⟨h,k5⟩:=quietK_ok h
            refine .inl (Oper.wp_mono (fun a' W' ha => ?_) (alloc_wp (n:=n) (a:=a) hal h hs.inv Q))
            obtain ⟨⟨σ',E',kb',v,x,k1,k2,rfl,k4⟩,hext⟩:=ha
            have hpre:=k1.pre
            obtain ⟨τ,rfl⟩:=hpre
            obtain ⟨fr2,hf2,h4⟩:=putK_ok k4 (hf'.mono k1.le) k2
            refine ⟨fun r hr hn hwt hrun => ?_,ih (Nat.lor m (2 ^ j)) (listed.setIfInBounds j true) _ fr2 kb' _ W' _ E' L (hm.set j) (hcl.set hj) (hs.trans k1) hf2 (fun r hr hn => ?_) h4⟩
            · obtain ⟨l,hl,hlo⟩:=hL r hr hn
              obtain ⟨t,ht,hk⟩:=k5 l hl
              exact (hlo.quiet (τ:=τ) k1.le hs.inv hext ht hk).2.1
            · obtain ⟨l,hl,hlo⟩:=hL r hr (noWaiter_unset hn)
              have hwl : waits P ops j l.i = false:=by rw [← hlo.1]; exact noWaiter_waits hltj heag hn
              obtain ⟨t,ht,hk⟩:=k5 l hl
              exact ⟨l,List.mem_filter.2 ⟨hl,by simp [hwl]⟩,hlo.quiet k1.le hs.inv hext ht hk⟩
          refine .inl (Oper.wp_mono (fun a' W' ha => ?_) (opK_ok hX h hf' hs.inv Q))
          obtain ⟨σ',E',kb',v,x,k1,k2,rfl,k3⟩:=ha
          obtain ⟨k4,k5⟩:=locksK_ok k3
          obtain ⟨τ,rfl⟩:=k1.pre
          obtain ⟨fr2,hf2,h4⟩:=putK_ok k4 (hf'.mono k1.le) k2
          refine ⟨fun r hr hn hwt hrun => ?_,ih (Nat.lor m (2 ^ j)) (listed.setIfInBounds j true) _ fr2 kb' _ W' _ E' L (hm.set j) (hcl.set hj) (hs.trans k1) hf2 (fun r hr hn => ?_) h4⟩
          · obtain ⟨l,hl,hlo⟩:=hL r hr hn
            have hwl : waits P ops j l.i = false:=by rw [← hlo.1]; exact hwt
            exact ((hlo.step k1.le hs.inv.imm k1.inv (k5 l hl hwl)).2.1)
          · obtain ⟨l,hl,hlo⟩:=hL r hr (noWaiter_unset hn)
            have hwl : waits P ops j l.i = false:=by rw [← hlo.1]; exact noWaiter_waits hltj heag hn
            exact ⟨l,List.mem_filter.2 ⟨hl,by simp [hwl]⟩,hlo.step k1.le hs.inv.imm k1.inv (k5 l hl hwl)⟩
        · rw [if_neg (by simp [hw])]
          obtain ⟨fr2,hf2,h4⟩:=putK_ok h hf' (σ:=σ) (E:=E) (x:=undef) (by simp [Den])
          exact ⟨fun r hr hn hwt hrun => hrun,ih (Nat.lor m (2 ^ j)) (listed.setIfInBounds j true) _ fr2 kb _ W σ E L (hm.set j) (hcl.set hj) hs hf2 (fun r hr hn => by
            obtain ⟨l,hl,hlo⟩:=hL r hr (noWaiter_unset hn)
            have hwl : waits P ops j l.i = false:=by rw [← hlo.1]; exact noWaiter_waits hltj heag hn
            exact ⟨l,List.mem_filter.2 ⟨hl,by simp [hwl]⟩,hlo⟩) h4⟩
end Vc
set_option linter.unusedSimpArgs false
set_option linter.unusedVariables false
namespace Vc
open Go
mutual
def V.ren (ρ : Nat→Option Nat) : V→Option V
  | .ptr i off => match ρ i with | some j => some (.ptr j off) | none => none
  | .mp i => match ρ i with | some j => some (.mp j) | none => none
  | .ch i => match ρ i with | some j => some (.ch j) | none => none
  | .pa i base o => match ρ i with | some j => some (.pa j base o) | none => none
  | .pw i ix => match ρ i with | some j => some (.pw j ix) | none => none
  | .sa i base o s n c => match ρ i with | some j => some (.sa j base o s n c) | none => none
  | .se i ix o s n c => match ρ i with | some j => some (.se j ix o s n c) | none => none
  | .sl i lo hi => match ρ i with | some j => some (.sl j lo hi) | none => none
  | .pe i ix fld => match ρ i with | some j => some (.pe j ix fld) | none => none
  | .agg l => match V.rens ρ l with | some l' => some (.agg l') | none => none
  | .tup l => match V.rens ρ l with | some l' => some (.tup l') | none => none
  | .fn f l => match V.rens ρ l with | some l' => some (.fn f l') | none => none
  | .tt => some (.sb true)
  | .ff => some (.sb false)
  | .lit k n => some (.int k n)
  | v => some v
def V.rens (ρ : Nat→Option Nat) : List V→Option (List V)
  | [] => some []
  | v :: vs => match V.ren ρ v with
    | some v' => match V.rens ρ vs with | some vs' => some (v' :: vs') | none => none
    | none => none
end
mutual
theorem Den.ren {ρ : Nat→Option Nat} {σ σ' : Sg} {E : EH} (hρ : ∀ i j r,ρ i = some j→σ[i]? = some r→σ'[j]? = some r) : ∀ {v v' : V} {x : Value},V.ren ρ v = some v'→Den σ E v x→Den σ' E v' x
  | .any _,_,_,h,hd | .int ..,_,_,h,hd | .lit ..,_,_,h,hd | .sb _,_,_,h,hd | .tt,_,_,h,hd | .ff,_,_,h,hd | .e0,_,_,h,hd | .ipe ..,_,_,h,hd | .ipo _,_,_,h,hd | .imp ..,_,_,h,hd | .dat _,_,_,h,hd => by
    simp only [V.ren,Option.some.injEq] at h; subst h; simpa only [Den] using hd
  | .arr ..,_,_,h,hd => by simp only [Den] at hd
  | .ptr i off,v',x,h,hd => by
    simp only [V.ren] at h
    split at h
    · rename_i j hj; cases h
      simp only [Den] at hd ⊢
      obtain ⟨r,h1,h2⟩:=hd
      exact ⟨r,hρ i j r hj h1,h2⟩
    · cases h
  | .pa i base o,v',x,h,hd => by
    simp only [V.ren] at h
    split at h
    · rename_i j hj; cases h
      simp only [Den] at hd ⊢
      obtain ⟨r,h1,h2⟩:=hd
      exact ⟨r,hρ i j r hj h1,h2⟩
    · cases h
  | .pe i ix fld,v',x,h,hd => by
    simp only [V.ren] at h
    split at h
    · rename_i j hj; cases h
      simp only [Den] at hd ⊢
      obtain ⟨r,h1,h2⟩:=hd
      exact ⟨r,hρ i j r hj h1,h2⟩
    · cases h
  | .pw i ix,v',x,h,hd => by
    simp only [V.ren] at h
    split at h
    · rename_i j hj; cases h
      simp only [Den] at hd ⊢
      obtain ⟨r,h1,h2⟩:=hd
      exact ⟨r,hρ i j r hj h1,h2⟩
    · cases h
  | .mp i,v',x,h,hd => by
    simp only [V.ren] at h
    split at h
    · rename_i j hj; cases h
      simp only [Den] at hd ⊢
      obtain ⟨r,h1,h2⟩:=hd
      exact ⟨r,hρ i j r hj h1,h2⟩
    · cases h
  | .ch i,v',x,h,hd => by
    simp only [V.ren] at h
    split at h
    · rename_i j hj; cases h
      simp only [Den] at hd ⊢
      obtain ⟨r,h1,h2⟩:=hd
      exact ⟨r,hρ i j r hj h1,h2⟩
    · cases h
  | .sl i lo hi,v',x,h,hd => by
    simp only [V.ren] at h
    split at h
    · rename_i j hj; cases h
      simp only [Den] at hd ⊢
      obtain ⟨r,a,h1,h2⟩:=hd
      exact ⟨r,a,hρ i j r hj h1,h2⟩
    · cases h
  | .sa i base o s n c,v',x,h,hd => by
    simp only [V.ren] at h
    split at h
    · rename_i j hj; cases h
      simp only [Den] at hd ⊢
      obtain ⟨r,a,h1,h2⟩:=hd
      exact ⟨r,a,hρ i j r hj h1,h2⟩
    · cases h
  | .se i ix o s n c,v',x,h,hd => by
    simp only [V.ren] at h
    split at h
    · rename_i j hj; cases h
      simp only [Den] at hd ⊢
      obtain ⟨r,a,h1,h2⟩:=hd
      exact ⟨r,a,hρ i j r hj h1,h2⟩
    · cases h
  | .agg l,v',x,h,hd => by
    simp only [V.ren] at h
    split at h
    · rename_i l' hl; cases h
      simp only [Den] at hd ⊢
      obtain ⟨vs,h1,h2⟩:=hd
      exact ⟨vs,h1,DenC.ren hρ hl h2⟩
    · cases h
  | .tup l,v',x,h,hd => by
    simp only [V.ren] at h
    split at h
    · rename_i l' hl; cases h
      simp only [Den] at hd ⊢
      obtain ⟨vs,h1,h2⟩:=hd
      exact ⟨vs,h1,DenL.ren hρ hl h2⟩
    · cases h
  | .fn f l,v',x,h,hd => by
    simp only [V.ren] at h
    split at h
    · rename_i l' hl; cases h
      simp only [Den] at hd ⊢
      obtain ⟨vs,h1,h2⟩:=hd
      exact ⟨vs,h1,DenL.ren hρ hl h2⟩
    · cases h
theorem DenL.ren {ρ : Nat→Option Nat} {σ σ' : Sg} {E : EH} (hρ : ∀ i j r,ρ i = some j→σ[i]? = some r→σ'[j]? = some r) : ∀ {vs vs' : List V} {xs : List Value},V.rens ρ vs = some vs'→DenL σ E vs xs→DenL σ' E vs' xs
  | [],_,_,h,hd => by simp only [V.rens,Option.some.injEq] at h; subst h; simpa only [DenL] using hd
  | v :: vs,_,_,h,hd => by
    simp only [V.rens] at h
    split at h
    · rename_i v' hv
      split at h
      · rename_i us hus; cases h
        simp only [DenL] at hd ⊢
        obtain ⟨x,xs',h1,h2,h3⟩:=hd
        exact ⟨x,xs',h1,Den.ren hρ hv h2,DenL.ren hρ hus h3⟩
      · cases h
    · cases h
theorem DenC.ren {ρ : Nat→Option Nat} {σ σ' : Sg} {E : EH} (hρ : ∀ i j r,ρ i = some j→σ[i]? = some r→σ'[j]? = some r) : ∀ {vs vs' : List V} {xs : List Value},V.rens ρ vs = some vs'→DenC σ E vs xs→DenC σ' E vs' xs
  | [],_,_,h,hd => by simp only [V.rens,Option.some.injEq] at h; subst h; simpa only [DenC] using hd
  | v :: vs,_,_,h,hd => by
    simp only [V.rens] at h
    split at h
    · rename_i v' hv
      split at h
      · rename_i us hus; cases h
        simp only [DenC] at hd ⊢
        obtain ⟨ys,zs,h1,h2,h3⟩:=hd
        refine ⟨ys,zs,h1,?_,DenC.ren hρ hus h3⟩
        rcases h2 with ⟨y,e,o,hy⟩ | ⟨m,cs,e,hl,hD⟩
        · exact .inl ⟨y,e,o,Den.ren hρ hv hy⟩
        · subst e
          simp only [V.ren,Option.some.injEq] at hv
          subst hv
          exact .inr ⟨m,cs,rfl,hl,hD⟩
      · cases h
    · cases h
end
def KO.ren (ρ : Nat→Option Nat) : KO→Option KO
  | .cells l => match V.rens ρ l with | some l' => some (.cells l') | none => none
  | .row ty sz l => some (.row ty sz l)
  | .mp kks kagg agg sz l => some (.mp kks kagg agg sz l)
  | .ch agg sz cap l => some (.ch agg sz cap l)
  | .objs A => some (.objs A)
  | .obj1 a => some (.obj1 a)
  | .dead => some .dead
theorem HoldsO.ren {ρ : Nat→Option Nat} {σ σ' : Sg} {E : EH} {W : World} (hρ : ∀ i j r,ρ i = some j→σ[i]? = some r→σ'[j]? = some r) {o o' : KO} {r : Re} (h : KO.ren ρ o = some o') (hh : HoldsO σ E W r o) : HoldsO σ' E W r o':=by
  cases o with
  | cells l =>
    simp only [KO.ren] at h
    split at h
    · rename_i l' hl; cases h
      obtain ⟨arr,ty,h1,h2⟩:=hh
      exact ⟨arr,ty,h1,DenC.ren hρ hl h2⟩
    · cases h
  | row ty sz l => simp only [KO.ren,Option.some.injEq] at h; subst h; exact hh
  | mp kks kagg agg sz l => simp only [KO.ren,Option.some.injEq] at h; subst h; exact hh
  | ch agg sz cap l => simp only [KO.ren,Option.some.injEq] at h; subst h; exact hh
  | objs A => simp only [KO.ren,Option.some.injEq] at h; subst h; exact hh
  | obj1 a => simp only [KO.ren,Option.some.injEq] at h; subst h; exact hh
  | dead => simp only [KO.ren,Option.some.injEq] at h; subst h; trivial
theorem owned_ren {ρ : Nat→Option Nat} {o o' : KO} {r : Re} (h : KO.ren ρ o = some o') {b : Nat} : owned r o' b ↔ owned r o b:=by
  cases o with
  | cells l =>
    simp only [KO.ren] at h
    split at h
    · cases h; exact Iff.rfl
    · cases h
  | row ty sz l => simp only [KO.ren,Option.some.injEq] at h; subst h; exact Iff.rfl
  | mp kks kagg agg sz l => simp only [KO.ren,Option.some.injEq] at h; subst h; exact Iff.rfl
  | ch agg sz cap l => simp only [KO.ren,Option.some.injEq] at h; subst h; exact Iff.rfl
  | objs A => simp only [KO.ren,Option.some.injEq] at h; subst h; exact Iff.rfl
  | obj1 a => simp only [KO.ren,Option.some.injEq] at h; subst h; exact Iff.rfl
  | dead => simp only [KO.ren,Option.some.injEq] at h; subst h; exact Iff.rfl
def idx : List Nat→Nat→Option Nat
  | [],_ => none
  | a :: l,i => match Nat.beq a i with
    | true => some 0
    | false => match idx l i with | some k => some (k + 1) | none => none
theorem idx_spec : ∀ {l : List Nat} {i k : Nat},idx l i = some k→l[k]? = some i
  | [],_,_,h => by simp [idx] at h
  | a :: l,i,k,h => by
    simp only [idx] at h
    split at h
    · rename_i hb
      cases h
      simp [Nat.eq_of_beq_eq_true hb]
    · split at h
      · rename_i j hj
        cases h
        simpa using idx_spec hj
      · cases h
def memB (l : List Nat) (i : Nat) : Bool:=match idx l i with | some _ => true | none => false
def nodupB : List Nat→Bool
  | [] => true
  | a :: l => match memB l a with | true => false | false => nodupB l
theorem idx_of_mem : ∀ {l : List Nat} {i : Nat},i ∈ l→∃ k,idx l i = some k
  | a :: l,i,h => by
    simp only [idx]
    split
    · exact ⟨0,rfl⟩
    · rename_i hb
      rcases List.mem_cons.1 h with rfl | h
      · simp at hb
      · obtain ⟨k,hk⟩:=idx_of_mem h
        exact ⟨k + 1,by rw [hk]⟩
theorem nodupB_ok : ∀ {l : List Nat},nodupB l = true→l.Nodup
  | [],_ => List.nodup_nil
  | a :: l,h => by
    simp only [nodupB] at h
    split at h
    · cases h
    · rename_i hm
      refine List.nodup_cons.2 ⟨fun hin => ?_,nodupB_ok h⟩
      obtain ⟨k,hk⟩:=idx_of_mem hin
      simp [memB,hk] at hm
def selKB (ρ : Nat→Option Nat) (kb : KB) : List Nat→Option KB
  | [] => some []
  | i :: is => match kb[i]? with
    | some o => match KO.ren ρ o with
      | some o' => match selKB ρ kb is with | some r => some (o' :: r) | none => none
      | none => none
    | none => none
theorem selKB_ok {ρ : Nat→Option Nat} {kb : KB} : ∀ {order : List Nat} {r : KB},selKB ρ kb order = some r→r.length = order.length∧∀ (k i : Nat),order[k]? = some i→∃ (o o' : KO),kb[i]? = some o∧KO.ren ρ o = some o'∧r[k]? = some o'
  | [],r,h => by simp only [selKB,Option.some.injEq] at h; subst h; simp
  | i :: is,r,h => by
    simp only [selKB] at h
    split at h <;> try (cases h; done)
    rename_i o ho
    split at h <;> try (cases h; done)
    rename_i o' ho'
    split at h <;> try (cases h; done)
    rename_i r' hr'
    cases h
    obtain ⟨h1,h2⟩:=selKB_ok hr'
    refine ⟨by simp [h1],fun k j hk => ?_⟩
    cases k with
    | zero => simp at hk; subst hk; exact ⟨o,o',ho,ho',rfl⟩
    | succ k => simpa using h2 k j (by simpa using hk)
def re0 : Re:=⟨0,0,0⟩
def selSg (σ : Sg) (order : List Nat) : Sg:=order.map fun i => (σ[i]?).getD re0
theorem Inv.sel {σ : Sg} {E : EH} {kb : KB} {W : World} (h : Inv σ E kb W) {order : List Nat} {kb' : KB} (hn : nodupB order = true) (hs : selKB (idx order) kb order = some kb') :
    Inv (selSg σ order) E kb' W∧(∀ b,Owns (selSg σ order) kb' b→Owns σ kb b)∧(∀ i j r,idx order i = some j→σ[i]? = some r→(selSg σ order)[j]? = some r):=by
  obtain ⟨hl,hget⟩:=selKB_ok hs
  have hnd:=nodupB_ok hn
  have hρ : ∀ i j r,idx order i = some j→σ[i]? = some r→(selSg σ order)[j]? = some r:=fun i j r hi hr => by
    simp [selSg,idx_spec hi,hr]
  have hback : ∀ (k : Nat) (r : Re) (o' : KO),(selSg σ order)[k]? = some r→kb'[k]? = some o'→∃ i o,order[k]? = some i∧σ[i]? = some r∧kb[i]? = some o∧KO.ren (idx order) o = some o':=by
    intro k r o' h1 h2
    simp only [selSg,List.getElem?_map,Option.map_eq_some_iff] at h1
    obtain ⟨i,hi,hr⟩:=h1
    obtain ⟨o,o2,ho,ho2,hk⟩:=hget k i hi
    rw [h2] at hk; cases hk
    have hlt : i < σ.length:=by
      rw [h.len]
      exact (List.getElem?_eq_some_iff.1 ho).1
    rw [List.getElem?_eq_getElem hlt] at hr
    simp at hr
    exact ⟨i,o,hi,by rw [List.getElem?_eq_getElem hlt,hr],ho,ho2⟩
  have hown : ∀ b,Owns (selSg σ order) kb' b→Owns σ kb b:=by
    rintro b ⟨k,r,o',h1,h2,h3⟩
    obtain ⟨i,o,_,hr,ho,ho2⟩:=hback k r o' h1 h2
    exact ⟨i,r,o,hr,ho,(owned_ren ho2).1 h3⟩
  refine ⟨⟨by simp [selSg,hl],fun k r o' h1 h2 => ?_,fun k m r1 r2 o1 o2 b hkm h1 h2 h3 h4 h5 h6 => ?_,h.imm,fun b hb => h.sep b (hown b hb)⟩,hown,hρ⟩
  · obtain ⟨i,o,_,hr,ho,ho2⟩:=hback k r o' h1 h2
    exact (h.obj i r o hr ho).ren hρ ho2
  · obtain ⟨i,o,hi,hr,ho,ho2⟩:=hback k r1 o1 h1 h2
    obtain ⟨j,p,hj,hr',hp,hp2⟩:=hback m r2 o2 h3 h4
    have hij : i ≠ j:=fun e => by
      subst e
      have hk:=(List.getElem?_eq_some_iff.1 hi).1
      have hm:=(List.getElem?_eq_some_iff.1 hj).1
      rw [List.getElem?_eq_getElem hk] at hi
      rw [List.getElem?_eq_getElem hm] at hj
      simp at hi hj
      exact hkm ((List.getElem_inj hnd).1 (hi.trans hj.symm))
    exact h.disj i j r1 r2 o p b hij hr ho hr' hp ((owned_ren ho2).1 h5) ((owned_ren hp2).1 h6)
mutual
def V.refs : V→List Nat
  | .ptr i _ => [i]
  | .sl i _ _ => [i]
  | .pe i _ _ => [i]
  | .pa i _ _ => [i]
  | .pw i _ => [i]
  | .sa i _ _ _ _ _ => [i]
  | .se i _ _ _ _ _ => [i]
  | .mp i => [i]
  | .ch i => [i]
  | .agg l => V.refsL l
  | .tup l => V.refsL l
  | .fn _ l => V.refsL l
  | _ => []
def V.refsL : List V→List Nat
  | [] => []
  | v :: vs => V.refs v ++ V.refsL vs
end
def KO.refs : KO→List Nat
  | .cells l => V.refsL l
  | _ => []
def addAll : List Nat→List Nat→List Nat
  | o,[] => o
  | o,i :: is => match memB o i with | true => addAll o is | false => addAll (o ++ [i]) is
def reach (kb : KB) : Nat→List Nat→Nat→List Nat
  | 0,o,_ => o
  | f + 1,o,p => match o[p]? with
    | none => o
    | some i => match kb[i]? with
      | some x => reach kb f (addAll o x.refs) (p + 1)
      | none => o
def natsEq : List Nat→List Nat→Bool
  | [],[] => true
  | a :: l,b :: m => match Nat.beq a b with | true => natsEq l m | false => false
  | _,_ => false
theorem natsEq_ok : ∀ {l m : List Nat},natsEq l m = true→l = m
  | [],[],_ => rfl
  | a :: l,b :: m,h => by
    simp only [natsEq] at h
    split at h
    · rename_i hb; rw [Nat.eq_of_beq_eq_true hb,natsEq_ok h]
    · cases h
  | [],_ :: _,h => by simp [natsEq] at h
  | _ :: _,[],h => by simp [natsEq] at h
def poolIx : KB→Nat→List Nat
  | [],_ => []
  | .objs _ :: kb,i => i :: poolIx kb (i + 1)
  | _ :: kb,i => poolIx kb (i + 1)
def canonP (pl : Bool) (n0 : Nat) (vals : List V) (kb : KB) : Option (List V × KB × List Nat) :=
  let o1:=reach kb (kb.length + 1) (List.range n0) 0
  let o3:=reach kb (kb.length + 1) (addAll o1 (V.refsL vals)) o1.length
  let o2:=match pl with | true => addAll o3 (poolIx kb 0) | false => o3
  match nodupB o2,natsEq (o2.take n0) (List.range n0) with
  | true,true => match V.rens (idx o2) vals,selKB (idx o2) kb o2 with
    | some vs,some kb' => some (vs,kb',o2)
    | _,_ => none
  | _,_ => none
theorem canonP_ok {pl : Bool} {n0 : Nat} {vals : List V} {kb : KB} {vs : List V} {kb' : KB} {o : List Nat} (h : canonP pl n0 vals kb = some (vs,kb',o)) :
    nodupB o = true∧o.take n0 = List.range n0∧V.rens (idx o) vals = some vs∧selKB (idx o) kb o = some kb':=by
  unfold canonP at h
  simp only at h
  split at h
  · rename_i h1 h2
    split at h
    · rename_i vs' kb'' h3 h4
      simp only [Option.some.injEq,Prod.mk.injEq] at h
      obtain ⟨rfl,rfl,rfl⟩:=h
      exact ⟨h1,natsEq_ok h2,h3,h4⟩
    · cases h
  · cases h
def canon (n0 : Nat) (vals : List V) (kb : KB) : Option (List V × KB × List Nat):=canonP true n0 vals kb
theorem canon_ok {n0 : Nat} {vals : List V} {kb : KB} {vs : List V} {kb' : KB} {o : List Nat} (h : canon n0 vals kb = some (vs,kb',o)) :
    nodupB o = true∧o.take n0 = List.range n0∧V.rens (idx o) vals = some vs∧selKB (idx o) kb o = some kb':=canonP_ok h
theorem Step.sel {c : Cx} {σ : Sg} {E : EH} {kb : KB} {W : World} (h : Step c.σ c.E c.kb c.W σ E kb W) {vals : List V} {vs : List V} {kb' : KB} {o : List Nat} (hc : canon c.σ.length vals kb = some (vs,kb',o)) {xs : List Value} (hd : DenL σ E vals xs) :
    ∃ σ',Step c.σ c.E c.kb c.W σ' E kb' W∧DenL σ' E vs xs:=by
  obtain ⟨h1,h2,h3,h4⟩:=canon_ok hc
  obtain ⟨k1,k2,k3⟩:=h.inv.sel h1 h4
  refine ⟨selSg σ o,⟨k1,h.stp,?_,h.le,fun b hb => h.own b (k2 b hb),h.new⟩,DenL.ren k3 h3 hd⟩
  obtain ⟨τ,hτ⟩:=h.pre
  refine ⟨(selSg σ o).drop c.σ.length,?_⟩
  have e : (selSg σ o).take c.σ.length = c.σ:=by
    unfold selSg
    rw [← List.map_take,h2,hτ]
    apply List.ext_getElem?
    intro i
    rcases Nat.lt_or_ge i c.σ.length with hi | hi
    · rw [List.getElem?_map,List.getElem?_range hi]
      simp [List.getElem?_append_left hi,List.getElem?_eq_getElem hi]
    · rw [List.getElem?_eq_none (by simp; exact hi),List.getElem?_eq_none hi]
  conv => lhs; rw [← List.take_append_drop c.σ.length (selSg σ o),e]
end Vc
set_option linter.unusedSimpArgs false
set_option linter.unusedVariables false
namespace Vc
open Go Go.Conc
def selK (P : Program) (cases : Array SelectCase) (fr : Fr) (kb : KB) (K : V→KB→Prop) : Prop :=
  match cases.toList with
  | [s] => match ev fr s.chan with
    | some (.ch i) => match s.send with
      | some y => match evR fr y with | some v => sendK P s.elem i v kb K | none => False
      | none => recvK P s.elem i kb K
    | _ => False
  | _ => False
def seqXK (P : Program) (X : CallT) (n : Nat) (ops : Array Oper) : List Oper→(Fr→KB→Prop)→Fr→KB→Prop
  | [],K,fr,kb => K fr kb
  | o :: rest,K,fr,kb => match o.op with
    | .select cases false => match o.guard with
      | none => selK P cases fr kb (fun v kb' => putK n o.dst v fr (fun fr' => seqXK P X n ops rest K fr' kb'))
      | some _ => False
    | _ => guardK ops o fr (fun fr => opK P X o fr kb (fun v kb' => putK n o.dst v fr (fun fr' => seqXK P X n ops rest K fr' kb')))
      (fun fr => putK n o.dst (.any undef) fr (fun fr' => seqXK P X n ops rest K fr' kb))
theorem op_goes {P : Program} {ops : Array Oper} {i : Nat} {rest : List Nat} {o : Oper} {a : Act} {w : World} {K : Act→World→Prop} (ho : ops[i]? = some o) (hw : Region.wanted o (yielded ops a.tmps) = true)
    (h : o.wp P a w K (fun _ _ _ => False)) (b : Frame) (k : List Item) (cs : List Frame) :
    ∃ a' w',K a' w'∧Steps P (lone (b.at a (.inRegion ops (i :: rest) :: k)) cs w) (lone (b.at a' (.inRegion ops rest :: k)) cs w'):=by
  have hg:=stepG_op (P:=P) (b:=b) (k:=k) (cs:=cs) (w:=w) (rest:=rest) ho hw
  have hfin : ∀ (a : Act) (v : Value),(b.at a (.inRegion ops (i :: rest) :: k)).finish v = b.at (a.put o.dst v) (.inRegion ops rest :: k):=fun a v => by
    rw [Frame.finish_at,ho]; rfl
  unfold Oper.wp at h
  generalize hr : (execOp a.eval o).run P w = r at h
  cases r with
  | halt x w' => cases x <;> exact h.elim
  | ok x w' =>
    cases x with
    | value v =>
      exact ⟨_,w',h,.one (step_lone_go (by rw [hg,← hfin]; simp [stepG.apply,hr]))⟩
    | skip =>
      exact ⟨_,w',h,.one (step_lone_go (by rw [hg,← hfin]; simp [stepG.apply,hr]))⟩
    | defer d =>
      refine ⟨_,w',h,.one (step_lone_go ?_)⟩
      have e:=hfin { a with defers:=d :: a.defers } undef
      rw [hg,← e]
      simp only [stepG.apply,Sem.runT_eq,hr,GStep.bare_after]
      rfl
    | enter f args =>
      simp only [Oper.upon] at h
      obtain ⟨e,w2,fr,hR,hsteps,_,hleave⟩:=h (b.at a (.inRegion ops (i :: rest) :: k) :: cs)
      have henter : step P (lone (b.at a (.inRegion ops (i :: rest) :: k)) cs w) = .next (lone (Frame.enter P f args .normal) (b.at a (.inRegion ops (i :: rest) :: k) :: cs) w') :=
        step_lone_go (by rw [hg]; simp [stepG.apply,hr,Frame.at])
      cases e with
      | returned v =>
        refine ⟨_,w2,hR,.head henter (hsteps.trans (.one ?_))⟩
        rw [← hfin]; exact step_leave_returned hleave
      | panicked ch => exact hR.elim
      | outgrown => obtain ⟨_,_,hq⟩:=hR; exact hq.elim
    | row r args =>
      simp only [Oper.upon] at h
      obtain ⟨v,w2,hR,hsteps⟩:=h (b.at a (.inRegion ops (i :: rest) :: k)) cs
      have henter : step P (lone (b.at a (.inRegion ops (i :: rest) :: k)) cs w) = .next (lone (Frame.ofRow P r args .normal) (b.at a (.inRegion ops (i :: rest) :: k) :: cs) w') :=
        step_lone_go (by rw [hg]; simp [stepG.apply,hr,Frame.at])
      refine ⟨_,w2,hR,.head henter ?_⟩
      rw [← hfin]; exact hsteps
    | _ => exact h.elim
def wpX (P : Program) (ops : Array Oper) (Q : Act→World→Prop) : List Nat→Act→World→Prop
  | [],a,w => Q a w
  | i :: rest,a,w => ∀ (b : Frame) (k : List Item) (cs : List Frame),∃ a' w',wpX P ops Q rest a' w' ∧
      Steps P (lone (b.at a (.inRegion ops (i :: rest) :: k)) cs w) (lone (b.at a' (.inRegion ops rest :: k)) cs w')
theorem wpX_goes {P : Program} {ops : Array Oper} {Q : Act→World→Prop} (b : Frame) (k : List Item) (cs : List Frame) : ∀ {l : List Nat} {a : Act} {w : World},wpX P ops Q l a w →
    ∃ a' w',Q a' w'∧Steps P (lone (b.at a (.inRegion ops l :: k)) cs w) (lone (b.at a' k) cs w')
  | [],a,w,h => ⟨a,w,h,.one step_region_end⟩
  | i :: rest,a,w,h => by
    obtain ⟨a1,w1,h1,s1⟩:=h b k cs
    obtain ⟨a2,w2,h2,s2⟩:=wpX_goes b k cs h1
    exact ⟨a2,w2,h2,s1.trans s2⟩
theorem wp_regionX {P : Program} {id : Nat} {ops : Array Oper} {Q : Exit→Act→World→Prop} {a : Act} {w : World} (h : wpX P ops (Q .normal) (List.range ops.size) a w) : (Code.region id ops false).wp P Q a w:=fun b k cs => by
  obtain ⟨a',w',hq,hs⟩:=wpX_goes b k cs h
  exact ⟨.normal,a',w',hq,.head step_region hs⟩
theorem stepG_commE {P : Program} {b : Frame} {a : Act} {k : List Item} {cs : List Frame} {w : World} {ops : Array Oper} {i : Nat} {rest : List Nat} {o : Oper} {cases : Array CommCase} {blocking : Bool} {shape : CommShape} {w' : World} (ho : ops[i]? = some o) (hw : Region.wanted o (yielded ops a.tmps) = true)
    (hr : (execOp a.eval o).run P w = .ok (.comm cases blocking shape) w') :
    ∃ es,stepG P true (G (b.at a (.inRegion ops (i :: rest) :: k)) cs) w = .comm (G (b.at a (.inRegion ops (i :: rest) :: k)) cs) cases blocking shape w' es:=by
  rw [stepG_oper ho hw]
  simp only [stepG.apply,Sem.runT_eq,hr,if_true,G]
  exact ⟨_,rfl⟩
theorem selK_ok {P : Program} {cases : Array SelectCase} {fr : Fr} {kb : KB} {K : V→KB→Prop} (h : selK P cases fr kb K) {σ : Sg} {E : EH} {n : Nat} {a : Act} (hf : FrOk σ E fr n a) {W : World} (hi : Inv σ E kb W)
    {o : Oper} (hop : o.op = .select cases false) {ops : Array Oper} {i : Nat} {rest : List Nat} (ho : ops[i]? = some o) (hw : Region.wanted o (yielded ops a.tmps) = true) (b : Frame) (k : List Item) (cs : List Frame) :
    ∃ a' W',After σ E kb W a o K a' W'∧Steps P (lone (b.at a (.inRegion ops (i :: rest) :: k)) cs W) (lone (b.at a' (.inRegion ops rest :: k)) cs W'):=by
  have hfin : ∀ (v : Value),(b.at a (.inRegion ops (i :: rest) :: k)).finish v = b.at (a.put o.dst v) (.inRegion ops rest :: k):=fun v => by
    rw [Frame.finish_at,ho]; rfl
  unfold selK at h
  split at h <;> try exact h.elim
  rename_i s hs
  have hcs : cases = #[s]:=by
    have:=congrArg List.toArray hs
    simpa using this
  subst hcs
  split at h <;> try exact h.elim
  rename_i ci hch
  have hc:=ev_ok hf hch
  simp only [Den] at hc
  obtain ⟨r,hr,hc⟩:=hc
  split at h
  · rename_i y hy
    split at h <;> try exact h.elim
    rename_i v hv
    have hx:=evR_ok hf hv
    obtain ⟨cap,buf,sn,rr,z,g1,g2,g3,g4⟩:=sendK_ok h hi hr hx
    have hrun : (execOp a.eval o).run P W = .ok (.comm #[scase r.blk (a.eval y) z] false .select) W:=by
      simp [execOp,hop,hc,hy,g2,scase]
    obtain ⟨es,hG⟩:=stepG_commE (b:=b) (k:=k) (cs:=cs) (rest:=rest) ho hw hrun
    by_cases hroom : buf.size < cap
    · obtain ⟨E',kb',s1,hK⟩:=g3 hroom
      have hstep:=step_lone_select_send_room hG g1 hroom
      rw [hfin] at hstep
      refine ⟨_,_,⟨σ,E',kb',_,_,s1,?_,rfl,hK⟩,.one hstep⟩
      simp only [Den]
      exact ⟨[goInt 0,.bool false],rfl,.cons (by simp [Den,goInt]) (.cons (by simp [Den]) .nil)⟩
    · obtain ⟨E',kb',s1,hK⟩:=g4 hroom
      have hstep:=step_lone_select_send_full hG g1 (by omega)
      rw [hfin] at hstep
      refine ⟨_,_,⟨σ,E',kb',_,_,s1,?_,rfl,hK⟩,.one hstep⟩
      simp only [Den]
      exact ⟨[goInt (-1),.bool false],rfl,.cons (by simp [Den,goInt]) (.cons (by simp [Den]) .nil)⟩
  · rename_i hy
    obtain ⟨cap,buf,sn,rr,z,g1,g2,g3,g4⟩:=recvK_ok h hi hr
    have hrun : (execOp a.eval o).run P W = .ok (.comm #[rcase r.blk z] false .select) W:=by
      simp [execOp,hop,hc,hy,g2,rcase]
    obtain ⟨es,hG⟩:=stepG_commE (b:=b) (k:=k) (cs:=cs) (rest:=rest) ho hw hrun
    by_cases hsome : 0 < buf.size
    · obtain ⟨u,kb',s1,hu,hK⟩:=g3 hsome
      have hstep:=step_lone_select_recv_buf hG g1 hsome
      rw [hfin] at hstep
      refine ⟨_,_,⟨σ,E,kb',_,_,s1,?_,rfl,hK⟩,.one hstep⟩
      simp only [Den]
      exact ⟨[goInt 0,.bool true,buf.getD 0 undef],rfl,.cons (by simp [Den,goInt]) (.cons (by simp [Den]) (.cons hu .nil))⟩
    · have hb : buf = #[]:=Array.size_eq_zero_iff.1 (by omega)
      obtain ⟨u,hu,hK⟩:=g4 hb
      subst hb
      have hstep:=step_lone_select_default hG g1
      rw [hfin] at hstep
      refine ⟨_,_,⟨σ,E,kb,_,_,Step.refl hi,?_,rfl,hK⟩,.one hstep⟩
      simp only [Den]
      exact ⟨[goInt (-1),.bool false,z],rfl,.cons (by simp [Den,goInt]) (.cons (by simp [Den]) (.cons hu .nil))⟩
theorem seqXK_ok {P : Program} {X : CallT} (hX : CallOk P X) {c : Cx} {n : Nat} {ops : Array Oper} {Q : Act→World→Prop} {K : Fr→KB→Prop} (hQ : ∀ a W,Hat c n K a W→Q a W) :
    ∀ {l : List Oper} {j : Nat} {a : Act} {W : World},(∀ m,l[m]? = ops[j + m]?)→Hat c n (seqXK P X n ops l K) a W→wpX P ops Q (List.range' j l.length) a W
  | [],j,a,W,hl,h => hQ a W h
  | o :: rest,j,a,W,hl,h => by
    have ho : ops[j]? = some o:=by have:=hl 0; simpa using this.symm
    have hrest : ∀ m,rest[m]? = ops[j + 1 + m]?:=fun m => by
      have:=hl (m + 1)
      rw [show j + 1 + m = j + (m + 1) by omega]
      simpa using this
    obtain ⟨σ,E,fr,kb,hs,hf,h⟩:=h
    rw [List.length_cons,List.range'_succ]
    unfold wpX
    intro b k cs
    unfold seqXK at h
    split at h
    · rename_i cases hop
      split at h <;> try exact h.elim
      rename_i hgu
      obtain ⟨a',W',hA,hst⟩:=selK_ok h hf hs.inv hop ho (by simp [Region.wanted,hgu]) b k cs (rest:=List.range' (j + 1) rest.length)
      exact ⟨a',W',seqXK_ok hX hQ hrest (hA.hat hs hf),hst⟩
    · obtain ⟨fr',hf',h | h⟩:=guardK_ok h hf
      · obtain ⟨a',W',hA,hst⟩:=op_goes ho h.1 (opK_ok hX h.2 hf' hs.inv _) b k cs (rest:=List.range' (j + 1) rest.length)
        exact ⟨a',W',seqXK_ok hX hQ hrest (hA.hat hs hf'),hst⟩
      · obtain ⟨fr2,h1,h2⟩:=putK_ok h.2 hf' (σ:=σ) (E:=E) (x:=undef) (by simp [Den])
        have hst:=step_op_skip (P:=P) (b:=b) (a:=a) (k:=k) (cs:=cs) (w:=W) (ops:=ops) (i:=j) (rest:=List.range' (j + 1) rest.length) (by simp [ho,h.1])
        simp only [ho,Option.bind_some] at hst
        exact ⟨_,W,seqXK_ok hX hQ hrest ⟨σ,E,fr2,kb,hs,h1,h2⟩,.one hst⟩
theorem regionX_ok {P : Program} {X : CallT} (hX : CallOk P X) {c : Cx} {n : Nat} {id : Nat} {ops : Array Oper} {Q : Exit→Act→World→Prop} {K : Fr→KB→Prop} (hQ : ∀ a W,Hat c n K a W→Q .normal a W) {a : Act} {W : World}
    (h : Hat c n (seqXK P X n ops ops.toList K) a W) : (Code.region id ops false).wp P Q a W :=
  wp_regionX (by
    have:=seqXK_ok hX (Q:=Q .normal) hQ (l:=ops.toList) (j:=0) (by simp) h
    rw [List.range_eq_range',← Array.length_toList]
    exact this)
end Vc
set_option linter.unusedSimpArgs false
set_option linter.unusedVariables false
namespace Vc
open Go
inductive NilD where
  | slot (k : Nat) (ty : TypeId) (sz : Nat)
  | cell (i off : Nat) (ty : TypeId) (sz : Nat)
  | fld (k off : Nat) (ty : TypeId) (sz : Nat)
  | slotD (k : Nat) (sz : Nat)
  | fldD (k off : Nat) (sz : Nat)
  | cellD (i off : Nat) (sz : Nat)
  | mv (i off : Nat)
  | mvS (k : Nat)
  | ice (k : Nat)
  | kill (i : Nat)
  | mvP (i off : Nat)
  | ipoC (i off : Nat)
  | impC (i off : Nat) (kks : List IntKind) (kagg agg : Bool) (sz : Nat)
def NilD.chE : NilD→Bool
  | .ice _ => true
  | .ipoC .. => true
  | .impC .. => true
  | _ => false
def reptr (n : Nat) : V→Option (Nat × V)
  | .mp j => some (j,.mp n)
  | .ptr j o => some (j,.ptr n o)
  | _ => none
structure LI where
  α : Type
  live : List Nat
  nils : List NilD:=[]
  st : α→List V × KB
  μ : α→Nat
  all : (α→Prop)→Prop:=fun Q => ∀ i,Q i
  all_ok : ∀ Q,all Q→∀ i,Q i:=by exact fun _ h => h
  sub : α→Nat→Option LI:=fun _ _ => none
  itl : Nat→Option LI:=fun _ => none
def subT (li : LI) (i : li.α) (T : Nat→Option LI) : Nat→Option LI:=fun r => match li.sub i r with
  | some l => some l
  | none => T r
def firstReg : Code→Option Nat
  | .region id _ _ => some id
  | .seq a b => match firstReg a with | some i => some i | none => firstReg b
  | .block _ b => firstReg b
  | .loop b => firstReg b
  | .scope b => firstReg b
  | .cond _ a b => match firstReg a with | some i => some i | none => firstReg b
  | _ => none
def liveVals (fr : Fr) : List Nat→Option (List V)
  | [] => some []
  | t :: ts => match look fr t with
    | some v => match liveVals fr ts with | some vs => some (v :: vs) | none => none
    | none => none
def iceL : List V→Option (List D)
  | [] => some []
  | .int k n :: vs => match iceL vs with | some ds => some (.val (.int k n) :: ds) | none => none
  | .lit k n :: vs => match iceL vs with | some ds => some (.val (.int k n) :: ds) | none => none
  | .sb b :: vs => match iceL vs with | some ds => some (.val (.bool b) :: ds) | none => none
  | .dat d :: vs => match iceL vs with | some ds => some (d :: ds) | none => none
  | _ :: _ => none
theorem iceL_ok : ∀ {vs : List V} {ds : List D},iceL vs = some ds→∀ {σ : Sg} {E : EH} {xs : List Value},DenC σ E vs xs→DenD E ds xs
  | [],ds,h,σ,E,xs,hd => by
    simp only [iceL,Option.some.injEq] at h
    subst h
    simp only [DenC] at hd
    subst hd
    exact DenD.nil
  | v :: vs,ds,h,σ,E,xs,hd => by
    obtain ⟨ys,zs,rfl,h1,h2⟩:=hd.uncons
    cases v <;> simp only [iceL,reduceCtorEq] at h
    all_goals
      split at h <;> try (cases h; done)
      rename_i ds' hds
      simp only [Option.some.injEq] at h
      subst h
      rcases h1 with ⟨y,rfl,h3,h4⟩ | ⟨m,cs,e,_,_⟩
      · refine DenD.cons ?_ (iceL_ok hds h2)
        simp only [Den] at h4
        first
        | exact h4
        | (subst h4; simp [RepD,Value.oneCell'])
      · cases e
theorem Inv.freezeB {σ : Sg} {E : EH} {kb : KB} {W : World} (h : Inv σ E kb W) {i : Nat} {r : Re} {o : KO} (hs : σ[i]? = some r) (hk : kb[i]? = some o) (hw : ∀ b,b = r.blk→owned r o b) :
    ∃ E',Step σ E kb W σ E' (kb.set i .dead) W∧E' r.blk = W.heap[r.blk]?:=by
  have hi : i < kb.length:=(List.getElem?_eq_some_iff.1 hk).1
  let E' : EH:=fun b => if b = r.blk then W.heap[b]? else E b
  have hle : E.le E':=fun b x hb => by
    show (if b = r.blk then W.heap[b]? else E b) = some x
    by_cases hc : b = r.blk
    · have:=h.sep b ⟨i,r,_,hs,hk,hw b hc⟩
      rw [this] at hb; cases hb
    · rw [if_neg hc]; exact hb
  have hget : ∀ (j : Nat) (x : KO),(kb.set i .dead)[j]? = some x→(j = i∧x = .dead)∨(j ≠ i∧kb[j]? = some x):=by
    intro j x hj
    by_cases hji : j = i
    · subst hji
      rw [List.getElem?_set_self hi] at hj
      exact .inl ⟨rfl,(Option.some.inj hj).symm⟩
    · rw [List.getElem?_set_ne (Ne.symm hji)] at hj
      exact .inr ⟨hji,hj⟩
  have hown : ∀ b,Owns σ (kb.set i .dead) b→Owns σ kb b∧¬ b = r.blk:=by
    rintro b ⟨j,r',x,h1,h2,h3⟩
    rcases hget j x h2 with ⟨rfl,rfl⟩ | ⟨hji,h4⟩
    · exact h3.elim
    · exact ⟨⟨j,r',x,h1,h4,h3⟩,fun hc => h.disj i j r r' _ x b (Ne.symm hji) hs hk h1 h4 (hw b hc) h3⟩
  refine ⟨E',⟨⟨by simp [h.len],fun j r' x h1 h2 => ?_,fun a c r1 r2 o1 o2 b hac h1 h2 h3 h4 h5 h6 => ?_,fun b x hb => ?_,fun b hb => ?_⟩,Stp.refl _ W,⟨[],by simp⟩,hle,fun b hb => .inl (hown b hb).1,fun b x hb => ?_⟩,?_⟩
  · rcases hget j x h2 with ⟨rfl,rfl⟩ | ⟨hji,h4⟩
    · trivial
    · have:=(h.obj j r' x h1 h4).mono (τ:=[]) (W':=W) hle (fun b hb => rfl)
      simpa using this
  · rcases hget a o1 h2 with ⟨rfl,rfl⟩ | ⟨_,k2⟩
    · exact h5.elim
    rcases hget c o2 h4 with ⟨rfl,rfl⟩ | ⟨_,k4⟩
    · exact h6.elim
    exact h.disj a c r1 r2 o1 o2 b hac h1 k2 h3 k4 h5 h6
  · by_cases hc : b = r.blk
    · simp only [E',if_pos hc] at hb; exact hb
    · simp only [E',if_neg hc] at hb; exact h.imm b x hb
  · obtain ⟨h1,h2⟩:=hown b hb
    show (if b = r.blk then W.heap[b]? else E b) = none
    rw [if_neg h2]
    exact h.sep b h1
  · by_cases hc : b = r.blk
    · exact .inr (.inl ⟨i,r,_,hs,hk,hw b hc⟩)
    · simp only [E',if_neg hc] at hb; exact .inl hb
  · simp only [E',if_pos]
theorem Inv.freezeC {σ : Sg} {E : EH} {kb : KB} {W : World} (h : Inv σ E kb W) {i : Nat} {r : Re} {l : List V} {ds : List D} (hs : σ[i]? = some r) (hk : kb[i]? = some (.cells l)) (hc : iceL l = some ds) :
    ∃ E',Step σ E kb W σ E' (kb.set i .dead) W∧RepC E' ds r.blk 0:=by
  obtain ⟨E',hst,hE⟩:=h.freezeB hs hk (fun b hb => hb)
  obtain ⟨arr,ty,k1,k2⟩:=h.obj i r _ hs hk
  refine ⟨E',hst,((iceL_ok hc k2).mono hst.le).rep fun j x hj => ?_⟩
  rw [k1] at hE
  unfold EH.cell
  rw [hE]
  simpa using hj
theorem Inv.freezeP {σ : Sg} {E : EH} {kb : KB} {W : World} (h : Inv σ E kb W) {i : Nat} {r : Re} {kks : List IntKind} {kagg agg : Bool} {sz : Nat} {l : List (List Int × List D)} (hs : σ[i]? = some r) (hk : kb[i]? = some (.mp kks kagg agg sz l)) :
    ∃ E',Step σ E kb W σ E' (kb.set i .dead) W∧ImpOk E' kks kagg agg sz (some r.blk) l:=by
  obtain ⟨E',hst,hE⟩:=h.freezeB hs hk (fun b hb => hb)
  obtain ⟨k0,es,ck,k1,k2,k3⟩:=h.obj i r _ hs hk
  rw [k1] at hE
  exact ⟨E',hst,k0,es,ck,hE,k2.mono hst.le,k3⟩
def nil1 : NilD→List V × KB→List V × KB
  | .slot k ty sz,(vs,kb) => match vs[k]? with
    | some (.any (.slice none 0 0)) => (vs.set k (.sl kb.length 0 0),kb ++ [KO.row ty sz []])
    | _ => (vs,kb)
  | .cell i off ty sz,(vs,kb) => match kb[i]? with
    | some (.cells l) => match pieceAt l off with
      | some (.any (.slice none 0 0)) => match spliceW l off [.sl kb.length 0 0] with
        | some l' => (vs,(kb ++ [KO.row ty sz []]).set i (KO.cells l'))
        | none => (vs,kb)
      | _ => (vs,kb)
    | _ => (vs,kb)
  | .fld k off ty sz,(vs,kb) => match vs[k]? with
    | some (.agg l) => match pieceAt l off with
      | some (.any (.slice none 0 0)) => match spliceW l off [.sl kb.length 0 0] with
        | some l' => (vs.set k (.agg l'),kb ++ [KO.row ty sz []])
        | none => (vs,kb)
      | _ => (vs,kb)
    | _ => (vs,kb)
  | .slotD k sz,(vs,kb) => match vs[k]? with
    | some (.any (.slice none 0 0)) => (vs.set k (.dat (.sl sz [])),kb)
    | _ => (vs,kb)
  | .fldD k off sz,(vs,kb) => match vs[k]? with
    | some (.agg l) => match pieceAt l off with
      | some (.any (.slice none 0 0)) => match spliceW l off [.dat (.sl sz [])] with
        | some l' => (vs.set k (.agg l'),kb)
        | none => (vs,kb)
      | _ => (vs,kb)
    | _ => (vs,kb)
  | .cellD i off sz,(vs,kb) => match kb[i]? with
    | some (.cells l) => match pieceAt l off with
      | some (.any (.slice none 0 0)) => match spliceW l off [.dat (.sl sz [])] with
        | some l' => (vs,kb.set i (KO.cells l'))
        | none => (vs,kb)
      | _ => (vs,kb)
    | _ => (vs,kb)
  | .mv i off,(vs,kb) => match kb[i]? with
    | some (.cells l) => match pieceAt l off with
      | some (.sl j lo hi) => match kb[j]? with
        | some (.row ty sz L) => match spliceW l off [.sl kb.length lo hi] with
          | some l' => (vs,(kb.set j .dead ++ [KO.row ty sz L]).set i (KO.cells l'))
          | none => (vs,kb)
        | _ => (vs,kb)
      | _ => (vs,kb)
    | _ => (vs,kb)
  | .mvS k,(vs,kb) => match vs[k]? with
    | some (.sl j lo hi) => match kb[j]? with
      | some (.row ty sz L) => (vs.set k (.sl kb.length lo hi),kb.set j .dead ++ [KO.row ty sz L])
      | _ => (vs,kb)
    | _ => (vs,kb)
  | .ice k,(vs,kb) => match vs[k]? with
    | some (.ptr i 0) => match kb[i]? with
      | some (.cells l) => match iceL l with
        | some ds => (vs.set k (.ipe ds 0),kb.set i .dead)
        | none => (vs,kb)
      | _ => (vs,kb)
    | _ => (vs,kb)
  | .kill i,(vs,kb) => match kb[i]? with
    | some _ => (vs,kb.set i .dead)
    | none => (vs,kb)
  | .mvP i off,(vs,kb) => match kb[i]? with
    | some (.cells l) => match pieceAt l off with
      | some v => match reptr kb.length v with
        | some (j,u) => match kb[j]? with
          | some o => match spliceW l off [u] with
            | some l' => if i = j then (vs,kb) else (vs,(kb.set j .dead ++ [o]).set i (KO.cells l'))
            | none => (vs,kb)
          | none => (vs,kb)
        | none => (vs,kb)
      | none => (vs,kb)
    | _ => (vs,kb)
  | .ipoC i off,(vs,kb) => match kb[i]? with
    | some (.cells l) => match pieceAt l off with
      | some (.any (.pointer none)) => match spliceW l off [.ipo none] with
        | some l' => (vs,kb.set i (KO.cells l'))
        | none => (vs,kb)
      | some (.ptr j 0) => match kb[j]? with
        | some (.cells m) => match iceL m with
          | some ds => match spliceW l off [.ipo (some ds)] with
            | some l' => if i = j then (vs,kb) else (vs,(kb.set j .dead).set i (KO.cells l'))
            | none => (vs,kb)
          | none => (vs,kb)
        | _ => (vs,kb)
      | _ => (vs,kb)
    | _ => (vs,kb)
  | .impC i off kks kagg agg sz,(vs,kb) => match kb[i]? with
    | some (.cells l) => match pieceAt l off with
      | some (.any (.map none)) => match spliceW l off [.imp kks kagg agg sz []] with
        | some l' => (vs,kb.set i (KO.cells l'))
        | none => (vs,kb)
      | some (.mp j) => match kb[j]? with
        | some (.mp kks kagg agg sz m) => match spliceW l off [.imp kks kagg agg sz m] with
          | some l' => if i = j then (vs,kb) else (vs,(kb.set j .dead).set i (KO.cells l'))
          | none => (vs,kb)
        | _ => (vs,kb)
      | _ => (vs,kb)
    | _ => (vs,kb)
def nilsK : List NilD→List V × KB→List V × KB
  | [],s => s
  | d :: ds,s => nilsK ds (nil1 d s)
theorem Inv.addNil {σ : Sg} {E : EH} {kb : KB} {W : World} (hi : Inv σ E kb W) (ty : TypeId) (sz : Nat) : Step σ E kb W (σ ++ [⟨0,0,sz⟩]) E (kb ++ [.row ty sz []]) W :=
  hi.grow ⟨0,0,sz⟩ (.row ty sz []) rfl rfl rfl (Nat.le_refl _) (fun _ _ => rfl) (fun b hb => absurd rfl hb.1) ⟨rfl,fun e he => (by cases he),Nat.le_refl _,Nat.zero_le _,.inl rfl⟩
theorem den_nil {σ : Sg} {E : EH} {kb : KB} (hl : σ.length = kb.length) (sz : Nat) : Den (σ ++ [⟨0,0,sz⟩]) E (.sl kb.length 0 0) (.slice none 0 0):=by
  simp only [Den]
  exact ⟨⟨0,0,sz⟩,none,by rw [← hl]; simp,rfl,Nat.le_refl _,Nat.le_refl _,fun h => absurd h (Nat.lt_irrefl _)⟩
theorem denL_turn {σ : Sg} {E : EH} {vs : List V} {xs : List Value} (h : DenL σ E vs xs) {k : Nat} {v u : V} {x : Value} (hv : vs[k]? = some v) (hx : ∀ y,Den σ E v y→y = x) (hu : Den σ E u x) : DenL σ E (vs.set k u) xs:=by
  obtain ⟨y,h1,h2⟩:=h.get hv
  have:=hx y h2
  subst this
  clear hx
  induction vs generalizing k xs with
  | nil => simp at hv
  | cons w vs ih =>
    simp only [DenL] at h
    obtain ⟨z,zs,rfl,h3,h4⟩:=h
    cases k with
    | zero =>
      simp at h1
      subst h1
      exact .cons hu h4
    | succ k => exact .cons h3 (ih h4 (by simpa using hv) (by simpa using h1))
theorem pieceAt_one {σ : Sg} {E : EH} {l : List V} {off : Nat} {v : V} (h : pieceAt l off = some v) (hna : ∀ m cs,v ≠ .arr m cs) {xs : List Value} (hd : DenC σ E l xs) : ∃ y,xs[off]? = some y∧y.oneCell' = true∧Den σ E v y:=by
  unfold pieceAt at h
  split at h <;> try (cases h; done)
  rename_i v' r hr
  cases h
  obtain ⟨h1,h2⟩:=dropW_ok hr hd
  obtain ⟨ys,zs,e,h3,h4⟩:=h1.uncons
  rcases h3 with ⟨y,rfl,h5,hy⟩ | ⟨m,cs,e',_,_⟩
  · refine ⟨y,?_,h5,hy⟩
    have:=congrArg (fun z => z[0]?) e
    simpa using this
  · exact (hna _ _ e').elim
theorem denC_turn {σ : Sg} {E : EH} {l l' : List V} {xs : List Value} (h : DenC σ E l xs) {off : Nat} {v u : V} {x : Value} (hv : pieceAt l off = some v) (hna : ∀ m cs,v ≠ .arr m cs) (hx : ∀ y,Den σ E v y→y = x) (hu : Den σ E u x) (hl : spliceW l off [u] = some l') : DenC σ E l' xs:=by
  obtain ⟨y,h1,h2,h3⟩:=pieceAt_one hv hna h
  have:=hx y h3
  subst this
  obtain ⟨h4,h5⟩:=spliceW_ok hl h (.cons1 hu h2 .nil)
  have : splice xs off [y] = xs:=by
    apply List.ext_getElem?
    intro j
    rw [get_splice (by omega)]
    split
    · rfl
    · split
      · rename_i c1 c2
        have : j = off:=by simp at c2; omega
        subst this
        simp [h1]
      · rfl
  rwa [this] at h4
theorem denC_turnE {σ : Sg} {E : EH} {l l' : List V} {xs : List Value} (h : DenC σ E l xs) {off : Nat} {v u : V} (hv : pieceAt l off = some v) (hna : ∀ m cs,v ≠ .arr m cs) (hu : ∀ y,Den σ E v y→Den σ E u y) (hl : spliceW l off [u] = some l') : DenC σ E l' xs:=by
  obtain ⟨y,h1,h2,h3⟩:=pieceAt_one hv hna h
  obtain ⟨h4,h5⟩:=spliceW_ok hl h (.cons1 (hu y h3) h2 .nil)
  have : splice xs off [y] = xs:=by
    apply List.ext_getElem?
    intro j
    rw [get_splice (by omega)]
    split
    · rfl
    · split
      · rename_i c1 c2
        have : j = off:=by simp at c2; omega
        subst this
        simp [h1]
      · rfl
  rwa [this] at h4
theorem Inv.moved {σ : Sg} {E : EH} {kb : KB} {W : World} (hi : Inv σ E kb W) {j : Nat} {ty : TypeId} {sz : Nat} {L : List (List D)} (hk : kb[j]? = some (.row ty sz L)) :
    ∃ r,σ[j]? = some r∧Step σ E kb W (σ ++ [r]) E (kb.set j .dead ++ [KO.row ty sz L]) W:=by
  obtain ⟨r,hr⟩ : ∃ r,σ[j]? = some r:=⟨_,List.getElem?_eq_getElem (by rw [hi.len]; exact (List.getElem?_eq_some_iff.1 hk).1)⟩
  exact ⟨r,hr,hi.renew (W':=W) (r':=r) (o':=.row ty sz L) hr hk rfl rfl rfl (Nat.le_refl _) (fun _ _ _ => rfl) (fun b hb => .inl hb) ((hi.obj j r _ hr hk).mono (EH.le.refl E) (fun _ _ => rfl))⟩
theorem den_moved {σ : Sg} {E : EH} {kb : KB} (hl : σ.length = kb.length) {j lo hi : Nat} {r : Re} (hr : σ[j]? = some r) {y : Value} (hy : Den (σ ++ [r]) E (.sl j lo hi) y) : Den (σ ++ [r]) E (.sl kb.length lo hi) y:=by
  simp only [Den] at hy ⊢
  obtain ⟨r',a,h1,h2⟩:=hy
  rw [sg_ext hr] at h1
  cases h1
  exact ⟨r,a,by rw [← hl]; simp,h2⟩
theorem Inv.movedO {σ : Sg} {E : EH} {kb : KB} {W : World} (hi : Inv σ E kb W) {j : Nat} {o : KO} (hk : kb[j]? = some o) :
    ∃ r,σ[j]? = some r∧Step σ E kb W (σ ++ [r]) E (kb.set j .dead ++ [o]) W:=by
  obtain ⟨r,hr⟩ : ∃ r,σ[j]? = some r:=⟨_,List.getElem?_eq_getElem (by rw [hi.len]; exact (List.getElem?_eq_some_iff.1 hk).1)⟩
  exact ⟨r,hr,hi.renew (W':=W) (r':=r) (o':=o) hr hk rfl rfl rfl (Nat.le_refl _) (fun _ _ _ => rfl) (fun b hb => .inl hb) ((hi.obj j r _ hr hk).mono (EH.le.refl E) (fun _ _ => rfl))⟩
theorem reptr_ok {σ : Sg} {E : EH} {kb : KB} (hl : σ.length = kb.length) {j : Nat} {v u : V} (hv : reptr kb.length v = some (j,u)) {r : Re} (hr : σ[j]? = some r) {y : Value} (hy : Den (σ ++ [r]) E v y) : Den (σ ++ [r]) E u y:=by
  have hn : (σ ++ [r])[kb.length]? = some r:=by rw [← hl]; simp
  cases v <;> simp only [reptr,reduceCtorEq,Option.some.injEq,Prod.mk.injEq] at hv
  all_goals
    obtain ⟨rfl,rfl⟩:=hv
    simp only [Den] at hy ⊢
    obtain ⟨r',h1,h2⟩:=hy
    rw [sg_ext hr] at h1
    cases h1
    exact ⟨r,hn,h2⟩
theorem denL_turnE {σ : Sg} {E : EH} {vs : List V} {xs : List Value} (h : DenL σ E vs xs) {k : Nat} {v u : V} (hv : vs[k]? = some v) (hu : ∀ y,Den σ E v y→Den σ E u y) : DenL σ E (vs.set k u) xs:=by
  obtain ⟨y,h1,h2⟩:=h.get hv
  have h3:=hu y h2
  clear hu h2
  induction vs generalizing k xs with
  | nil => simp at hv
  | cons w vs ih =>
    simp only [DenL] at h
    obtain ⟨z,zs,rfl,h4,h5⟩:=h
    cases k with
    | zero =>
      simp at h1
      subst h1
      exact .cons h3 h5
    | succ k => exact .cons h4 (ih h5 (by simpa using hv) (by simpa using h1))
theorem nil1_ok0 {c : Cx} {E : EH} {W : World} : ∀ (d : NilD) (_ : d.chE = false) {σ : Sg} {vs : List V} {kb : KB} {xs : List Value},Step c.σ c.E c.kb c.W σ E kb W→DenL σ E vs xs→∃ σ',Step c.σ c.E c.kb c.W σ' E (nil1 d (vs,kb)).2 W∧DenL σ' E (nil1 d (vs,kb)).1 xs
  | .slot k ty sz,_,σ,vs,kb,xs,hs,hd => by
    simp only [nil1]
    split
    · rename_i hk
      have hst:=hs.inv.addNil ty sz
      exact ⟨_,hs.trans hst,denL_turn (DenL.mono (EH.le.refl E) hd) hk (fun y hy => by simpa only [Den] using hy) (den_nil hs.inv.len sz)⟩
    · exact ⟨σ,hs,hd⟩
  | .cell i off ty sz,_,σ,vs,kb,xs,hs,hd => by
    simp only [nil1]
    split
    · rename_i l hl
      split
      · rename_i hk
        split
        · rename_i l' hl'
          have hst:=hs.inv.addNil ty sz
          have hi2:=hst.inv
          have hlt : i < kb.length:=(List.getElem?_eq_some_iff.1 hl).1
          have hkb : (kb ++ [KO.row ty sz []])[i]? = some (.cells l):=by rw [List.getElem?_append_left hlt]; exact hl
          obtain ⟨r,hr⟩ : ∃ r,(σ ++ [⟨0,0,sz⟩])[i]? = some r:=⟨_,List.getElem?_eq_getElem (by rw [hi2.len]; simp; omega)⟩
          obtain ⟨arr,ty',h1,h2⟩:=hi2.obj i r _ hr hkb
          have hset:=hi2.set (o':=.cells l') hr hkb rfl rfl rfl rfl (fun _ _ => rfl) (fun b hb => hb) ⟨arr,ty',h1,denC_turn h2 hk (fun _ _ h => by cases h) (fun y hy => by simpa only [Den] using hy) (den_nil hs.inv.len sz) hl'⟩
          exact ⟨_,hs.trans (hst.trans hset),DenL.mono (EH.le.refl E) hd⟩
        · exact ⟨σ,hs,hd⟩
      · exact ⟨σ,hs,hd⟩
    · exact ⟨σ,hs,hd⟩
  | .fld k off ty sz,_,σ,vs,kb,xs,hs,hd => by
    simp only [nil1]
    split
    · rename_i l hk
      split
      · rename_i hp
        split
        · rename_i l' hl'
          have hst:=hs.inv.addNil ty sz
          refine ⟨_,hs.trans hst,denL_turnE (DenL.mono (EH.le.refl E) hd) hk fun y hy => ?_⟩
          simp only [Den] at hy ⊢
          obtain ⟨zs,rfl,hz⟩:=hy
          exact ⟨zs,rfl,denC_turn hz hp (fun _ _ h => by cases h) (fun y hy => by simpa only [Den] using hy) (den_nil hs.inv.len sz) hl'⟩
        · exact ⟨σ,hs,hd⟩
      · exact ⟨σ,hs,hd⟩
    · exact ⟨σ,hs,hd⟩
  | .slotD k sz,_,σ,vs,kb,xs,hs,hd => by
    simp only [nil1]
    split
    · rename_i hk
      exact ⟨_,hs,denL_turn hd hk (fun y hy => by simpa only [Den] using hy) (by simp only [Den]; exact ⟨none,0,rfl,Nat.le_refl _,.inl rfl⟩)⟩
    · exact ⟨σ,hs,hd⟩
  | .fldD k off sz,_,σ,vs,kb,xs,hs,hd => by
    simp only [nil1]
    split
    · rename_i l hk
      split
      · rename_i hp
        split
        · rename_i l' hl'
          refine ⟨_,hs,denL_turnE hd hk fun y hy => ?_⟩
          simp only [Den] at hy ⊢
          obtain ⟨zs,rfl,hz⟩:=hy
          exact ⟨zs,rfl,denC_turn hz hp (fun _ _ h => by cases h) (fun y hy => by simpa only [Den] using hy) (by simp only [Den]; exact ⟨none,0,rfl,Nat.le_refl _,.inl rfl⟩) hl'⟩
        · exact ⟨σ,hs,hd⟩
      · exact ⟨σ,hs,hd⟩
    · exact ⟨σ,hs,hd⟩
  | .cellD i off sz,_,σ,vs,kb,xs,hs,hd => by
    simp only [nil1]
    split
    · rename_i l hl
      split
      · rename_i hk
        split
        · rename_i l' hl'
          have hi2:=hs.inv
          obtain ⟨r,hr⟩ : ∃ r,σ[i]? = some r:=⟨_,List.getElem?_eq_getElem (by rw [hi2.len]; exact (List.getElem?_eq_some_iff.1 hl).1)⟩
          obtain ⟨arr,ty',h1,h2⟩:=hi2.obj i r _ hr hl
          have hset:=hi2.set (o':=.cells l') hr hl rfl rfl rfl rfl (fun _ _ => rfl) (fun b hb => hb) ⟨arr,ty',h1,denC_turn h2 hk (fun _ _ h => by cases h) (fun y hy => by simpa only [Den] using hy) (by simp only [Den]; exact ⟨none,0,rfl,Nat.le_refl _,.inl rfl⟩) hl'⟩
          exact ⟨_,hs.trans hset,hd⟩
        · exact ⟨σ,hs,hd⟩
      · exact ⟨σ,hs,hd⟩
    · exact ⟨σ,hs,hd⟩
  | .mv i off,_,σ,vs,kb,xs,hs,hd => by
    simp only [nil1]
    split
    · rename_i l hl
      split
      · rename_i j lo hi hk
        split
        · rename_i ty sz L hj
          split
          · rename_i l' hl'
            obtain ⟨r,hr,hst⟩:=hs.inv.moved hj
            have hi2:=hst.inv
            have hne : i ≠ j:=fun e => by subst e; rw [hl] at hj; cases hj
            have hlt : i < kb.length:=(List.getElem?_eq_some_iff.1 hl).1
            have hkb : (kb.set j .dead ++ [KO.row ty sz L])[i]? = some (.cells l):=by
              rw [List.getElem?_append_left (by simpa using hlt),List.getElem?_set_ne (Ne.symm hne)]; exact hl
            obtain ⟨ri,hri⟩ : ∃ ri,(σ ++ [r])[i]? = some ri:=⟨_,List.getElem?_eq_getElem (by rw [hi2.len]; simp; omega)⟩
            obtain ⟨arr,ty',h1,h2⟩:=hi2.obj i ri _ hri hkb
            have hset:=hi2.set (o':=.cells l') hri hkb rfl rfl rfl rfl (fun _ _ => rfl) (fun b hb => hb) ⟨arr,ty',h1,denC_turnE h2 hk (fun _ _ h => by cases h) (fun y hy => den_moved hs.inv.len hr hy) hl'⟩
            exact ⟨_,hs.trans (hst.trans hset),DenL.mono (EH.le.refl E) hd⟩
          · exact ⟨σ,hs,hd⟩
        · exact ⟨σ,hs,hd⟩
      · exact ⟨σ,hs,hd⟩
    · exact ⟨σ,hs,hd⟩
  | .mvS k,_,σ,vs,kb,xs,hs,hd => by
    simp only [nil1]
    split
    · rename_i j lo hi hk
      split
      · rename_i ty sz L hj
        obtain ⟨r,hr,hst⟩:=hs.inv.moved hj
        exact ⟨_,hs.trans hst,denL_turnE (DenL.mono (EH.le.refl E) hd) hk (fun y hy => den_moved hs.inv.len hr hy)⟩
      · exact ⟨σ,hs,hd⟩
    · exact ⟨σ,hs,hd⟩
  | .mvP i off,_,σ,vs,kb,xs,hs,hd => by
    simp only [nil1]
    split
    · rename_i l hl
      split
      · rename_i v hk
        split
        · rename_i j u hu
          split
          · rename_i o hj
            split
            · rename_i l' hl'
              split
              · exact ⟨σ,hs,hd⟩
              · rename_i hne
                obtain ⟨r,hr,hst⟩:=hs.inv.movedO hj
                have hi2:=hst.inv
                have hlt : i < kb.length:=(List.getElem?_eq_some_iff.1 hl).1
                have hkb : (kb.set j .dead ++ [o])[i]? = some (.cells l):=by
                  rw [List.getElem?_append_left (by simpa using hlt),List.getElem?_set_ne (Ne.symm hne)]; exact hl
                obtain ⟨ri,hri⟩ : ∃ ri,(σ ++ [r])[i]? = some ri:=⟨_,List.getElem?_eq_getElem (by rw [hi2.len]; simp; omega)⟩
                obtain ⟨arr,ty',h1,h2⟩:=hi2.obj i ri _ hri hkb
                have hna : ∀ m cs,v ≠ .arr m cs:=fun m cs e => by subst e; simp [reptr] at hu
                have hset:=hi2.set (o':=.cells l') hri hkb rfl rfl rfl rfl (fun _ _ => rfl) (fun b hb => hb) ⟨arr,ty',h1,denC_turnE h2 hk hna (fun y hy => reptr_ok hs.inv.len hu hr hy) hl'⟩
                exact ⟨_,hs.trans (hst.trans hset),DenL.mono (EH.le.refl E) hd⟩
            · exact ⟨σ,hs,hd⟩
          · exact ⟨σ,hs,hd⟩
        · exact ⟨σ,hs,hd⟩
      · exact ⟨σ,hs,hd⟩
    · exact ⟨σ,hs,hd⟩
  | .ice k,hno,_,_,_,_,_,_ => by cases hno
  | .ipoC ..,hno,_,_,_,_,_,_ => by cases hno
  | .impC ..,hno,_,_,_,_,_,_ => by cases hno
  | .kill i,_,σ,vs,kb,xs,hs,hd => by
    simp only [nil1]
    split
    · rename_i o ho
      have hi2:=hs.inv
      obtain ⟨r,hr⟩ : ∃ r,σ[i]? = some r:=⟨_,List.getElem?_eq_getElem (by rw [hi2.len]; exact (List.getElem?_eq_some_iff.1 ho).1)⟩
      have hset:=hi2.set (o':=.dead) hr ho rfl rfl rfl rfl (fun _ _ => rfl) (fun b hb => hb.elim) trivial
      exact ⟨_,hs.trans hset,hd⟩
    · exact ⟨σ,hs,hd⟩
theorem nil1_ok {c : Cx} {E : EH} {W : World} : ∀ (d : NilD) {σ : Sg} {vs : List V} {kb : KB} {xs : List Value},Step c.σ c.E c.kb c.W σ E kb W→DenL σ E vs xs→∃ σ' E',Step c.σ c.E c.kb c.W σ' E' (nil1 d (vs,kb)).2 W∧DenL σ' E' (nil1 d (vs,kb)).1 xs∧E.le E':=fun d σ vs kb xs hs hd => by
  have turn : ∀ {σ : Sg} {E : EH} {kb : KB} {i off : Nat} {l l' : List V} {v u : V} {vs : List V} {xs : List Value},Step c.σ c.E c.kb c.W σ E kb W→kb[i]? = some (.cells l)→pieceAt l off = some v→(∀ m cs,v ≠ .arr m cs)→(∀ y,Den σ E v y→Den σ E u y)→spliceW l off [u] = some l'→DenL σ E vs xs→Step c.σ c.E c.kb c.W σ E (kb.set i (KO.cells l')) W∧DenL σ E vs xs:=by
    intro σ E kb i off l l' v u vs xs hs hl hk hna hu hl' hd
    have hi2:=hs.inv
    obtain ⟨r,hr⟩ : ∃ r,σ[i]? = some r:=⟨_,List.getElem?_eq_getElem (by rw [hi2.len]; exact (List.getElem?_eq_some_iff.1 hl).1)⟩
    obtain ⟨arr,ty',h1,h2⟩:=hi2.obj i r _ hr hl
    have hset:=hi2.set (o':=.cells l') hr hl rfl rfl rfl rfl (fun _ _ => rfl) (fun b hb => hb) ⟨arr,ty',h1,denC_turnE h2 hk hna hu hl'⟩
    exact ⟨hs.trans hset,hd⟩
  cases hch : d.chE with
  | false =>
    obtain ⟨σ',h1,h2⟩:=nil1_ok0 d hch hs hd
    exact ⟨σ',E,h1,h2,EH.le.refl E⟩
  | true =>
  cases d <;> simp only [NilD.chE,Bool.false_eq_true] at hch
  · rename_i k
    simp only [nil1]
    split
    · rename_i i hk
      split
      · rename_i l hl
        split
        · rename_i ds hds
          have hi2:=hs.inv
          obtain ⟨r,hr⟩ : ∃ r,σ[i]? = some r:=⟨_,List.getElem?_eq_getElem (by rw [hi2.len]; exact (List.getElem?_eq_some_iff.1 hl).1)⟩
          obtain ⟨E',hst,hrep⟩:=hi2.freezeC hr hl hds
          have hd':=DenL.mono (τ:=[]) hst.le hd
          rw [List.append_nil] at hd'
          refine ⟨σ,E',hs.trans hst,denL_turnE hd' hk (fun y hy => ?_),hst.le⟩
          simp only [Den] at hy ⊢
          obtain ⟨r',h1,rfl⟩:=hy
          rw [hr] at h1; cases h1
          exact ⟨r.blk,0,rfl,hrep⟩
        · exact ⟨σ,E,hs,hd,EH.le.refl E⟩
      · exact ⟨σ,E,hs,hd,EH.le.refl E⟩
    · exact ⟨σ,E,hs,hd,EH.le.refl E⟩
  · rename_i i off
    simp only [nil1]
    split
    · rename_i l hl
      split
      · rename_i hk
        split
        · rename_i l' hl'
          obtain ⟨h1,h2⟩:=turn (u:=.ipo none) hs hl hk (fun _ _ h => by cases h) (fun y hy => by simp only [Den] at hy ⊢; exact .inl ⟨rfl,hy⟩) hl' hd
          exact ⟨σ,E,h1,h2,EH.le.refl E⟩
        · exact ⟨σ,E,hs,hd,EH.le.refl E⟩
      · rename_i j hk
        split
        · rename_i m hm
          split
          · rename_i ds hds
            split
            · rename_i l' hl'
              split
              · exact ⟨σ,E,hs,hd,EH.le.refl E⟩
              · rename_i hne
                have hi2:=hs.inv
                obtain ⟨r,hr⟩ : ∃ r,σ[j]? = some r:=⟨_,List.getElem?_eq_getElem (by rw [hi2.len]; exact (List.getElem?_eq_some_iff.1 hm).1)⟩
                obtain ⟨E',hst,hrep⟩:=hi2.freezeC hr hm hds
                have hd':=DenL.mono (τ:=[]) hst.le hd
                rw [List.append_nil] at hd'
                have hl2 : (kb.set j .dead)[i]? = some (.cells l):=by rw [List.getElem?_set_ne (Ne.symm hne)]; exact hl
                obtain ⟨h1,h2⟩:=turn (u:=.ipo (some ds)) (hs.trans hst) hl2 hk (fun _ _ h => by cases h) (fun y hy => by
                  simp only [Den] at hy ⊢
                  obtain ⟨r',h1,rfl⟩:=hy
                  rw [hr] at h1; cases h1
                  exact .inr ⟨ds,r.blk,rfl,rfl,hrep⟩) hl' hd'
                exact ⟨σ,E',h1,h2,hst.le⟩
            · exact ⟨σ,E,hs,hd,EH.le.refl E⟩
          · exact ⟨σ,E,hs,hd,EH.le.refl E⟩
        · exact ⟨σ,E,hs,hd,EH.le.refl E⟩
      · exact ⟨σ,E,hs,hd,EH.le.refl E⟩
    · exact ⟨σ,E,hs,hd,EH.le.refl E⟩
  · rename_i i off kks kagg agg sz
    simp only [nil1]
    split
    · rename_i l hl
      split
      · rename_i hk
        split
        · rename_i l' hl'
          obtain ⟨h1,h2⟩:=turn (u:=.imp kks kagg agg sz []) hs hl hk (fun _ _ h => by cases h) (fun y hy => by simp only [Den] at hy ⊢; exact ⟨none,hy,rfl⟩) hl' hd
          exact ⟨σ,E,h1,h2,EH.le.refl E⟩
        · exact ⟨σ,E,hs,hd,EH.le.refl E⟩
      · rename_i j hk
        split
        · rename_i kks' kagg' agg' sz' m hm
          split
          · rename_i l' hl'
            split
            · exact ⟨σ,E,hs,hd,EH.le.refl E⟩
            · rename_i hne
              have hi2:=hs.inv
              obtain ⟨r,hr⟩ : ∃ r,σ[j]? = some r:=⟨_,List.getElem?_eq_getElem (by rw [hi2.len]; exact (List.getElem?_eq_some_iff.1 hm).1)⟩
              obtain ⟨E',hst,hrep⟩:=hi2.freezeP hr hm
              have hd':=DenL.mono (τ:=[]) hst.le hd
              rw [List.append_nil] at hd'
              have hl2 : (kb.set j .dead)[i]? = some (.cells l):=by rw [List.getElem?_set_ne (Ne.symm hne)]; exact hl
              obtain ⟨h1,h2⟩:=turn (u:=.imp kks' kagg' agg' sz' m) (hs.trans hst) hl2 hk (fun _ _ h => by cases h) (fun y hy => by
                simp only [Den] at hy ⊢
                obtain ⟨r',h1,rfl⟩:=hy
                rw [hr] at h1; cases h1
                exact ⟨some r.blk,rfl,hrep⟩) hl' hd'
              exact ⟨σ,E',h1,h2,hst.le⟩
          · exact ⟨σ,E,hs,hd,EH.le.refl E⟩
        · exact ⟨σ,E,hs,hd,EH.le.refl E⟩
      · exact ⟨σ,E,hs,hd,EH.le.refl E⟩
    · exact ⟨σ,E,hs,hd,EH.le.refl E⟩
theorem nilsK_ok {c : Cx} {W : World} : ∀ (ds : List NilD) {E : EH} {σ : Sg} {s : List V × KB} {xs : List Value},Step c.σ c.E c.kb c.W σ E s.2 W→DenL σ E s.1 xs→∃ σ' E',Step c.σ c.E c.kb c.W σ' E' (nilsK ds s).2 W∧DenL σ' E' (nilsK ds s).1 xs∧E.le E'
  | [],E,σ,s,xs,hs,hd => ⟨σ,E,hs,hd,EH.le.refl E⟩
  | d :: ds,E,σ,s,xs,hs,hd => by
    obtain ⟨σ',E',h1,h2,h3⟩:=nil1_ok d hs hd
    obtain ⟨σ2,E2,h4,h5,h6⟩:=nilsK_ok ds h1 h2
    exact ⟨σ2,E2,h4,h5,h3.trans h6⟩
structure At (li : LI) (s : List V × KB) : Prop where
  has : ∃ i,s = li.st i
structure Nx (li : LI) (i : li.α) (s : List V × KB) : Prop where
  has : ∃ j,s = li.st j∧li.μ j < li.μ i
theorem At.mk' {li : LI} {s : List V × KB} (i : li.α) (h : s = li.st i) : At li s:=⟨i,h⟩
theorem Nx.mk' {li : LI} {i : li.α} {s : List V × KB} (j : li.α) (h : s = li.st j) (k : li.μ j < li.μ i) : Nx li i s:=⟨j,h,k⟩
def atHead (n0 : Nat) (nils : List NilD) (live : List Nat) (fr : Fr) (kb : KB) (R : List V × KB→Prop) : Prop :=
  match liveVals fr live with
  | some vals => match canon n0 vals kb with
    | some (vs,kb',_) => match nils with
      | [] => R (vs,kb')
      | d :: ds => match canon n0 (nilsK (d :: ds) (vs,kb')).1 (nilsK (d :: ds) (vs,kb')).2 with
        | some (vs2,kb2,_) => R (vs2,kb2)
        | none => False
    | none => False
  | none => False
def iter (R : (Exit→Fr→KB→Prop)→Fr→KB→Prop) (Q : Exit→Fr→KB→Prop) : Nat→Fr→KB→Prop
  | 0,_,_ => False
  | m + 1,fr,kb => R (fun e fr kb => match e with | .normal => iter R Q m fr kb | e => Q e fr kb) fr kb
structure QOk (c : Cx) (n : Nat) (Q : Exit→Fr→KB→Prop) (Q' : Exit→Act→World→Prop) : Prop where
  hat : ∀ e a W,Hat c n (Q e) a W→Q' e a W
  pan : ∀ ch a a' w,Q' (.panic ch) a w→Q' (.panic ch) a' w
theorem liveVals_ok {σ : Sg} {E : EH} {fr : Fr} {n : Nat} {a : Act} (h : FrOk σ E fr n a) : ∀ {live : List Nat} {vals : List V},liveVals fr live = some vals→∃ xs : List Value,DenL σ E vals xs∧xs.length = live.length∧∀ (k t : Nat) (x : Value),live[k]? = some t→xs[k]? = some x→a.tmps[t]? = some x
  | [],vals,hv => by simp only [liveVals,Option.some.injEq] at hv; subst hv; exact ⟨[],.nil,rfl,by simp⟩
  | t :: ts,vals,hv => by
    simp only [liveVals] at hv
    split at hv <;> try (cases hv; done)
    rename_i v hl
    split at hv <;> try (cases hv; done)
    rename_i vs hvs
    cases hv
    obtain ⟨x,h1,h2⟩:=h.get t v hl
    obtain ⟨xs,h3,h4,h5⟩:=liveVals_ok h hvs
    refine ⟨x :: xs,.cons h2 h3,by simp [h4],fun k u y hk hy => ?_⟩
    cases k with
    | zero => simp at hk hy; subst hk; subst hy; exact h1
    | succ k => exact h5 k u y (by simpa using hk) (by simpa using hy)
theorem look_zip {σ : Sg} {E : EH} : ∀ {live : List Nat} {vs : List V} {xs : List Value},DenL σ E vs xs→∀ {t : Nat} {v : V},look (live.zip vs) t = some v→∃ (k : Nat) (x : Value),live[k]? = some t∧xs[k]? = some x∧Den σ E v x
  | [],_,_,_,t,v,h => by simp [look] at h
  | u :: live,[],_,_,t,v,h => by simp [look] at h
  | u :: live,w :: vs,xs,hd,t,v,h => by
    simp only [DenL] at hd
    obtain ⟨x,xs',rfl,h1,h2⟩:=hd
    simp only [List.zip_cons_cons,look] at h
    split at h
    · rename_i hb
      have:=Nat.eq_of_beq_eq_true hb
      subst this
      cases h
      exact ⟨0,x,rfl,rfl,h1⟩
    · obtain ⟨k,y,k1,k2,k3⟩:=look_zip h2 h
      exact ⟨k + 1,y,by simpa using k1,by simpa using k2,k3⟩
theorem atHead_ok {c : Cx} {nils : List NilD} {live : List Nat} {fr : Fr} {kb : KB} {R : List V × KB→Prop} (h : atHead c.σ.length nils live fr kb R) {σ : Sg} {E : EH} {n : Nat} {a : Act} {W : World} (hs : Step c.σ c.E c.kb c.W σ E kb W) (hf : FrOk σ E fr n a) :
    ∃ s,R s∧Hat c n (fun fr' kb' => fr' = live.zip s.1∧kb' = s.2) a W:=by
  unfold atHead at h
  split at h <;> try exact h.elim
  rename_i vals hvals
  split at h <;> try exact h.elim
  rename_i vs kb' o hc
  obtain ⟨xs,h1,h2,h3⟩:=liveVals_ok hf hvals
  obtain ⟨σ',h4,h5⟩:=hs.sel hc h1
  split at h
  · refine ⟨(vs,kb'),h,σ',E,live.zip vs,kb',h4,⟨hf.size,hf.defers,fun t v hv => ?_⟩,rfl,rfl⟩
    obtain ⟨k,x,k1,k2,k3⟩:=look_zip h5 hv
    exact ⟨x,h3 k t x k1 k2,k3⟩
  · rename_i d ds
    split at h <;> try exact h.elim
    rename_i vs2 kb2 o2 hc2
    obtain ⟨σ2,E2,h6,h7,hE2⟩:=nilsK_ok (c:=c) (d :: ds) (s:=(vs,kb')) h4 h5
    obtain ⟨σ3,h8,h9⟩:=h6.sel hc2 h7
    refine ⟨(vs2,kb2),h,σ3,E2,live.zip vs2,kb2,h8,⟨hf.size,hf.defers.mono hE2,fun t v hv => ?_⟩,rfl,rfl⟩
    obtain ⟨k,x,k1,k2,k3⟩:=look_zip h9 hv
    exact ⟨x,h3 k t x k1 k2,k3⟩
abbrev FW (r : Option Nat) : Fence:={ Fence.wide with round:=r }
theorem calls_in {r : Option Nat} {n : Nat} {P : Program} {f : FuncId} {args : Array Value} {w : World} {R : Ending→World→Prop} (h : Calls P f args w R) : CallsIn (FW r) n P f args w R :=
  (callsIn_wide (n:=n)).2 h
theorem rows_in {r : Option Nat} {n : Nat} {P : Program} {row : String} {args : Array Value} {w : World} {R : Value→World→Prop} (h : Rows P row args w R) : RowsIn (FW r) n P row args w R :=
  fun c cs _ => let ⟨v,w',q,s⟩:=h c cs; ⟨v,w',q,(stepsIn_wide (P:=P)).2 s⟩
theorem op_in {r : Option Nat} {n : Nat} {P : Program} {o : Oper} {a : Act} {w : World} {next : Act→World→Prop} {Q : Exit→Act→World→Prop} (hnd : ∀ c,o.op ≠ .defer c) (h : o.wp P a w next Q) : o.wpIn (FW r) n P a w next Q:=by
  refine ⟨fun _ _ => trivial,?_⟩
  show o.uponIn (FW r) n P a next Q ((o.semAt r a.eval).run P w)
  rw [Oper.semAt_eq r a.eval o hnd]
  unfold Oper.wp at h
  generalize (execOp a.eval o).run P w = res at h
  cases res with
  | ok x w' =>
    cases x with
    | value v => exact h
    | skip => exact h
    | defer d => exact h
    | enter f args => exact ⟨fun q => (by cases q),calls_in h⟩
    | row row args => exact ⟨fun q => (by cases q),rows_in h⟩
    | round l f tmps assign body => exact h.elim
    | _ => exact h.elim
  | halt x w' =>
    cases x with
    | panic v => exact h
    | _ => exact h.elim
def noDefer (ops : Array Oper) : Bool:=ops.toList.all fun o => match o.op with | .defer _ => false | _ => true
theorem noDefer_ok {ops : Array Oper} (h : noDefer ops = true) : ∀ o ∈ ops.toList,∀ c,o.op ≠ .defer c:=fun o ho c e => by
  have:=List.all_eq_true.1 h o ho
  rw [e] at this
  cases this
theorem list_in {r : Option Nat} {n : Nat} {P : Program} {ops : Array Oper} {Q : Exit→Act→World→Prop} (hout : ¬ LetsOut Q) : ∀ {l : List Oper},(∀ o ∈ l,∀ c,o.op ≠ .defer c)→∀ {a : Act} {w : World},wpList P ops Q l a w→wpListIn (FW r) n P ops Q l a w
  | [],_,a,w,h => h
  | o :: l,hl,a,w,h => by
    have ih : ∀ a w,wpList P ops Q l a w→wpListIn (FW r) n P ops Q l a w:=fun a w => list_in hout (fun o ho => hl o (List.mem_cons_of_mem _ ho))
    simp only [wpList] at h
    simp only [wpListIn]
    split
    · rename_i hw
      rw [if_pos hw] at h
      rcases h with h | ⟨_,h⟩
      · exact Oper.wpIn_mono ih (op_in (hl o List.mem_cons_self) h)
      · exact absurd h hout
    · rename_i hw
      rw [if_neg hw] at h
      exact ⟨fun _ _ => trivial,ih _ _ h⟩
theorem opI_in {r : Option Nat} {n : Nat} {P : Program} {ops : Array Oper} {Q : Exit→Act→World→Prop} (hout : ¬ LetsOut Q) (hd : ∀ o ∈ ops.toList,∀ c,o.op ≠ .defer c) {i : Nat} {K K' : Act→World→Prop} (hK : ∀ a w,K a w→K' a w) {a : Act} {w : World} (h : wpOp P ops Q i K a w) : wpOpIn (FW r) n P ops Q i K' a w:=by
  unfold wpOp at h
  unfold wpOpIn
  split at h
  · rename_i ho; rw [ho]; exact hK _ _ h
  · rename_i o ho
    rw [ho]
    have hm : o ∈ ops.toList:=by
      obtain ⟨hlt,rfl⟩:=Array.getElem?_eq_some_iff.1 ho
      simp
    simp only
    split
    · rename_i hw
      rw [if_pos hw] at h
      rcases h with h | ⟨_,h⟩
      · exact Oper.wpIn_mono hK (op_in (hd o hm) h)
      · exact absurd h hout
    · rename_i hw
      rw [if_neg hw] at h
      exact ⟨fun _ _ => trivial,hK _ _ h⟩
theorem any_in {r : Option Nat} {n : Nat} {P : Program} {md : Region.Mode} {ops : Array Oper} {Q : Exit→Act→World→Prop} (hout : ¬ LetsOut Q) (hd : ∀ o ∈ ops.toList,∀ c,o.op ≠ .defer c) : ∀ {fuel : Nat} {listed : Array Bool} {a : Act} {w : World},wpAny P md ops Q fuel listed a w→wpAnyIn (FW r) n P md ops Q fuel listed a w
  | 0,listed,a,w,h => h
  | fuel + 1,listed,a,w,h => ⟨h.1,fun i hi => opI_in hout hd (fun a w h => any_in hout hd h) (h.2 i hi)⟩
def resK (P : Program) (fr : Fr) (kb : KB) : List ResultVar→(List V→Prop)→Prop
  | [],K => K []
  | .tmp t :: rs,K => match look fr t with | some v => resK P fr kb rs (fun vs => K (v :: vs)) | none => False
  | .cell t ty :: rs,K => match look fr t with | some ad => loadK P ty ad kb (fun v => resK P fr kb rs (fun vs => K (v :: vs))) | none => False
def retV : List V→V
  | [v] => v
  | vs => .tup vs
def fin (P : Program) (fn : Func) (K : V→KB→Prop) : Exit→Fr→KB→Prop
  | .normal,fr,kb => resK P fr kb fn.results.toList (fun vs => K (retV vs) kb)
  | .ret,fr,kb => resK P fr kb fn.results.toList (fun vs => K (retV vs) kb)
  | _,_,_ => False
theorem resK_ok {P : Program} {fr : Fr} {kb : KB} {σ : Sg} {E : EH} {n : Nat} {a : Act} (hf : FrOk σ E fr n a) {W : World} (hi : Inv σ E kb W) : ∀ {rs : List ResultVar} {K : List V→Prop},resK P fr kb rs K →
    ∃ vs xs,K vs∧DenL σ E vs xs∧(rs.mapM (m:=Sem) fun | .tmp t => pure (a.tmps.getD t undef) | .cell t ty => do loadVar ty (← asAddr (a.tmps.getD t undef))).run P W = .ok xs W
  | [],K,h => ⟨[],[],h,.nil,by simp⟩
  | .tmp t :: rs,K,h => by
    simp only [resK] at h
    split at h <;> try exact h.elim
    rename_i v hv
    obtain ⟨x,h1,h2⟩:=hf.get t v hv
    obtain ⟨vs,xs,h3,h4,h5⟩:=resK_ok hf hi h
    refine ⟨_,x :: xs,h3,.cons h2 h4,?_⟩
    rw [List.mapM_cons,Sem.run_bind,Sem.run_pure,Result.andThen_ok,Sem.run_bind,h5,Result.andThen_ok]
    simp [Array.getD_eq_getD_getElem?,h1]
  | .cell t ty :: rs,K,h => by
    simp only [resK] at h
    split at h <;> try exact h.elim
    rename_i ad had
    obtain ⟨x,h1,h2⟩:=hf.get t ad had
    obtain ⟨v,y,h6,h7,h8⟩:=loadK_ok h hi h2
    obtain ⟨vs,xs,h3,h4,h5⟩:=resK_ok hf hi h8
    refine ⟨_,y :: xs,h3,.cons h7 h4,?_⟩
    have hx : a.tmps.getD t undef = x:=by simp [Array.getD_eq_getD_getElem?,h1]
    have hload : (do loadVar ty (← asAddr x) : Sem Value).run P W = .ok y W:=by
      unfold Instr.loadAt at h6
      cases x with
      | pointer p => cases p with
        | some p => simpa [Instr.sureAddr,asAddr] using h6
        | none => simp [Instr.sureAddr] at h6
      | _ => simp [Instr.sureAddr] at h6
    rw [List.mapM_cons,Sem.run_bind]
    simp only [hx]
    rw [hload,Result.andThen_ok,Sem.run_bind,h5,Result.andThen_ok]
    simp
def argFr : Nat→List V→Fr
  | _,[] => []
  | k,v :: vs => (k,v) :: argFr (k + 1) vs
theorem look_arg {σ : Sg} {E : EH} : ∀ {vs : List V} {xs : List Value} (k : Nat),DenL σ E vs xs→∀ {t : Nat} {v : V},look (argFr k vs) t = some v→∃ x,k ≤ t∧xs[t - k]? = some x∧Den σ E v x
  | [],_,k,_,t,v,h => by simp [argFr,look] at h
  | w :: vs,xs,k,hd,t,v,h => by
    simp only [DenL] at hd
    obtain ⟨x,xs',rfl,h1,h2⟩:=hd
    simp only [argFr,look] at h
    split at h
    · rename_i hb
      have:=Nat.eq_of_beq_eq_true hb
      subst this
      cases h
      exact ⟨x,Nat.le_refl _,by simp,h1⟩
    · obtain ⟨y,h3,h4,h5⟩:=look_arg (k + 1) h2 h
      exact ⟨y,by omega,by rw [show t - k = (t - (k + 1)) + 1 by omega]; simpa using h4,h5⟩
theorem fin_results {P : Program} {fn : Func} {fr : Fr} {kb : KB} {K : V→KB→Prop} {σ : Sg} {E : EH} {n : Nat} {a : Act} {W : World} (hf : FrOk σ E fr n a) (hi : Inv σ E kb W) (h : resK P fr kb fn.results.toList (fun vs => K (retV vs) kb)) :
    ∃ v r,(results fn a.tmps).run P W = .ok v W∧Den σ E r v∧K r kb:=by
  obtain ⟨vs,ys,h1,h2,h3⟩:=resK_ok hf hi h
  have hrun : (results fn a.tmps).run P W = .ok (if h : ys.toArray.size = 1 then ys.toArray[0] else .tuple ys.toArray) W:=by
    unfold results
    rw [Sem.run_bind,Array.mapM_eq_mapM_toList]
    simp only [Sem.run_map]
    exact (congrArg (fun z => Result.andThen (Result.andThen z (fun (a : List Value) w' => Result.ok a.toArray w')) (fun (a : Array Value) w' => Sem.run P (pure (if h : a.size = 1 then a[0] else Value.tuple a)) w')) h3).trans rfl
  refine ⟨_,retV vs,hrun,?_,h1⟩
  match vs,ys,h2 with
  | [v],ys,h2 =>
    simp only [DenL] at h2
    obtain ⟨x,xs',rfl,h4,rfl⟩:=h2
    exact h4
  | [],ys,h2 =>
    simp only [DenL] at h2
    subst h2
    simp [retV,Den,DenL]
  | v :: w :: vs,ys,h2 =>
    have hl:=h2.len
    have : ¬ ys.toArray.size = 1:=by simp [hl]
    rw [dif_neg this]
    simp only [retV,Den]
    exact ⟨ys,rfl,h2⟩
theorem exec_yield {P : Program} {o : Oper} {g : Operand} {args : Array Operand} {ats : Array TypeId} (ho : o.op = .call { callee:=.value g,args:=args,argTypes:=ats }) {a : Act} {W : World} {l : Nat} (hg : a.eval g = .func (.yield l) #[] #[]) :
    (execOp a.eval o).run P W = (Instr.yield l (args.map a.eval)).run P W:=by
  have e : execOp a.eval o = (do let d ← resolve a.eval { callee:=.value g,args:=args,argTypes:=ats } o.type; invoke d.target d.args):=by unfold execOp; rw [ho]
  have r : resolve a.eval { callee:=.value g,args:=args,argTypes:=ats } o.type = pure { target:=.fn (.yield l) #[],args:=args.map a.eval }:=by
    unfold resolve
    simp only [hg,Deferred.ofValue,Array.empty_append]
  rw [e,r,Sem.run_bind]
  simp [invoke,Result.andThen]
def runCodeR (P : Program) (X : CallT) (n : Nat) : Code→(Exit→Fr→KB→Prop)→Fr→KB→Prop
  | .skip,Q,fr,kb => Q .normal fr kb
  | .label _,Q,fr,kb => Q .normal fr kb
  | .region _ ops false,Q,fr,kb => match Region.noSelect ops,noDefer ops with
    | true,true => seqK P X n ops ops.toList (Q .normal) fr kb
    | _,_ => False
  | .region _ ops true,Q,fr,kb => match Region.noSelect ops,edgesB ops,noDefer ops with
    | true,true,true => drawK P X n ops (planOf P ops 0 ops.size) ops.size 0 [] (Q .normal) fr kb
    | _,_,_ => False
  | .seq x y,Q,fr,kb => runCodeR P X n x (fun e fr kb => match e with | .normal => runCodeR P X n y Q fr kb | e => Q e fr kb) fr kb
  | .cond c x y,Q,fr,kb => match ev fr c with
    | some .tt => runCodeR P X n x Q fr kb
    | some .ff => runCodeR P X n y Q fr kb
    | some (.sb b) => (b = true→runCodeR P X n x Q fr kb)∧(b = false→runCodeR P X n y Q fr kb)
    | _ => False
  | .block id x,Q,fr,kb => runCodeR P X n x (fun e fr kb => match e with
    | .exit i => match Nat.beq i id with | true => Q .normal fr kb | false => Q (.exit i) fr kb
    | e => Q e fr kb) fr kb
  | .exit id,Q,fr,kb => Q (.exit id) fr kb
  | _,_,_,_ => False
theorem runCodeR_ok {P : Program} {X : CallT} (hX : CallOk P X) (hm : P.follows .mixedOrders = true) {c : Cx} {n : Nat} {r : Option Nat} : ∀ (code : Code) {Q : Exit→Fr→KB→Prop} {Q' : Exit→Act→World→Prop},QOk c n Q Q'→¬ LetsOut Q'→∀ {a : Act} {W : World},
    Hat c n (runCodeR P X n code Q) a W→code.wpIn (FW r) 0 P Q' a W
  | .skip,Q,Q',hQ,ho,a,W,h => wpIn_skip (hQ.hat _ _ _ h)
  | .label _,Q,Q',hQ,ho,a,W,h => wpIn_label (hQ.hat _ _ _ h)
  | .region id ops false,Q,Q',hQ,ho,a,W,h => by
    obtain ⟨σ,E,fr,kb,hs,hf,h⟩:=h
    simp only [runCodeR] at h
    split at h <;> try exact h.elim
    rename_i hns hnd
    exact wpIn_region_list (list_in ho (noDefer_ok hnd) (seqK_ok hX (fun a W h => hQ.hat _ _ _ h) ⟨σ,E,fr,kb,hs,hf,h⟩))
  | .region id ops true,Q,Q',hQ,ho,a,W,h => by
    obtain ⟨σ,E,fr,kb,hs,hf,h⟩:=h
    simp only [runCodeR] at h
    split at h <;> try exact h.elim
    rename_i hns hed hnd
    refine wpIn_region_any hm (any_in ho (noDefer_ok hnd) ?_)
    have hd:=(hs.trans (Inv.drew hs.inv))
    exact (drawK_ok hX hns hed (Q:=Q') (K:=Q .normal) (fun a W h => hQ.hat _ _ _ h) hQ.pan ops.size 0 _ [] fr kb a _ σ E [] ⟨by simp,fun i hi => by simp [hi]⟩ Closed.empty hd hf (fun r hr => by cases hr) h).any
  | .seq x y,Q,Q',hQ,ho,a,W,h => by
    refine wpIn_seq (runCodeR_ok hX hm x (Q':=Exit.then (y.wpIn (FW r) 0 P Q') Q') (Q:=fun e fr kb => match e with | .normal => runCodeR P X n y Q fr kb | e => Q e fr kb) ⟨fun e a W h => ?_,fun ch a a' w h => hQ.pan ch a a' w h⟩ ho (by
      obtain ⟨σ,E,fr,kb,hs,hf,h⟩:=h
      simp only [runCodeR] at h
      exact ⟨σ,E,fr,kb,hs,hf,h⟩))
    cases e with
    | normal => exact runCodeR_ok hX hm y hQ ho h
    | exit id => exact hQ.hat _ _ _ h
    | goto l => exact hQ.hat _ _ _ h
    | ret => exact hQ.hat _ _ _ h
    | panic ch => exact hQ.hat _ _ _ h
    | outgrown => exact hQ.hat _ _ _ h
  | .cond o x y,Q,Q',hQ,ho,a,W,h => by
    obtain ⟨σ,E,fr,kb,hs,hf,h⟩:=h
    simp only [runCodeR] at h
    split at h
    · rename_i hc
      have:=ev_ok hf hc
      simp only [Den] at this
      exact wpIn_cond_true this (runCodeR_ok hX hm x hQ ho ⟨σ,E,fr,kb,hs,hf,h⟩)
    · rename_i hc
      have:=ev_ok hf hc
      simp only [Den] at this
      exact wpIn_cond_false this (runCodeR_ok hX hm y hQ ho ⟨σ,E,fr,kb,hs,hf,h⟩)
    · rename_i b hc
      have:=ev_ok hf hc
      simp only [Den] at this
      exact wpIn_cond_split this (fun hb => runCodeR_ok hX hm x hQ ho ⟨σ,E,fr,kb,hs,hf,h.1 hb⟩) (fun hb => runCodeR_ok hX hm y hQ ho ⟨σ,E,fr,kb,hs,hf,h.2 hb⟩)
    · exact h.elim
  | .block id x,Q,Q',hQ,ho,a,W,h => by
    refine wpIn_block (runCodeR_ok hX hm x (Q':=Exit.inBlock id Q') (Q:=fun e fr kb => match e with
      | .exit i => match Nat.beq i id with | true => Q .normal fr kb | false => Q (.exit i) fr kb
      | e => Q e fr kb) ⟨fun e a W h => ?_,fun ch a a' w h => hQ.pan ch a a' w h⟩ ho (by
      obtain ⟨σ,E,fr,kb,hs,hf,h⟩:=h
      simp only [runCodeR] at h
      exact ⟨σ,E,fr,kb,hs,hf,h⟩))
    cases e with
    | normal => exact hQ.hat _ _ _ h
    | exit i =>
      simp only [Exit.inBlock]
      simp only at h
      cases hb : Nat.beq i id with
      | true =>
        rw [if_pos (Nat.eq_of_beq_eq_true hb)]
        simp only [hb] at h
        exact hQ.hat _ _ _ h
      | false =>
        rw [if_neg (fun e => by subst e; simp at hb)]
        simp only [hb] at h
        exact hQ.hat _ _ _ h
    | goto l => exact hQ.hat _ _ _ h
    | ret => exact hQ.hat _ _ _ h
    | panic ch => exact hQ.hat _ _ _ h
    | outgrown => exact hQ.hat _ _ _ h
  | .loop ..,Q,Q',hQ,ho,a,W,h => by obtain ⟨_,_,_,_,_,_,h⟩:=h; exact h.elim
  | .scope ..,Q,Q',hQ,ho,a,W,h => by obtain ⟨_,_,_,_,_,_,h⟩:=h; exact h.elim
  | .exit _,Q,Q',hQ,ho,a,W,h => wpIn_exit (hQ.hat _ _ _ h)
  | .ret,Q,Q',hQ,ho,a,W,h => by obtain ⟨_,_,_,_,_,_,h⟩:=h; exact h.elim
  | .goto ..,Q,Q',hQ,ho,a,W,h => by obtain ⟨_,_,_,_,_,_,h⟩:=h; exact h.elim
  | .refuse ..,Q,Q',hQ,ho,a,W,h => by obtain ⟨_,_,_,_,_,_,h⟩:=h; exact h.elim
  | .rangeFunc ..,Q,Q',hQ,ho,a,W,h => by obtain ⟨_,_,_,_,_,_,h⟩:=h; exact h.elim
abbrev YieldT:=List V→KB→(V→KB→Prop)→Prop
def opYK (P : Program) (X : CallT) (yv : Value) (Y : YieldT) (o : Oper) (fr : Fr) (kb : KB) (K : V→KB→Prop) : Prop :=
  match o.op with
  | .call { callee:=.value g,args:=args,argTypes:=_ } => match ev fr g with
    | some (.any v) => v = yv∧match evs fr args.toList with
      | some vs => Y vs kb K
      | none => False
    | _ => opK P X o fr kb K
  | .defer _ => False
  | _ => opK P X o fr kb K
def YieldOk (P : Program) (c : Cx) (l : Nat) (Y : YieldT) : Prop :=
  ∀ vs kb K σ E W xs,Y vs kb K→Step c.σ c.E c.kb c.W σ E kb W→DenL σ E vs xs→YieldAt Fence.wide 0 P l xs.toArray W (fun e W' => ∃ v x σ' E' kb',e = .returned x∧Step σ E kb W σ' E' kb' W'∧Den σ' E' v x∧K v kb')
theorem opYK_ok {P : Program} {X : CallT} (hX : CallOk P X) {c : Cx} {l : Nat} {Y : YieldT} (hY : YieldOk P c l Y) {o : Oper} {fr : Fr} {kb : KB} {K : V→KB→Prop} (h : opYK P X (.func (.yield l) #[] #[]) Y o fr kb K) {σ : Sg} {E : EH} {n : Nat} {a : Act} (hf : FrOk σ E fr n a) {W : World} (hs : Step c.σ c.E c.kb c.W σ E kb W) (Q : Exit→Act→World→Prop) :
    o.wpIn Fence.wide 0 P a W (After σ E kb W a o K) Q:=by
  unfold opYK at h
  split at h
  · rename_i g args ats ho
    have hnd : ∀ c,o.op ≠ .defer c:=fun c e => by rw [ho] at e; cases e
    split at h
    · rename_i v hv
      obtain ⟨rfl,h⟩:=h
      split at h <;> try exact h.elim
      rename_i vs hvs
      have hg:=ev_ok hf hv
      simp only [Den] at hg
      have hd:=evs_ok hf hvs
      obtain ⟨fnid,tmps,assign,body,hrun,hround⟩:=hY vs kb K σ E W _ h hs hd
      refine ⟨fun _ _ => trivial,?_⟩
      show o.uponIn Fence.wide 0 P a _ Q ((o.semAt none a.eval).run P W)
      rw [Oper.semAt_none,exec_yield ho hg]
      have ea : args.map a.eval = (args.toList.map a.eval).toArray:=by apply Array.ext'; simp
      rw [ea,hrun]
      refine ⟨fun q => (by cases q),hround.mono ?_⟩
      rintro e W' ⟨v,x,σ',E',kb',rfl,h1,h2,h3⟩
      exact ⟨σ',E',kb',v,x,h1,h2,rfl,h3⟩
    · exact op_in (r:=none) hnd (opK_ok hX h hf hs.inv Q)
  · exact h.elim
  · rename_i hnc hnd
    exact op_in (r:=none) (fun c e => hnd c e) (opK_ok hX h hf hs.inv Q)
def seqYK (P : Program) (X : CallT) (yv : Value) (Y : YieldT) (n : Nat) (ops : Array Oper) : List Oper→(Fr→KB→Prop)→Fr→KB→Prop
  | [],K,fr,kb => K fr kb
  | o :: rest,K,fr,kb => guardK ops o fr (fun fr => opYK P X yv Y o fr kb (fun v kb' => putK n o.dst v fr (fun fr' => seqYK P X yv Y n ops rest K fr' kb')))
      (fun fr => putK n o.dst (.any undef) fr (fun fr' => seqYK P X yv Y n ops rest K fr' kb))
theorem seqYK_ok {P : Program} {X : CallT} (hX : CallOk P X) {c : Cx} {l : Nat} {Y : YieldT} (hY : YieldOk P c l Y) {n : Nat} {ops : Array Oper} {Q : Exit→Act→World→Prop} {K : Fr→KB→Prop} (hQ : ∀ a W,Hat c n K a W→Q .normal a W) :
    ∀ {os : List Oper} {a : Act} {W : World},Hat c n (seqYK P X (.func (.yield l) #[] #[]) Y n ops os K) a W→wpListIn Fence.wide 0 P ops Q os a W
  | [],a,W,h => hQ a W h
  | o :: rest,a,W,h => by
    obtain ⟨σ,E,fr,kb,hs,hf,h⟩:=h
    simp only [seqYK] at h
    obtain ⟨fr',hf',h | h⟩:=guardK_ok h hf
    · unfold wpListIn
      rw [if_pos h.1]
      exact Oper.wpIn_mono (fun a' W' ha => seqYK_ok hX hY hQ (ha.hat hs hf')) (opYK_ok hX hY h.2 hf' hs Q)
    · unfold wpListIn
      rw [if_neg (by simp [h.1])]
      obtain ⟨fr2,h1,h2⟩:=putK_ok h.2 hf' (σ:=σ) (E:=E) (x:=undef) (by simp [Den])
      exact ⟨fun _ _ => trivial,seqYK_ok hX hY hQ ⟨σ,E,fr2,kb,hs,h1,h2⟩⟩
def runCodeY (P : Program) (X : CallT) (yv : Value) (Y : YieldT) (oli : Option LI) (n0 n : Nat) : Code→(Exit→Fr→KB→Prop)→Fr→KB→Prop
  | .skip,Q,fr,kb => Q .normal fr kb
  | .label _,Q,fr,kb => Q .normal fr kb
  | .region _ ops false,Q,fr,kb => seqYK P X yv Y n ops ops.toList (Q .normal) fr kb
  | .seq x y,Q,fr,kb => runCodeY P X yv Y oli n0 n x (fun e fr kb => match e with | .normal => runCodeY P X yv Y oli n0 n y Q fr kb | e => Q e fr kb) fr kb
  | .cond c x y,Q,fr,kb => match ev fr c with
    | some .tt => runCodeY P X yv Y oli n0 n x Q fr kb
    | some .ff => runCodeY P X yv Y oli n0 n y Q fr kb
    | some (.sb b) => (b = true→runCodeY P X yv Y oli n0 n x Q fr kb)∧(b = false→runCodeY P X yv Y oli n0 n y Q fr kb)
    | _ => False
  | .block id x,Q,fr,kb => runCodeY P X yv Y oli n0 n x (fun e fr kb => match e with
    | .exit i => match Nat.beq i id with | true => Q .normal fr kb | false => Q (.exit i) fr kb
    | e => Q e fr kb) fr kb
  | .loop x,Q,fr,kb => match oli with
    | some li => atHead n0 li.nils li.live fr kb (fun s => At li s ∧
        li.all (fun i => runCodeY P X yv Y oli n0 n x (fun e fr kb => match e with
          | .normal => atHead n0 li.nils li.live fr kb (fun s => Nx li i s)
          | e => Q e fr kb) (li.live.zip (li.st i).1) (li.st i).2))
    | none => False
  | .exit id,Q,fr,kb => Q (.exit id) fr kb
  | .ret,Q,fr,kb => Q .ret fr kb
  | _,_,_,_ => False
theorem runCodeY_ok {P : Program} {X : CallT} (hX : CallOk P X) {c : Cx} {l : Nat} {Y : YieldT} (hY : YieldOk P c l Y) {oli : Option LI} {n : Nat} : ∀ (code : Code) {Q : Exit→Fr→KB→Prop} {Q' : Exit→Act→World→Prop},QOk c n Q Q'→∀ {a : Act} {W : World},
    Hat c n (runCodeY P X (.func (.yield l) #[] #[]) Y oli c.σ.length n code Q) a W→code.wp P Q' a W
  | .skip,Q,Q',hQ,a,W,h => wp_skip (hQ.hat _ _ _ h)
  | .label _,Q,Q',hQ,a,W,h => wp_label (hQ.hat _ _ _ h)
  | .exit id,Q,Q',hQ,a,W,h => wp_exit (hQ.hat _ _ _ h)
  | .ret,Q,Q',hQ,a,W,h => wp_ret (hQ.hat _ _ _ h)
  | .region id ops false,Q,Q',hQ,a,W,h => wpIn_wide.1 (wpIn_region_list (seqYK_ok hX hY (fun a W h => hQ.hat _ _ _ h) h))
  | .seq x y,Q,Q',hQ,a,W,h => by
    refine wp_seq (runCodeY_ok hX hY x (Q':=Exit.then (y.wp P Q') Q') (Q:=fun e fr kb => match e with | .normal => runCodeY P X (.func (.yield l) #[] #[]) Y oli c.σ.length n y Q fr kb | e => Q e fr kb) ⟨fun e a W h => ?_,fun ch a a' w h => hQ.pan ch a a' w h⟩ h)
    cases e with
    | normal => exact runCodeY_ok hX hY y hQ h
    | exit id => exact hQ.hat _ _ _ h
    | goto l => exact hQ.hat _ _ _ h
    | ret => exact hQ.hat _ _ _ h
    | panic ch => exact hQ.hat _ _ _ h
    | outgrown => exact hQ.hat _ _ _ h
  | .cond o x y,Q,Q',hQ,a,W,h => by
    obtain ⟨σ,E,fr,kb,hs,hf,h⟩:=h
    simp only [runCodeY] at h
    split at h
    · rename_i hc
      have:=ev_ok hf hc
      simp only [Den] at this
      exact wp_cond_true this (runCodeY_ok hX hY x hQ ⟨σ,E,fr,kb,hs,hf,h⟩)
    · rename_i hc
      have:=ev_ok hf hc
      simp only [Den] at this
      exact wp_cond_false this (runCodeY_ok hX hY y hQ ⟨σ,E,fr,kb,hs,hf,h⟩)
    · rename_i b hc
      have:=ev_ok hf hc
      simp only [Den] at this
      exact wp_cond_split this (fun hb => runCodeY_ok hX hY x hQ ⟨σ,E,fr,kb,hs,hf,h.1 hb⟩) (fun hb => runCodeY_ok hX hY y hQ ⟨σ,E,fr,kb,hs,hf,h.2 hb⟩)
    · exact h.elim
  | .block id x,Q,Q',hQ,a,W,h => by
    refine wp_block (runCodeY_ok hX hY x (Q':=Exit.inBlock id Q') (Q:=fun e fr kb => match e with
      | .exit i => match Nat.beq i id with | true => Q .normal fr kb | false => Q (.exit i) fr kb
      | e => Q e fr kb) ⟨fun e a W h => ?_,fun ch a a' w h => hQ.pan ch a a' w h⟩ h)
    cases e with
    | normal => exact hQ.hat _ _ _ h
    | exit i =>
      simp only [Exit.inBlock]
      simp only at h
      cases hb : Nat.beq i id with
      | true =>
        rw [if_pos (Nat.eq_of_beq_eq_true hb)]
        simp only [hb] at h
        exact hQ.hat _ _ _ h
      | false =>
        rw [if_neg (fun e => by subst e; simp at hb)]
        simp only [hb] at h
        exact hQ.hat _ _ _ h
    | goto l => exact hQ.hat _ _ _ h
    | ret => exact hQ.hat _ _ _ h
    | panic ch => exact hQ.hat _ _ _ h
    | outgrown => exact hQ.hat _ _ _ h
  | .loop x,Q,Q',hQ,a,W,h => by
    obtain ⟨σ,E,fr,kb,hs,hf,h⟩:=h
    simp only [runCodeY] at h
    split at h <;> try exact h.elim
    rename_i li
    obtain ⟨s,⟨⟨⟨i,rfl⟩⟩,hall0⟩,hh⟩:=atHead_ok h hs hf
    refine wp_loop_ghost (fun k a w => ∃ i,li.μ i = k∧Hat c n (fun fr' kb' => fr' = li.live.zip (li.st i).1∧kb' = (li.st i).2) a w) (li.μ i) ⟨i,rfl,hh⟩ ?_
    rintro k a' w' ⟨j,rfl,σ',E',fr',kb',hs',hf',rfl,rfl⟩
    refine runCodeY_ok hX hY x (Q':=Exit.then (fun a' w' => ∃ n',n' < li.μ j∧∃ i,li.μ i = n'∧Hat c n (fun fr' kb' => fr' = li.live.zip (li.st i).1∧kb' = (li.st i).2) a' w') Q') (Q:=fun e fr kb => match e with
          | .normal => atHead c.σ.length li.nils li.live fr kb (fun s => Nx li j s)
          | e => Q e fr kb) ⟨fun e a W h => ?_,fun ch a a' w h => hQ.pan ch a a' w h⟩ ⟨σ',E',_,_,hs',hf',li.all_ok _ hall0 j⟩
    cases e with
    | normal =>
      obtain ⟨σ2,E2,fr2,kb2,hs2,hf2,h2⟩:=h
      obtain ⟨s,⟨⟨j',rfl,hlt⟩⟩,hh⟩:=atHead_ok h2 hs2 hf2
      exact ⟨_,hlt,j',rfl,hh⟩
    | exit id => exact hQ.hat _ _ _ h
    | goto l => exact hQ.hat _ _ _ h
    | ret => exact hQ.hat _ _ _ h
    | panic ch => exact hQ.hat _ _ _ h
    | outgrown => exact hQ.hat _ _ _ h
  | .region id ops true,Q,Q',hQ,a,W,h => by obtain ⟨_,_,_,_,_,_,h⟩:=h; exact h.elim
  | .scope ..,Q,Q',hQ,a,W,h => by obtain ⟨_,_,_,_,_,_,h⟩:=h; exact h.elim
  | .goto ..,Q,Q',hQ,a,W,h => by obtain ⟨_,_,_,_,_,_,h⟩:=h; exact h.elim
  | .refuse ..,Q,Q',hQ,a,W,h => by obtain ⟨_,_,_,_,_,_,h⟩:=h; exact h.elim
  | .rangeFunc ..,Q,Q',hQ,a,W,h => by obtain ⟨_,_,_,_,_,_,h⟩:=h; exact h.elim
def runFnY (P : Program) (X : CallT) (yv : Value) (Y : YieldT) (oli : Option LI) (f : FuncId) (args : List V) (kb : KB) (K : V→KB→Prop) : Prop :=
  match P.funcs[f]? with
  | some fn => match fn.body,Nat.ble args.length fn.ntmps with
    | some code,true => runCodeY P X yv Y oli kb.length fn.ntmps code (fin P fn K) (argFr 0 args) kb
    | _,_ => False
  | none => False
theorem runFnY_ok {P : Program} {X : CallT} (hX : CallOk P X) {l : Nat} {Y : YieldT} {oli : Option LI} {f : FuncId} {args : List V} {kb : KB} {K : V→KB→Prop} (h : runFnY P X (.func (.yield l) #[] #[]) Y oli f args kb K) {σ : Sg} {E : EH} {W : World} {xs : List Value} (hi : Inv σ E kb W)
    (hd : DenL σ E args xs) (hY : YieldOk P ⟨σ,E.strip,kb,W⟩ l Y) : Calls P f xs.toArray W (fun e W' => ∃ v r σ' E' kb',e = .returned v∧Step σ E kb W σ' E' kb' W'∧Den σ' E' r v∧K r kb'):=by
  unfold runFnY at h
  split at h <;> try exact h.elim
  rename_i fn hfn
  split at h <;> try exact h.elim
  rename_i code hcode hb
  have hle:=Nat.le_of_ble_eq_true hb
  rw [← hd.len] at hle
  rw [← hi.len] at h
  have hi0:=hi.strip
  have hd0 : DenL σ E.strip args xs:=by
    have:=DenL.cmono (τ:=[]) E.strip_cle hd
    rwa [List.append_nil] at this
  refine callsIn_wide.1 (callsIn_of_wp_marks (n:=0) hfn hcode trivial (wpIn_wide.2 (wp_mono (Q:=fun e a w => match e with | .panic _ => False | e => bodyPostM Fence.wide 0 P fn (fun e W' => ∃ v r σ' E' kb',e = .returned v∧Step σ E kb W σ' E' kb' W'∧Den σ' E' r v∧K r kb') e a w) (runCodeY_ok hX (c:=⟨σ,E.strip,kb,W⟩) hY (oli:=oli) (n:=fn.ntmps) code (Q:=fin P fn K) ⟨fun e a' W' hh => ?_,fun ch a a' w hp => ?_⟩ ?_) (fun e a w hq => ?_))))
  · obtain ⟨σ',E',fr',kb',hs,hf,hK⟩:=hh
    have key : resK P fr' kb' fn.results.toList (fun vs => K (retV vs) kb')→LeavesInM Fence.wide 0 P fn a'.tmps (fun e W' => ∃ v r σ' E' kb',e = .returned v∧Step σ E kb W σ' E' kb' W'∧Den σ' E' r v∧K r kb') a'.defers .returning W':=by
      intro hK
      refine leaves_marks a'.defers W' hf.defers.nodup (fun d hd => ?_) (fun W2 e1 e2 e3 e4 e5 => ?_)
      · obtain ⟨b,h1,h2⟩:=hf.defers.all d hd
        exact ⟨b,h1,hs.inv.imm b _ h2⟩
      · obtain ⟨E2,h1,h2⟩:=Step.unmark hi hs e1 e2 e3 e4 (M:=fun b => { target:=.collected b,args:=#[] } ∈ a'.defers) (fun b hb => by
          obtain ⟨b',k1,k2⟩:=hf.defers.all _ hb
          cases k1; exact k2) (fun b hb => e5 b (fun d hd e => hb (e ▸ hd)))
        have hf2 : FrOk σ' E2 fr' fn.ntmps { a' with defers:=[] }:=⟨hf.size,MkOk.nil _,fun t v hv => by
          obtain ⟨x,k1,k2⟩:=hf.get t v hv
          refine ⟨x,k1,?_⟩
          have:=Den.cmono (τ:=[]) h2 k2
          rwa [List.append_nil] at this⟩
        obtain ⟨v,r,k1,k2,k3⟩:=fin_results hf2 h1.inv hK
        exact ⟨v,k1,v,r,σ',E2,kb',rfl,h1,k2,k3⟩
    cases e with
    | normal => exact key hK
    | ret => exact key hK
    | exit id => exact hK.elim
    | goto l => exact hK.elim
    | panic ch => exact hK.elim
    | outgrown => exact hK.elim
  · exact hp
  rotate_left
  · cases e <;> first | exact hq | exact hq.elim
  · refine ⟨σ,E.strip,argFr 0 args,kb,Step.refl hi0,⟨by simp; omega,MkOk.nil _,fun t v hv => ?_⟩,h⟩
    obtain ⟨x,_,h2,h3⟩:=look_arg 0 hd0 hv
    refine ⟨x,?_,h3⟩
    have hlt : t < xs.length:=by
      have:=(List.getElem?_eq_some_iff.1 h2).1
      simpa using this
    rw [Array.getElem?_append_left (by simpa using hlt)]
    simpa using h2
def bindFr (n : Nat) : List Nat→List V→Fr→Option Fr
  | [],[],fr => some fr
  | t :: ts,v :: vs,fr => match Nat.blt t n with
    | true => bindFr n ts vs ((t,v) :: fr)
    | false => none
  | _,_,_ => none
theorem bindFr_ok {σ : Sg} {E : EH} {n : Nat} : ∀ {ts : List Nat} {vs : List V} {fr fr1 : Fr} {xs : List Value} {tmps : Array Value} {ds : List Deferred},bindFr n ts vs fr = some fr1→DenL σ E vs xs→FrOk σ E fr n { tmps:=tmps,defers:=ds } →
    ts.length = xs.length∧FrOk σ E fr1 n { tmps:=(ts.zip xs).foldl (fun tmps p => tmps.setIfInBounds p.1 p.2) tmps,defers:=ds }
  | [],[],fr,fr1,xs,tmps,ds,h,hd,hf => by
    simp only [bindFr,Option.some.injEq] at h
    subst h
    simp only [DenL] at hd
    subst hd
    exact ⟨rfl,hf⟩
  | t :: ts,v :: vs,fr,fr1,xs,tmps,ds,h,hd,hf => by
    simp only [DenL] at hd
    obtain ⟨x,xs',rfl,h1,h2⟩:=hd
    simp only [bindFr] at h
    split at h <;> try (cases h; done)
    rename_i hb
    have hf' : FrOk σ E ((t,v) :: fr) n { tmps:=tmps.setIfInBounds t x,defers:=ds }:=hf.put (of_decide_eq_true (by simpa [Nat.blt_eq] using hb)) h1
    obtain ⟨k1,k2⟩:=bindFr_ok h h2 hf'
    exact ⟨by simp [k1],k2⟩
  | [],_ :: _,_,_,_,_,_,h,_,_ => by simp [bindFr] at h
  | _ :: _,[],_,_,_,_,_,h,_,_ => by simp [bindFr] at h
def roundY (P : Program) (X : CallT) (n : Nat) (ps : Array Tmp) (assign body : Code) (fr : Fr) : YieldT:=fun vs kb K => match bindFr n ps.toList vs fr with
  | some fr1 => runCodeR P X n assign (fun e fr2 kb2 => match e with
      | .normal => runCodeR P X n body (fun e _ kb3 => match e with | .normal => K .tt kb3 | _ => False) fr2 kb2
      | _ => False) fr1 kb
  | none => False
theorem Inv.putOther {σ : Sg} {E : EH} {kb : KB} {W : World} (h : Inv σ E kb W) {l : Nat} (hno : ¬ Owns σ kb l) (hE : E l = none) (o : Obj) : Inv σ E kb (W.putObj l o) :=
  ⟨h.len,fun i r x h1 h2 => by
    have:=(h.obj i r x h1 h2).mono (τ:=[]) (W':=W.putObj l o) (EH.le.refl E) (fun b hb => World.putObj_heap_other (fun e => by subst e; exact hno ⟨i,r,x,h1,h2,hb⟩))
    simpa using this,h.disj,fun b x hb => by
    rw [World.putObj_heap_other (fun e => by subst e; rw [hE] at hb; cases hb)]
    exact h.imm b x hb,h.sep⟩
theorem Step.toggle {σ2 : Sg} {E2 : EH} {kb2 : KB} {W2 : World} {σ3 : Sg} {E3 : EH} {kb3 : KB} {W3 : World} {σ4 : Sg} {E4 : EH} {kb4 : KB} {W4 : World} {l : Nat} {o o1 : Obj}
    (SA : Step σ2 E2 kb2 W2 σ3 E3 kb3 W3) (SB : Step σ3 E3 kb3 (W3.putObj l o1) σ4 E4 kb4 W4) (hl : W2.heap[l]? = some o) (hno : ¬ Owns σ4 kb4 l) (hE : E4 l = none) : Step σ2 E2 kb2 W2 σ4 E4 kb4 (W4.putObj l o):=by
  have hlt : l < W2.heap.size:=(Array.getElem?_eq_some_iff.1 hl).1
  have h1:=SA.stp.size
  have h2:=SB.stp.size
  rw [World.putObj_size] at h2
  refine ⟨SB.inv.putOther hno hE o,⟨?_,?_,?_,by rw [World.putObj_size]; omega,fun k hk hn => ?_⟩,?_,SA.le.trans SB.le,fun b hb => ?_,fun b x hb => ?_⟩
  · exact SB.stp.os.trans SA.stp.os
  · exact SB.stp.tape.trans SA.stp.tape
  · exact SB.stp.output.trans SA.stp.output
  · by_cases hkl : k = l
    · subst hkl
      rw [World.putObj_heap_same (by omega),hl]
    · rw [World.putObj_heap_other hkl,SB.stp.block k (by rw [World.putObj_size]; omega) (fun ho => (SA.own k ho).elim hn (fun q => by omega)),World.putObj_heap_other hkl]
      exact SA.stp.block k hk hn
  · obtain ⟨τ,rfl⟩:=SA.pre
    obtain ⟨τ',rfl⟩:=SB.pre
    exact ⟨τ ++ τ',by rw [List.append_assoc]⟩
  · rcases SB.own b hb with q | q
    · exact SA.own b q
    · rw [World.putObj_size] at q; exact .inr (by omega)
  · rcases SB.new b x hb with q | q | q
    · exact SA.new b x q
    · rcases SA.own b q with q | q
      · exact .inr (.inl q)
      · exact .inr (.inr q)
    · rw [World.putObj_size] at q; exact .inr (.inr (by omega))
theorem roundY_ok {P : Program} {X : CallT} (hX : CallOk P X) (hm : P.follows .mixedOrders = true) {c : Cx} {l n : Nat} {r : Loop} (hl : c.W.heap[l]? = some (.loop r)) (hno : ¬ Owns c.σ c.kb l) (hE : c.E l = none) (hr : r.state = .ready) (hp : r.pending = none) {fr : Fr} {ds : List Deferred}
    (hf : FrOk c.σ c.E fr n { tmps:=r.tmps,defers:=ds }) : YieldOk P c l (roundY P X n r.params r.assign r.body fr):=by
  intro vs kb2 K σ2 E2 W2 xs hy hs2 hd
  have hlt : l < c.W.heap.size:=(Array.getElem?_eq_some_iff.1 hl).1
  have hl2 : W2.heap[l]? = some (.loop r):=by rw [hs2.stp.block l hlt hno]; exact hl
  have hno2 : ¬ Owns σ2 kb2 l:=fun h => (hs2.own l h).elim hno (fun q => by omega)
  have hE2 : E2 l = none:=by
    cases h : E2 l with
    | none => rfl
    | some x =>
      rcases hs2.new l x h with k | k | k
      · rw [hE] at k; cases k
      · exact (hno k).elim
      · omega
  have hlt2 : l < W2.heap.size:=(Array.getElem?_eq_some_iff.1 hl2).1
  unfold roundY at hy
  split at hy <;> try exact hy.elim
  rename_i fr1 hb
  have hf2 : FrOk σ2 E2 fr n { tmps:=r.tmps,defers:=[] }:=by
    obtain ⟨τ,rfl⟩:=hs2.pre
    have:=hf.mono (τ:=τ) hs2.le
    exact ⟨this.size,MkOk.nil _,this.get⟩
  obtain ⟨hlen,hfr⟩:=bindFr_ok hb hd hf2
  have etm : (r.params.zip xs.toArray).foldl (fun tmps (x : Tmp × Value) => tmps.setIfInBounds x.1 x.2) r.tmps = (r.params.toList.zip xs).foldl (fun tmps p => tmps.setIfInBounds p.1 p.2) r.tmps:=by
    rw [← Array.foldl_toList]
    simp
  refine ⟨r.fn,_,r.assign,r.body,run_yield hl2 (by simpa using hlen.symm),roundIn_of_wpIn (F:=Fence.wide) trivial ?_⟩
  refine runCodeR_ok hX hm (c:=⟨σ2,E2,kb2,W2⟩) (n:=n) (r:=some l) r.assign (Q:=fun e fr2 kb2 => match e with
      | .normal => runCodeR P X n r.body (fun e _ kb3 => match e with | .normal => K .tt kb3 | _ => False) fr2 kb2
      | _ => False) ⟨fun e a' W3 hh => ?_,fun ch a a' w h => h⟩ (fun ⟨_,_,h⟩ => h) ⟨σ2,E2,fr1,kb2,Step.refl hs2.inv,?_,hy⟩
  rotate_left
  · have:=hfr
    rw [← etm] at this
    exact this
  cases e with
  | normal =>
    obtain ⟨σ3,E3,fr2,kb3,hs3,hf3,hh⟩:=hh
    have hl3 : W3.heap[l]? = some (.loop r):=by rw [hs3.stp.block l hlt2 hno2]; exact hl2
    have hno3 : ¬ Owns σ3 kb3 l:=fun h => (hs3.own l h).elim hno2 (fun q => by dsimp only at q; omega)
    have hE3 : E3 l = none:=by
      cases h : E3 l with
      | none => rfl
      | some x =>
        rcases hs3.new l x h with k | k | k
        · dsimp only at k; rw [hE2] at k; cases k
        · exact (hno2 k).elim
        · dsimp only at k; omega
    have hlt3 : l < W3.heap.size:=(Array.getElem?_eq_some_iff.1 hl3).1
    refine ⟨_,run_beginRound hl3 hr,?_⟩
    have hi3:=hs3.inv.putOther hno3 hE3 (.loop { r with state:=.busy })
    refine runCodeR_ok hX hm (c:=⟨σ3,E3,kb3,W3.putObj l (.loop { r with state:=.busy })⟩) (n:=n) (r:=some l) r.body (Q:=fun e _ kb3 => match e with | .normal => K .tt kb3 | _ => False) ⟨fun e a5 W4 hh => ?_,fun ch a a' w h => h⟩ (fun ⟨_,_,h⟩ => h) ⟨σ3,E3,fr2,kb3,Step.refl hi3,hf3,hh⟩
    cases e with
    | normal =>
      obtain ⟨σ4,E4,fr4,kb4,hs4,hf4,hK⟩:=hh
      have hsz : l < (W3.putObj l (.loop { r with state:=.busy })).heap.size:=by rw [World.putObj_size]; exact hlt3
      have hl4 : W4.heap[l]? = some (.loop { r with state:=.busy }):=by
        rw [hs4.stp.block l hsz hno3]; exact World.putObj_heap_same hlt3
      have hno4 : ¬ Owns σ4 kb4 l:=fun h => (hs4.own l h).elim hno3 (fun q => by dsimp only at q; omega)
      have hE4 : E4 l = none:=by
        cases h : E4 l with
        | none => rfl
        | some x =>
          rcases hs4.new l x h with k | k | k
          · dsimp only at k; rw [hE3] at k; cases k
          · exact (hno3 k).elim
          · dsimp only at k; omega
      have er : ({ r with state:=.ready,pending:=none } : Loop) = r:=by cases r; simp only at hr hp; subst hr; subst hp; rfl
      refine ⟨_,_,run_endRound none hl4,.tt,.bool true,σ4,E4,kb4,rfl,?_,by simp only [Den],hK⟩
      show Step σ2 E2 kb2 W2 σ4 E4 kb4 (W4.putObj l (.loop { r with state:=.ready,pending:=none }))
      rw [er]
      exact Step.toggle hs3 hs4 hl2 hno4 hE4
    | exit id => obtain ⟨_,_,_,_,_,_,h⟩:=hh; exact h.elim
    | goto l => obtain ⟨_,_,_,_,_,_,h⟩:=hh; exact h.elim
    | ret => obtain ⟨_,_,_,_,_,_,h⟩:=hh; exact h.elim
    | panic ch => obtain ⟨_,_,_,_,_,_,h⟩:=hh; exact h.elim
    | outgrown => obtain ⟨_,_,_,_,_,_,h⟩:=hh; exact h.elim
  | exit id => obtain ⟨_,_,_,_,_,_,h⟩:=hh; exact h.elim
  | goto l => obtain ⟨_,_,_,_,_,_,h⟩:=hh; exact h.elim
  | ret => obtain ⟨_,_,_,_,_,_,h⟩:=hh; exact h.elim
  | panic ch => obtain ⟨_,_,_,_,_,_,h⟩:=hh; exact h.elim
  | outgrown => obtain ⟨_,_,_,_,_,_,h⟩:=hh; exact h.elim
end Vc
set_option linter.unusedSimpArgs false
set_option linter.unusedVariables false
namespace Vc
open Go
def runCode (P : Program) (X : CallT) : (Nat→Option LI)→Nat→Nat→Code→(Exit→Fr→KB→Prop)→Fr→KB→Prop
  | T,n0,n,.skip,Q,fr,kb => Q .normal fr kb
  | T,n0,n,.label _,Q,fr,kb => Q .normal fr kb
  | T,n0,n,.region _ ops false,Q,fr,kb => match Region.noSelect ops with
    | true => seqK P X n ops ops.toList (Q .normal) fr kb
    | false => seqXK P X n ops ops.toList (Q .normal) fr kb
  | T,n0,n,.region _ ops true,Q,fr,kb => match Region.noSelect ops,edgesB ops with
    | true,true => drawK P X n ops (planOf P ops 0 ops.size) ops.size 0 [] (Q .normal) fr kb
    | _,_ => False
  | T,n0,n,.seq x y,Q,fr,kb => match (firstReg y).bind (fun r => T (1000 + r)) with
    | some li => runCode P X T n0 n x (fun e fr kb => match e with | .normal => atHead n0 li.nils li.live fr kb (fun s => At li s) | e => Q e fr kb) fr kb ∧
        li.all (fun i => runCode P X (subT li i T) n0 n y Q (li.live.zip (li.st i).1) (li.st i).2)
    | none => runCode P X T n0 n x (fun e fr kb => match e with | .normal => runCode P X T n0 n y Q fr kb | e => Q e fr kb) fr kb
  | T,n0,n,.cond c x y,Q,fr,kb => match ev fr c with
    | some .tt => runCode P X T n0 n x Q fr kb
    | some .ff => runCode P X T n0 n y Q fr kb
    | some (.sb b) => (b = true→runCode P X T n0 n x Q fr kb)∧(b = false→runCode P X T n0 n y Q fr kb)
    | _ => False
  | T,n0,n,.block id x,Q,fr,kb => runCode P X T n0 n x (fun e fr kb => match e with
    | .exit i => match Nat.beq i id with | true => Q .normal fr kb | false => Q (.exit i) fr kb
    | e => Q e fr kb) fr kb
  | T,n0,n,.loop x,Q,fr,kb => match (firstReg x).bind T with
    | some li => atHead n0 li.nils li.live fr kb (fun s => At li s ∧
        li.all (fun i => runCode P X (subT li i T) n0 n x (fun e fr kb => match e with
          | .normal => atHead n0 li.nils li.live fr kb (fun s => Nx li i s)
          | e => Q e fr kb) (li.live.zip (li.st i).1) (li.st i).2))
    | none => iter (fun Q fr kb => runCode P X T n0 n x Q fr kb) Q 600 fr kb
  | T,n0,n,.scope x,Q,fr,kb => runCode P X T n0 n x (fun e fr kb => match e with | .goto _ => False | e => Q e fr kb) fr kb
  | T,n0,n,.rangeFunc g ps assign body,Q,fr,kb => match ev fr g with
    | some (.fn f cap) => match hasBody P f with
      | true => match (firstReg body).bind (fun r => T (2000 + r)) with
        | none => ∀ l,X f (.any (.func (.yield l) #[] #[]) :: cap) kb (fun _ kb' => Q .normal fr kb')
        | some lo => ∀ l,runFnY P X (.func (.yield l) #[] #[]) (roundY P X n ps assign body fr) (lo.itl l) f (.any (.func (.yield l) #[] #[]) :: cap) kb (fun _ kb' => Q .normal fr kb')
      | false => False
    | _ => False
  | T,n0,n,.exit id,Q,fr,kb => Q (.exit id) fr kb
  | T,n0,n,.ret,Q,fr,kb => Q .ret fr kb
  | _,_,_,_,_,_,_ => False
theorem runCode_ok {P : Program} {X : CallT} (hX : CallOk P X) (hm : P.follows .mixedOrders = true) {c : Cx} {n : Nat} : ∀ (code : Code) {T : Nat→Option LI} {Q : Exit→Fr→KB→Prop} {Q' : Exit→Act→World→Prop},QOk c n Q Q'→∀ {a : Act} {W : World},
    Hat c n (runCode P X T c.σ.length n code Q) a W→code.wp P Q' a W
  | .skip,T,Q,Q',hQ,a,W,h => wp_skip (hQ.hat _ _ _ h)
  | .label _,T,Q,Q',hQ,a,W,h => wp_label (hQ.hat _ _ _ h)
  | .exit id,T,Q,Q',hQ,a,W,h => wp_exit (hQ.hat _ _ _ h)
  | .ret,T,Q,Q',hQ,a,W,h => wp_ret (hQ.hat _ _ _ h)
  | .region id ops false,T,Q,Q',hQ,a,W,h => by
    cases hns : Region.noSelect ops with
    | true =>
      simp only [runCode,hns] at h
      exact wp_region_list (seqK_ok hX (fun a W h => hQ.hat _ _ _ h) h)
    | false =>
      simp only [runCode,hns] at h
      exact regionX_ok hX (fun a W h => hQ.hat _ _ _ h) h
  | .region id ops true,T,Q,Q',hQ,a,W,h => by
    obtain ⟨σ,E,fr,kb,hs,hf,h⟩:=h
    simp only [runCode] at h
    split at h <;> try exact h.elim
    rename_i hns hed
    refine wp_region_any hm ?_
    have hd:=(hs.trans (Inv.drew hs.inv))
    exact (drawK_ok hX hns hed (Q:=Q') (K:=Q .normal) (fun a W h => hQ.hat _ _ _ h) hQ.pan ops.size 0 _ [] fr kb a _ σ E [] ⟨by simp,fun i hi => by simp [hi]⟩ Closed.empty hd hf (fun r hr => by cases hr) h).any
  | .seq x y,T,Q,Q',hQ,a,W,h => by
    cases hcut : (firstReg y).bind (fun r => T (1000 + r)) with
    | some li =>
      obtain ⟨σ,E,fr,kb,hs,hf,h⟩:=h
      simp only [runCode,hcut] at h
      obtain ⟨hx,hy⟩:=h
      refine wp_seq (runCode_ok hX hm x (Q':=Exit.then (y.wp P Q') Q') (Q:=fun e fr kb => match e with | .normal => atHead c.σ.length li.nils li.live fr kb (fun s => At li s) | e => Q e fr kb) ⟨fun e a W h => ?_,fun ch a a' w h => hQ.pan ch a a' w h⟩ ⟨σ,E,fr,kb,hs,hf,hx⟩)
      cases e with
      | normal =>
        obtain ⟨σ2,E2,fr2,kb2,hs2,hf2,h2⟩:=h
        obtain ⟨s,⟨⟨i,rfl⟩⟩,hh⟩:=atHead_ok h2 hs2 hf2
        refine runCode_ok (T:=subT li i T) hX hm y hQ ?_
        obtain ⟨σ3,E3,fr3,kb3,k1,k2,rfl,rfl⟩:=hh
        exact ⟨σ3,E3,_,_,k1,k2,li.all_ok _ hy i⟩
      | exit id => exact hQ.hat _ _ _ h
      | goto l => exact hQ.hat _ _ _ h
      | ret => exact hQ.hat _ _ _ h
      | panic ch => exact hQ.hat _ _ _ h
      | outgrown => exact hQ.hat _ _ _ h
    | none =>
    replace h : Hat c n (runCode P X T c.σ.length n x (fun e fr kb => match e with | .normal => runCode P X T c.σ.length n y Q fr kb | e => Q e fr kb)) a W:=by
      obtain ⟨σ,E,fr,kb,hs,hf,h⟩:=h
      simp only [runCode,hcut] at h
      exact ⟨σ,E,fr,kb,hs,hf,h⟩
    refine wp_seq (runCode_ok hX hm x (Q':=Exit.then (y.wp P Q') Q') (Q:=fun e fr kb => match e with | .normal => runCode P X T c.σ.length n y Q fr kb | e => Q e fr kb) ⟨fun e a W h => ?_,fun ch a a' w h => hQ.pan ch a a' w h⟩ h)
    cases e with
    | normal => exact runCode_ok hX hm y hQ h
    | exit id => exact hQ.hat _ _ _ h
    | goto l => exact hQ.hat _ _ _ h
    | ret => exact hQ.hat _ _ _ h
    | panic ch => exact hQ.hat _ _ _ h
    | outgrown => exact hQ.hat _ _ _ h
  | .cond o x y,T,Q,Q',hQ,a,W,h => by
    obtain ⟨σ,E,fr,kb,hs,hf,h⟩:=h
    simp only [runCode] at h
    split at h
    · rename_i hc
      have:=ev_ok hf hc
      simp only [Den] at this
      exact wp_cond_true this (runCode_ok hX hm x hQ ⟨σ,E,fr,kb,hs,hf,h⟩)
    · rename_i hc
      have:=ev_ok hf hc
      simp only [Den] at this
      exact wp_cond_false this (runCode_ok hX hm y hQ ⟨σ,E,fr,kb,hs,hf,h⟩)
    · rename_i b hc
      have:=ev_ok hf hc
      simp only [Den] at this
      exact wp_cond_split this (fun hb => runCode_ok hX hm x hQ ⟨σ,E,fr,kb,hs,hf,h.1 hb⟩) (fun hb => runCode_ok hX hm y hQ ⟨σ,E,fr,kb,hs,hf,h.2 hb⟩)
    · exact h.elim
  | .block id x,T,Q,Q',hQ,a,W,h => by
    refine wp_block (runCode_ok hX hm x (Q':=Exit.inBlock id Q') (Q:=fun e fr kb => match e with
      | .exit i => match Nat.beq i id with | true => Q .normal fr kb | false => Q (.exit i) fr kb
      | e => Q e fr kb) ⟨fun e a W h => ?_,fun ch a a' w h => hQ.pan ch a a' w h⟩ h)
    cases e with
    | normal => exact hQ.hat _ _ _ h
    | exit i =>
      simp only [Exit.inBlock]
      simp only at h
      cases hb : Nat.beq i id with
      | true =>
        rw [if_pos (Nat.eq_of_beq_eq_true hb)]
        simp only [hb] at h
        exact hQ.hat _ _ _ h
      | false =>
        rw [if_neg (fun e => by subst e; simp at hb)]
        simp only [hb] at h
        exact hQ.hat _ _ _ h
    | goto l => exact hQ.hat _ _ _ h
    | ret => exact hQ.hat _ _ _ h
    | panic ch => exact hQ.hat _ _ _ h
    | outgrown => exact hQ.hat _ _ _ h
  | .loop x,T,Q,Q',hQ,a,W,h => by
    obtain ⟨σ,E,fr,kb,hs,hf,h⟩:=h
    simp only [runCode] at h
    split at h
    case h_2 =>
      refine wp_loop_ghost (fun k a w => Hat c n (iter (fun Q fr kb => runCode P X T c.σ.length n x Q fr kb) Q k) a w) 600 ⟨σ,E,fr,kb,hs,hf,h⟩ ?_
      intro k a' w' hk
      cases k with
      | zero => obtain ⟨_,_,_,_,_,_,h⟩:=hk; exact h.elim
      | succ k =>
        refine runCode_ok hX hm x (Q':=Exit.then (fun a' w' => ∃ n',n' < k + 1∧Hat c n (iter (fun Q fr kb => runCode P X T c.σ.length n x Q fr kb) Q n') a' w') Q')
          (Q:=fun e fr kb => match e with | .normal => iter (fun Q fr kb => runCode P X T c.σ.length n x Q fr kb) Q k fr kb | e => Q e fr kb) ⟨fun e a W h => ?_,fun ch a a' w h => hQ.pan ch a a' w h⟩ hk
        cases e with
        | normal => exact ⟨k,by omega,h⟩
        | exit id => exact hQ.hat _ _ _ h
        | goto l => exact hQ.hat _ _ _ h
        | ret => exact hQ.hat _ _ _ h
        | panic ch => exact hQ.hat _ _ _ h
        | outgrown => exact hQ.hat _ _ _ h
    rename_i li hli
    obtain ⟨s,⟨⟨⟨i,rfl⟩⟩,hall0⟩,hh⟩:=atHead_ok h hs hf
    refine wp_loop_ghost (fun k a w => ∃ i,li.μ i = k∧Hat c n (fun fr' kb' => fr' = li.live.zip (li.st i).1∧kb' = (li.st i).2) a w) (li.μ i) ⟨i,rfl,hh⟩ ?_
    rintro k a' w' ⟨j,rfl,σ',E',fr',kb',hs',hf',rfl,rfl⟩
    refine runCode_ok hX hm x (T:=subT li j T) (Q':=Exit.then (fun a' w' => ∃ n',n' < li.μ j∧∃ i,li.μ i = n'∧Hat c n (fun fr' kb' => fr' = li.live.zip (li.st i).1∧kb' = (li.st i).2) a' w') Q') (Q:=fun e fr kb => match e with
          | .normal => atHead c.σ.length li.nils li.live fr kb (fun s => Nx li j s)
          | e => Q e fr kb) ⟨fun e a W h => ?_,fun ch a a' w h => hQ.pan ch a a' w h⟩ ⟨σ',E',_,_,hs',hf',li.all_ok _ hall0 j⟩
    cases e with
    | normal =>
      obtain ⟨σ2,E2,fr2,kb2,hs2,hf2,h2⟩:=h
      obtain ⟨s,⟨⟨j',rfl,hlt⟩⟩,hh⟩:=atHead_ok h2 hs2 hf2
      exact ⟨_,hlt,j',rfl,hh⟩
    | exit id => exact hQ.hat _ _ _ h
    | goto l => exact hQ.hat _ _ _ h
    | ret => exact hQ.hat _ _ _ h
    | panic ch => exact hQ.hat _ _ _ h
    | outgrown => exact hQ.hat _ _ _ h
  | .rangeFunc g ps assign body,T,Q,Q',hQ,a,W,h => by
    obtain ⟨σ,E,fr,kb,hs,hf,h⟩:=h
    simp only [runCode] at h
    split at h <;> try exact h.elim
    rename_i f cap hg
    split at h <;> try exact h.elim
    rename_i hb
    unfold hasBody at hb
    split at hb <;> try (cases hb; done)
    rename_i fn hfn
    simp only [Bool.and_eq_true,Bool.not_eq_true',beq_eq_false_iff_ne,ne_eq] at hb
    obtain ⟨fbody,hbody⟩:=Option.isSome_iff_exists.1 hb.1
    have hfv:=ev_ok hf hg
    simp only [Den] at hfv
    obtain ⟨cs,hfe,hcs⟩:=hfv
    refine wpIn_wide.1 (wpIn_rangeFunc (F:=Fence.wide) (n:=0) fun fnid _ => ?_)
    let r : Loop:={ state:=.ready,pending:=none,fn:=fnid,tmps:=a.tmps,params:=ps,assign,body,defers:=W.heap.size }
    obtain ⟨E1,hst,hE1,hE1n,hl⟩:=Step.entered hs.inv r
    have hres : ∀ w,(resolve a.eval (rangeCall g (W.heap.size + 1)) 0).run P w = .ok { target:=.fn (.func f) cs.toArray,args:=#[.func (.yield (W.heap.size + 1)) #[] #[]] } w:=by
      intro w
      have hc : a.eval (.const (.func (.yield (W.heap.size + 1)) #[] #[])) = .func (.yield (W.heap.size + 1)) #[] #[]:=rfl
      simp [resolve,rangeCall,Deferred.ofValue,hfe,hc]
    have hinv : ∀ w,(invoke (.fn (.func f) cs.toArray) #[.func (.yield (W.heap.size + 1)) #[] #[]]).run P w = .ok (.enter f (#[.func (.yield (W.heap.size + 1)) #[] #[]] ++ cs.toArray)) w:=by
      intro w
      simp [invoke,callFunc,hfn,hb.2,hbody]
    refine ⟨W.heap.size + 1,[{ target:=.collected W.heap.size,args:=#[] }],_,_,_,f,_,_,run_enterLoop_outer fnid a.tmps ps assign body,hres _,fun _ _ => trivial,hinv _,by simp [Fence.wide],?_⟩
    refine callsIn_wide.2 ?_
    have hcs':=DenL.mono (τ:=[]) hst.le hcs
    rw [List.append_nil] at hcs'
    have hno : ¬ Owns σ kb (W.heap.size + 1):=fun ho => by have:=hs.inv.lt ho; omega
    have hdl : DenL σ E1 (V.any (.func (.yield (W.heap.size + 1)) #[] #[]) :: cap) (.func (.yield (W.heap.size + 1)) #[] #[] :: cs):=DenL.cons (by simp [Den]) hcs'
    have hcall : Calls P f (Value.func (.yield (W.heap.size + 1)) #[] #[] :: cs).toArray ((W.alloc (.deferred (some []))).alloc (.loop r)) (fun e W' => ∃ v rv σ' E' kb',e = .returned v∧Step σ E1 kb ((W.alloc (.deferred (some []))).alloc (.loop r)) σ' E' kb' W'∧Den σ' E' rv v∧Q .normal fr kb'):=by
      split at h
      · exact hX f _ kb _ (h (W.heap.size + 1)) σ E1 _ _ hst.inv hdl
      · rename_i lo _
        refine runFnY_ok hX (h (W.heap.size + 1)) hst.inv hdl ?_
        refine roundY_ok hX hm (c:=⟨σ,E1.strip,kb,(W.alloc (.deferred (some []))).alloc (.loop r)⟩) (r:=r) (ds:=[]) hl hno (by simp only [EH.strip,hE1n]) rfl rfl ?_
        refine ⟨hf.size,MkOk.nil _,fun t v hv => ?_⟩
        obtain ⟨x,k1,k2⟩:=hf.get t v hv
        have k3:=Den.mono (τ:=[]) hst.le k2
        have k4:=Den.cmono (τ:=[]) E1.strip_cle k3
        rw [List.append_nil,List.append_nil] at k4
        exact ⟨x,k1,k4⟩
    have earg : (#[.func (.yield (W.heap.size + 1)) #[] #[]] ++ cs.toArray : Array Value) = ((Value.func (.yield (W.heap.size + 1)) #[] #[]) :: cs).toArray:=by apply Array.ext'; simp
    rw [earg]
    refine hcall.mono ?_
    rintro e W3 ⟨v,rv,σ',E',kb',rfl,h1,h2,h3⟩
    have hsz : W.heap.size + 1 < ((W.alloc (.deferred (some []))).alloc (.loop r)).heap.size:=by simp
    have hl3 : W3.heap[W.heap.size + 1]? = some (.loop r):=by
      rw [h1.stp.block _ hsz hno]; exact hl
    refine ⟨none,_,run_endLoop hl3 (by simp [r]),?_⟩
    have hE3 : E' (W.heap.size + 1) = none:=by
      cases hE : E' (W.heap.size + 1) with
      | none => rfl
      | some x =>
        rcases h1.new _ x hE with k | k | k
        · rw [hE1n] at k; cases k
        · exact (hno k).elim
        · omega
    have hno3 : ¬ Owns σ' kb' (W.heap.size + 1):=fun ho => by
      rcases h1.own _ ho with k | k
      · exact hno k
      · omega
    have hall:=(hst.trans h1).other (l:=W.heap.size + 1) (by omega) hno3 hE3 (.loop { r with state:=.exhausted })
    obtain ⟨τ,rfl⟩:=h1.pre
    refine hQ.hat _ _ _ ⟨σ ++ τ,E',fr,kb',hs.trans hall,?_,h3⟩
    have hf':=hf.mono (τ:=τ) (hst.le.trans h1.le)
    refine ⟨hf'.size,⟨fun d hd => ?_,?_⟩,hf'.get⟩
    · simp only [List.singleton_append,List.mem_cons] at hd
      rcases hd with rfl | hd
      · exact ⟨_,rfl,h1.le _ _ hE1⟩
      · exact hf'.defers.all d hd
    · simp only [List.singleton_append]
      refine List.pairwise_cons.2 ⟨fun d hd e => ?_,hf.defers.nodup⟩
      subst e
      obtain ⟨b,e1,e2⟩:=hf.defers.all _ hd
      cases e1
      have:=(Array.getElem?_eq_some_iff.1 (hs.inv.imm _ _ e2)).1
      omega
  | .scope x,T,Q,Q',hQ,a,W,h => by
    refine wp_scope_straight (runCode_ok hX hm x (Q':=Exit.noGoto Q') (Q:=fun e fr kb => match e with | .goto _ => False | e => Q e fr kb) ⟨fun e a W h => ?_,fun ch a a' w h => hQ.pan ch a a' w h⟩ h)
    cases e with
    | normal => exact hQ.hat _ _ _ h
    | exit id => exact hQ.hat _ _ _ h
    | goto l => obtain ⟨_,_,_,_,_,_,h⟩:=h; exact h.elim
    | ret => exact hQ.hat _ _ _ h
    | panic ch => exact hQ.hat _ _ _ h
    | outgrown => exact hQ.hat _ _ _ h
  | .goto _,_,_,_,_,_,_,h => by obtain ⟨_,_,_,_,_,_,h⟩:=h; exact h.elim
  | .refuse _,_,_,_,_,_,_,h => by obtain ⟨_,_,_,_,_,_,h⟩:=h; exact h.elim
def runFn (P : Program) (X : CallT) (T : Nat→Option LI) (f : FuncId) (args : List V) (kb : KB) (K : V→KB→Prop) : Prop :=
  match P.funcs[f]? with
  | some fn => match fn.body,Nat.ble args.length fn.ntmps with
    | some code,true => runCode P X T kb.length fn.ntmps code (fin P fn K) (argFr 0 args) kb
    | _,_ => False
  | none => False
theorem runFn_ok {P : Program} {X : CallT} (hX : CallOk P X) (hm : P.follows .mixedOrders = true) {T : Nat→Option LI} {f : FuncId} {args : List V} {kb : KB} {K : V→KB→Prop} (h : runFn P X T f args kb K) {σ : Sg} {E : EH} {W : World} {xs : List Value} (hi : Inv σ E kb W)
    (hd : DenL σ E args xs) : Calls P f xs.toArray W (fun e W' => ∃ v r σ' E' kb',e = .returned v∧Step σ E kb W σ' E' kb' W'∧Den σ' E' r v∧K r kb'):=by
  unfold runFn at h
  split at h <;> try exact h.elim
  rename_i fn hfn
  split at h <;> try exact h.elim
  rename_i code hcode hb
  have hle:=Nat.le_of_ble_eq_true hb
  rw [← hd.len] at hle
  rw [← hi.len] at h
  have hi0:=hi.strip
  have hd0 : DenL σ E.strip args xs:=by
    have:=DenL.cmono (τ:=[]) E.strip_cle hd
    rwa [List.append_nil] at this
  refine callsIn_wide.1 (callsIn_of_wp_marks (n:=0) hfn hcode trivial (wpIn_wide.2 (wp_mono (Q:=fun e a w => match e with | .panic _ => False | e => bodyPostM Fence.wide 0 P fn (fun e W' => ∃ v r σ' E' kb',e = .returned v∧Step σ E kb W σ' E' kb' W'∧Den σ' E' r v∧K r kb') e a w) (runCode_ok hX hm (T:=T) (c:=⟨σ,E.strip,kb,W⟩) (n:=fn.ntmps) code (Q:=fin P fn K) ⟨fun e a' W' hh => ?_,fun ch a a' w hp => ?_⟩ ?_) (fun e a w hq => ?_))))
  · obtain ⟨σ',E',fr',kb',hs,hf,hK⟩:=hh
    have key : resK P fr' kb' fn.results.toList (fun vs => K (retV vs) kb')→LeavesInM Fence.wide 0 P fn a'.tmps (fun e W' => ∃ v r σ' E' kb',e = .returned v∧Step σ E kb W σ' E' kb' W'∧Den σ' E' r v∧K r kb') a'.defers .returning W':=by
      intro hK
      refine leaves_marks a'.defers W' hf.defers.nodup (fun d hd => ?_) (fun W2 e1 e2 e3 e4 e5 => ?_)
      · obtain ⟨b,h1,h2⟩:=hf.defers.all d hd
        exact ⟨b,h1,hs.inv.imm b _ h2⟩
      · obtain ⟨E2,h1,h2⟩:=Step.unmark hi hs e1 e2 e3 e4 (M:=fun b => { target:=.collected b,args:=#[] } ∈ a'.defers) (fun b hb => by
          obtain ⟨b',k1,k2⟩:=hf.defers.all _ hb
          cases k1; exact k2) (fun b hb => e5 b (fun d hd e => hb (e ▸ hd)))
        have hf2 : FrOk σ' E2 fr' fn.ntmps { a' with defers:=[] }:=⟨hf.size,MkOk.nil _,fun t v hv => by
          obtain ⟨x,k1,k2⟩:=hf.get t v hv
          refine ⟨x,k1,?_⟩
          have:=Den.cmono (τ:=[]) h2 k2
          rwa [List.append_nil] at this⟩
        obtain ⟨v,r,k1,k2,k3⟩:=fin_results hf2 h1.inv hK
        exact ⟨v,k1,v,r,σ',E2,kb',rfl,h1,k2,k3⟩
    cases e with
    | normal => exact key hK
    | ret => exact key hK
    | exit id => exact hK.elim
    | goto l => exact hK.elim
    | panic ch => exact hK.elim
    | outgrown => exact hK.elim
  · exact hp
  rotate_left
  · cases e <;> first | exact hq | exact hq.elim
  · refine ⟨σ,E.strip,argFr 0 args,kb,Step.refl hi0,⟨by simp; omega,MkOk.nil _,fun t v hv => ?_⟩,h⟩
    obtain ⟨x,_,h2,h3⟩:=look_arg 0 hd0 hv
    refine ⟨x,?_,h3⟩
    have hlt : t < xs.length:=by
      have:=(List.getElem?_eq_some_iff.1 h2).1
      simpa using this
    rw [Array.getElem?_append_left (by simpa using hlt)]
    simpa using h2
end Vc
