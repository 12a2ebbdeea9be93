import Derived.Test.YtfcjngcnifdmnaaQa
import Derived.MapKept
import Derived.RangeFuncRecord
import Derived.Conc.LoneSelect
set_option linter.unusedSimpArgs false
set_option linter.unusedVariables false
namespace Vc
open Go
abbrev ML:=List (List Int × List D)
def mget : ML→List Int→Option (List D)
  | [],_ => none
  | (a,c) :: l,n => if n = a then some c else mget l n
def mset : ML→List Int→List D→ML
  | [],n,v => [(n,v)]
  | (a,c) :: l,n,v => if n = a then (a,v) :: l else (a,c) :: mset l n v
def mdel : ML→List Int→ML
  | [],_ => []
  | (a,c) :: l,n => if n = a then l else (a,c) :: mdel l n
def mix : ML→List Int→Option Nat
  | [],_ => none
  | (a,c) :: l,n => if n = a then some 0 else (mix l n).map (· + 1)
theorem mix_none : ∀ {l : ML} {n : List Int},mix l n = none→mget l n = none∧(∀ v,mset l n v = l ++ [(n,v)])∧mdel l n = l
  | [],n,_ => ⟨rfl,fun v => rfl,rfl⟩
  | (a,c) :: l,n,h => by
    simp only [mix] at h
    split at h
    · cases h
    · rename_i hne
      simp only [Option.map_eq_none_iff] at h
      obtain ⟨h1,h2,h3⟩:=mix_none h
      exact ⟨by simp [mget,hne,h1],fun v => by simp [mset,hne,h2 v],by simp [mdel,hne,h3]⟩
theorem mix_some : ∀ {l : ML} {n : List Int} {j : Nat},mix l n = some j→∃ c,l[j]? = some (n,c)∧mget l n = some c∧(∀ v,mset l n v = l.set j (n,v))∧mdel l n = l.eraseIdx j
  | [],n,j,h => by cases h
  | (a,c) :: l,n,j,h => by
    simp only [mix] at h
    split at h
    · rename_i he
      cases h
      exact ⟨c,by simp [he],by simp [mget,he],fun v => by simp [mset,he],by simp [mdel,he]⟩
    · rename_i hne
      simp only [Option.map_eq_some_iff] at h
      obtain ⟨k,hk,rfl⟩:=h
      obtain ⟨d,h1,h2,h3,h4⟩:=mix_some hk
      exact ⟨d,by simpa using h1,by simp [mget,hne,h2],fun v => by simp [mset,hne,h3 v],by simp [mdel,hne,h4]⟩
def fieldsB (P : Program) : Nat→List Field→List IntKind→Bool
  | _,[],[] => true
  | o, f :: fs, k :: ks => match f.name == "_", Nat.beq f.offset o, P.underlying f.type, tAgg P f.type with
    | false,true,some (.int _),some false => fieldsB P (o + 1) fs ks
    | _,_,_,_ => false
  | _,_,_ => false
def keyB (P : Program) (kt : TypeId) (kks : List IntKind) : Bool→Bool
  | false => match P.underlying kt,kks with | some (.int _),[_] => true | _,_ => false
  | true => match P.underlying kt with
    | some (.struct fs) => match P.stoodInHeld kt with | false => fieldsB P 0 fs.toList kks | true => false
    | _ => false
theorem fieldsB_eq {P : Program} {d : Nat} (W : World) : ∀ {fs : List Field} {kks : List IntKind} {o : Nat},fieldsB P o fs kks = true→∀ {k k' : List Int},k.length = kks.length→k'.length = kks.length→∀ {pre pre' : List Value},pre.length = o→pre'.length = o →
    (Op.eqFields (d + 1) (pre ++ keyC kks k).toArray (pre' ++ keyC kks k').toArray fs).run P W = .ok (decide (k = k')) W
  | [],[],o,h,k,k',hk,hk',pre,pre',hp,hp' => by
    have h1 : k = []:=List.eq_nil_of_length_eq_zero hk
    have h2 : k' = []:=List.eq_nil_of_length_eq_zero hk'
    subst h1; subst h2
    simp [Op.eqFields]
  | [],_ :: _,o,h,_,_,_,_,_,_,_,_ => by simp [fieldsB] at h
  | _ :: _,[],o,h,_,_,_,_,_,_,_,_ => by simp [fieldsB] at h
  | f :: fs,kk :: kks,o,h,k,k',hk,hk',pre,pre',hp,hp' => by
    simp only [fieldsB] at h
    split at h <;> try (cases h; done)
    rename_i q hn ho hu ha
    have ho:=Nat.eq_of_beq_eq_true ho
    have hn' : ¬ f.name = "_" := by simpa using hn
    match k,k',hk,hk' with
    | a :: k,b :: k',hk,hk' =>
      have e1 : (pre ++ keyC (kk :: kks) (a :: k)) = (pre ++ [.int kk a]) ++ keyC kks k:=by simp [keyC]
      have e2 : (pre' ++ keyC (kk :: kks) (b :: k')) = (pre' ++ [.int kk b]) ++ keyC kks k':=by simp [keyC]
      have ih:=fieldsB_eq (d:=d) W h (k:=k) (k':=k') (by simpa using hk) (by simpa using hk') (pre:=pre ++ [.int kk a]) (pre':=pre' ++ [.int kk b]) (by simp [hp]) (by simp [hp'])
      have p1 : (part f.type (pre ++ keyC (kk :: kks) (a :: k)).toArray f.offset).run P W = .ok (.int kk a) W:=by
        simp [part,run_tAgg ha,ho,← hp,keyC]
      have p2 : (part f.type (pre' ++ keyC (kk :: kks) (b :: k')).toArray f.offset).run P W = .ok (.int kk b) W:=by
        simp [part,run_tAgg ha,ho,← hp',keyC]
      have heq:=run_equalIn_int W d f.type kk q a b hu
      simp only [Op.eqFields,ne_eq,hn',not_false_eq_true,if_true,Sem.run_bind,p1,p2,heq,Result.andThen_ok]
      by_cases hab : a = b
      · subst hab
        rw [e1,e2]
        simpa using ih
      · have hb : (a == b) = false:=by simpa using hab
        simp [hb,hab]
theorem keyB_eq {P : Program} {kt : TypeId} {kks : List IntKind} (h : keyB P kt kks true = true) {k k' : List Int} (hk : k.length = kks.length) (hk' : k'.length = kks.length) (W : World) :
    (Op.equal kt (cellV true (keyC kks k)) (cellV true (keyC kks k'))).run P W = .ok (decide (k = k')) W:=by
  simp only [keyB] at h
  split at h <;> try (cases h; done)
  rename_i fs hu
  split at h <;> try (cases h; done)
  rename_i hst
  have hf : P.fieldsOf kt = fs:=by simp [Program.fieldsOf,hu]
  show (Op.equalIn (9998 + 1 + 1) kt _ _).run P W = _
  simp only [cellV,if_true]
  rw [run_equalIn_struct W (9998 + 1) kt _ _ (by rw [hf]; exact hu) hst,hf]
  exact fieldsB_eq (d:=9998) W h hk hk' (pre:=[]) (pre':=[]) rfl rfl
theorem fieldsB_check {P : Program} {b : Bool} {d : Nat} (W : World) {kks0 : List IntKind} {k0 : List Int} : ∀ {fs : List Field} {kks : List IntKind} {o : Nat},fieldsB P o fs kks = true→∀ {k : List Int},k.length = kks.length→∀ {pre : List Value},pre.length = o→keyC kks0 k0 = pre ++ keyC kks k →
    (forIn (m:=Sem) fs PUnit.unit fun f r => do
      if f.name ≠ "_" then do
        Instr.checkKey b (d + 1) f.type (← part f.type (keyC kks0 k0).toArray f.offset)
        pure (.yield PUnit.unit)
      else pure (.yield PUnit.unit)).run P W = .ok PUnit.unit W
  | [],kks,o,h,k,hk,pre,hp,he => by simp
  | _ :: _,[],o,h,_,_,_,_,_ => by simp [fieldsB] at h
  | f :: fs,kk :: kks,o,h,k,hk,pre,hp,he => by
    simp only [fieldsB] at h
    split at h <;> try (cases h; done)
    rename_i q hn ho hu ha
    have ho:=Nat.eq_of_beq_eq_true ho
    have hn' : ¬ f.name = "_" := by simpa using hn
    match k,hk with
    | a :: k,hk =>
      have p1 : (part f.type (keyC kks0 k0).toArray f.offset).run P W = .ok (.int kk a) W:=by
        rw [he]; simp [part,run_tAgg ha,ho,← hp,keyC]
      have hc : (Instr.checkKey b (d + 1) f.type (.int kk a)).run P W = .ok () W:=by
        unfold Instr.checkKey
        rw [Sem.run_bind,run_underlying hu,Result.andThen_ok]
        rfl
      have ih:=fieldsB_check (b:=b) (d:=d) W h (k:=k) (by simpa using hk) (pre:=pre ++ [.int kk a]) (by simp [hp]) (by rw [he]; simp [keyC])
      simp only [List.forIn_cons,ne_eq,hn',not_false_eq_true,if_true,Sem.run_bind,p1,hc,Result.andThen_ok,Sem.run_pure]
      simpa using ih
theorem run_checkKey {P : Program} {kt : TypeId} {kks : List IntKind} {kagg : Bool} (h : keyB P kt kks kagg = true) {k : List Int} (hk : k.length = kks.length) (b : Bool) (W : World) : (Instr.checkKey b 10000 kt (cellV kagg (keyC kks k))).run P W = .ok () W:=by
  show (Instr.checkKey b (9998 + 1 + 1) kt _).run P W = .ok () W
  cases kagg with
  | false =>
    simp only [keyB] at h
    split at h <;> try (cases h; done)
    rename_i q kk hu
    match k,hk with
    | [a],_ =>
      unfold Instr.checkKey
      rw [Sem.run_bind,run_underlying hu,Result.andThen_ok]
      rfl
  | true =>
    simp only [keyB] at h
    split at h <;> try (cases h; done)
    rename_i fs hu
    split at h <;> try (cases h; done)
    unfold Instr.checkKey
    rw [Sem.run_bind,run_underlying hu,Result.andThen_ok]
    simp only [cellV,if_true]
    have:=fieldsB_check (b:=b) (d:=9998) W h hk (pre:=[]) rfl rfl
    rw [Sem.run_bind,← Array.forIn_toList,this]
    rfl
theorem findNow_ok {E : EH} {kk kt : IntKind} {agg : Bool} {n : Int} : ∀ {l : ML} {es : List MapEntry},EntL E [kk] false agg es l→∀ i,
    (mix l [n] = none∧Instr.findNow (.int kt) (.int kk n) es i = some none)∨∃ j c e,mix l [n] = some j∧l[j]? = some ([n],c)∧es[j]? = some e∧Instr.findNow (.int kt) (.int kk n) es i = some (some (i + j,e.val))
  | l,[],h,i => by
    simp only [EntL] at h
    subst h
    exact .inl ⟨rfl,rfl⟩
  | l,e :: es,h,i => by
    simp only [EntL] at h
    obtain ⟨k,c,l',rfl,⟨hkl,hk,_⟩,h3⟩:=h
    match k,hkl with
    | [a],_ =>
    have h1 : e.key = .int kk a:=by simpa [cellV,keyC] using hk
    by_cases he : n = a
    · right
      refine ⟨0,c,e,by simp [mix,he],by simp [he],rfl,?_⟩
      simp [Instr.findNow,Instr.sameNow,h1,he]
    · have hb : (n == a) = false:=by simpa using he
      have:=findNow_ok (n:=n) (kt:=kt) h3 (i + 1)
      rcases this with ⟨k1,k2⟩ | ⟨j,d,e',k1,k2,k3,k4⟩
      · exact .inl ⟨by simp [mix,he,k1],by simp [Instr.findNow,Instr.sameNow,h1,hb,k2]⟩
      · exact .inr ⟨j + 1,d,e',by simp [mix,he,k1],by simpa using k2,by simpa using k3,by simp [Instr.findNow,Instr.sameNow,h1,hb,k4]; omega⟩
theorem findAsk_ok {P : Program} {E : EH} {kt : TypeId} {kks : List IntKind} {agg : Bool} (hkb : keyB P kt kks true = true) {n : List Int} (hn : n.length = kks.length) (W : World) : ∀ {l : ML} {es : List MapEntry},EntL E kks true agg es l→∀ i,
    (mix l n = none∧(Instr.findAsking kt (cellV true (keyC kks n)) es i).run P W = .ok none W)∨∃ j c e,mix l n = some j∧l[j]? = some (n,c)∧es[j]? = some e∧(Instr.findAsking kt (cellV true (keyC kks n)) es i).run P W = .ok (some (i + j,e.val)) W
  | l,[],h,i => by
    simp only [EntL] at h
    subst h
    exact .inl ⟨rfl,rfl⟩
  | l,e :: es,h,i => by
    simp only [EntL] at h
    obtain ⟨k,c,l',rfl,⟨hkl,hk,_⟩,h3⟩:=h
    have heq:=keyB_eq hkb hn hkl W
    rw [← hk] at heq
    by_cases he : n = k
    · right
      refine ⟨0,c,e,by simp [mix,he],by simp [he],rfl,?_⟩
      simp only [Instr.findAsking,Sem.run_bind,heq,Result.andThen_ok]
      simp [he]
    · have:=findAsk_ok hkb hn W h3 (i + 1)
      rcases this with ⟨k1,k2⟩ | ⟨j,d,e',k1,k2,k3,k4⟩
      · refine .inl ⟨by simp [mix,he,k1],?_⟩
        simp only [Instr.findAsking,Sem.run_bind,heq,Result.andThen_ok]
        simpa [he] using k2
      · refine .inr ⟨j + 1,d,e',by simp [mix,he,k1],by simpa using k2,by simpa using k3,?_⟩
        simp only [Instr.findAsking,Sem.run_bind,heq,Result.andThen_ok]
        rw [show i + (j + 1) = i + 1 + j by omega]
        simpa [he] using k4
theorem findKey_ok {P : Program} {E : EH} {kt : TypeId} {kks : List IntKind} {kagg agg : Bool} (hkb : keyB P kt kks kagg = true) {n : List Int} (hn : n.length = kks.length) (W : World) {l : ML} {es : List MapEntry} (h : EntL E kks kagg agg es l) :
    (mix l n = none∧(Instr.findKey kt (cellV kagg (keyC kks n)) es).run P W = .ok none W)∨∃ j c e,mix l n = some j∧l[j]? = some (n,c)∧es[j]? = some e∧(Instr.findKey kt (cellV kagg (keyC kks n)) es).run P W = .ok (some (j,e.val)) W:=by
  cases kagg with
  | false =>
    have hkb':=hkb
    simp only [keyB] at hkb'
    split at hkb' <;> try (cases hkb'; done)
    rename_i q kk hu
    match n,hn with
    | [a],_ =>
      have e0 : cellV false (keyC [kk] [a]) = .int kk a:=rfl
      rw [e0]
      rcases findNow_ok (kt:=q) (n:=a) h 0 with ⟨q1,q2⟩ | ⟨j,c,e,q1,q2,q3,q4⟩
      · exact .inl ⟨q1,by simp [Instr.findKey,run_underlying hu,q2]⟩
      · exact .inr ⟨j,c,e,q1,q2,q3,by simp [Instr.findKey,run_underlying hu,q4]⟩
  | true =>
    have hkb':=hkb
    simp only [keyB] at hkb'
    split at hkb' <;> try (cases hkb'; done)
    rename_i fs hu
    cases es with
    | nil =>
      simp only [EntL] at h
      subst h
      exact .inl ⟨rfl,by simp [Instr.findKey,run_underlying hu,Instr.findNow]⟩
    | cons e es =>
      have hnone : Instr.findNow (.struct fs) (cellV true (keyC kks n)) (e :: es) 0 = none:=by
        simp only [EntL] at h
        obtain ⟨k,c,l',rfl,⟨_,hk,_⟩,_⟩:=h
        simp [Instr.findNow,Instr.sameNow]
      rcases findAsk_ok hkb hn W h 0 with ⟨q1,q2⟩ | ⟨j,c,e',q1,q2,q3,q4⟩
      · exact .inl ⟨q1,by simp [Instr.findKey,run_underlying hu,hnone,q2]⟩
      · exact .inr ⟨j,c,e',q1,q2,q3,by simp [Instr.findKey,run_underlying hu,hnone,q4]⟩
def intsOf : List V→Option (List IntKind × List Int)
  | [] => some ([],[])
  | .int k n :: vs => match intsOf vs with | some (ks,ns) => some (k :: ks,n :: ns) | none => none
  | .lit k n :: vs => match intsOf vs with | some (ks,ns) => some (k :: ks,n :: ns) | none => none
  | _ => none
theorem intsOf_ok : ∀ {vs : List V} {ks : List IntKind} {ns : List Int},intsOf vs = some (ks,ns)→∀ {σ : Sg} {E : EH} {xs : List Value},DenC σ E vs xs→ns.length = ks.length∧xs = keyC ks ns
  | [],ks,ns,h,σ,E,xs,hd => by
    simp [intsOf] at h
    obtain ⟨rfl,rfl⟩:=h
    simp only [DenC] at hd
    exact ⟨rfl,hd⟩
  | v :: vs,ks,ns,h,σ,E,xs,hd => by
    obtain ⟨ys,zs,rfl,h1,h2⟩:=hd.uncons
    have main : ∀ {k : IntKind} {n : Int},(∀ y,Den σ E v y→y = .int k n)→(∀ m cs,v ≠ .arr m cs)→(match intsOf vs with | some (ks,ns) => some (k :: ks,n :: ns) | none => none) = some (ks,ns)→ns.length = ks.length∧ys ++ zs = keyC ks ns:=by
      intro k n hv hna h
      split at h <;> try (cases h; done)
      rename_i ks' ns' hi
      simp only [Option.some.injEq,Prod.mk.injEq] at h
      obtain ⟨rfl,rfl⟩:=h
      obtain ⟨h3,rfl⟩:=intsOf_ok hi h2
      rcases h1 with ⟨y,rfl,_,hy⟩ | ⟨m,cs,e,_,_⟩
      · rw [hv y hy]; exact ⟨by simp [h3],rfl⟩
      · exact (hna m cs e).elim
    cases v with
    | int k n => exact main (fun y hy => by simpa only [Den] using hy) (fun _ _ h => by cases h) (by simpa only [intsOf] using h)
    | lit k n => exact main (fun y hy => by simpa only [Den] using hy) (fun _ _ h => by cases h) (by simpa only [intsOf] using h)
    | _ => simp [intsOf] at h
def keyV : V→Option (Bool × List IntKind × List Int)
  | .int k n => some (false,[k],[n])
  | .lit k n => some (false,[k],[n])
  | .agg l => match intsOf l with | some (ks,ns) => some (true,ks,ns) | none => none
  | _ => none
theorem keyV_ok {v : V} {b : Bool} {ks : List IntKind} {ns : List Int} (h : keyV v = some (b,ks,ns)) {σ : Sg} {E : EH} {x : Value} (hd : Den σ E v x) : ns.length = ks.length∧x = cellV b (keyC ks ns):=by
  unfold keyV at h
  split at h
  · simp only [Option.some.injEq,Prod.mk.injEq] at h
    obtain ⟨rfl,rfl,rfl⟩:=h
    exact ⟨rfl,by simpa [Den,cellV,keyC] using hd⟩
  · simp only [Option.some.injEq,Prod.mk.injEq] at h
    obtain ⟨rfl,rfl,rfl⟩:=h
    exact ⟨rfl,by simpa [Den,cellV,keyC] using hd⟩
  · split at h <;> try (cases h; done)
    rename_i l ks' ns' hi
    simp only [Option.some.injEq,Prod.mk.injEq] at h
    obtain ⟨rfl,rfl,rfl⟩:=h
    simp only [Den] at hd
    obtain ⟨xs,rfl,hD⟩:=hd
    obtain ⟨h1,rfl⟩:=intsOf_ok hi hD
    exact ⟨h1,by simp [cellV]⟩
  · cases h
def kksEq : List IntKind→List IntKind→Bool
  | [],[] => true
  | a :: l,b :: m => match decide (a = b) with | true => kksEq l m | false => false
  | _,_ => false
theorem kksEq_ok : ∀ {l m : List IntKind},kksEq l m = true→l = m
  | [],[],_ => rfl
  | a :: l,b :: m,h => by
    simp only [kksEq] at h
    split at h
    · rename_i e; rw [of_decide_eq_true e,kksEq_ok h]
    · cases h
  | [],_ :: _,h => by simp [kksEq] at h
  | _ :: _,[],h => by simp [kksEq] at h
def mapT (P : Program) (t : TypeId) : Option (TypeId × TypeId) :=
  match P.underlying t with
  | some (.map kt et) => some (kt,et)
  | _ => none
theorem mapT_ok {P : Program} {t kt et : TypeId} (h : mapT P t = some (kt,et)) : P.underlying t = some (.map kt et):=by
  unfold mapT at h
  split at h
  · rename_i kt' et' h1
    cases h; exact h1
  · cases h
def okV (ok : Bool) (v : V) (b : Bool) : V:=match ok with | true => .tup [v,match b with | true => .tt | false => .ff] | false => v
theorem okV_den {σ : Sg} {E : EH} {v : V} {x : Value} (h : Den σ E v x) (ok b : Bool) : Den σ E (okV ok v b) (if ok then .tuple #[x,.bool b] else x):=by
  cases ok with
  | false => exact h
  | true =>
    simp only [okV,Den,if_true]
    refine ⟨[x,.bool b],rfl,.cons h (.cons ?_ .nil)⟩
    cases b <;> simp [Den]
def zeroT (P : Program) (et : TypeId) (agg : Bool) (K : V→Prop) : Prop :=
  match (P.info? et).bind (·.zero),kindsOf P 20 et with
  | some z,some ks => match agg,z with
    | true,.agg cs => match zeroC ks cs.toList with | some vs => K (.agg vs) | none => False
    | false,_ => K (cvc z)
    | _,_ => False
  | _,_ => False
theorem zeroT_ok {P : Program} {et : TypeId} {agg : Bool} {K : V→Prop} (h : zeroT P et agg K) (σ : Sg) (E : EH) (W : World) : ∃ v z,(zeroValue et).run P W = .ok z W∧Den σ E v z∧K v:=by
  unfold zeroT at h
  split at h <;> try exact h.elim
  rename_i z ks hz hks
  obtain ⟨it,hit,hzz⟩:=Option.bind_eq_some_iff.1 hz
  have hzero : (zeroValue et).run P W = .ok z W:=by simp [zeroValue,typeInfo,hit,hzz]
  split at h
  · split at h <;> try exact h.elim
    rename_i vs hvs
    exact ⟨_,_,hzero,by simp only [Den]; exact ⟨_,by simp,zeroC_ok σ E hvs⟩,h⟩
  · exact ⟨_,_,hzero,cvc_den σ E _,h⟩
  · exact h.elim
def iv : D→Int
  | .val (.int _ n) => n
  | _ => 0
def bv : D→Bool
  | .val (.bool b) => b
  | _ => false
def sv : D→List (List D)
  | .sl _ l => l
  | _ => []
def mgetI (l : ML) (n : List Int) (j : Nat) : Int:=match mget l n with | some cs => iv (cs[j]?.getD (.val (.bool false))) | none => 0
def mgetB (l : ML) (n : List Int) (j : Nat) : Bool:=match mget l n with | some cs => bv (cs[j]?.getD (.val (.int .i64 0))) | none => false
def mgetS (l : ML) (n : List Int) (j : Nat) : List (List D):=match mget l n with | some cs => sv (cs[j]?.getD (.val (.int .i64 0))) | none => []
def mhas (l : ML) (n : List Int) : Bool:=match mget l n with | some _ => true | none => false
def ConfK : List CK→List D→Prop
  | [],ds => ds = []
  | .int k :: ks,ds => ∃ n ds',ds = .val (.int k n) :: ds'∧ConfK ks ds'
  | .bool :: ks,ds => ∃ b ds',ds = .val (.bool b) :: ds'∧ConfK ks ds'
  | .sl s :: ks,ds => ∃ l ds',ds = .sl s l :: ds'∧ConfK ks ds'
  | _ :: _,_ => False
def simpleK : List CK→Bool
  | [] => true
  | .int _ :: ks => simpleK ks
  | .bool :: ks => simpleK ks
  | .sl _ :: ks => simpleK ks
  | _ :: _ => false
def vsOf (l : ML) (n : List Int) : Nat→List CK→List V
  | _,[] => []
  | j,.int k :: ks => .int k (mgetI l n j) :: vsOf l n (j + 1) ks
  | j,.bool :: ks => .sb (mgetB l n j) :: vsOf l n (j + 1) ks
  | j,.sl s :: ks => .dat (.sl s (mgetS l n j)) :: vsOf l n (j + 1) ks
  | j,_ :: ks => vsOf l n (j + 1) ks
def zeroB : List CK→List Value→Bool
  | [],[] => true
  | .int k :: ks,.int k' n :: cs => decide (k = k') && decide (n = 0) && zeroB ks cs
  | .bool :: ks,.bool b :: cs => !b && zeroB ks cs
  | .sl _ :: ks,.slice none 0 0 :: cs => zeroB ks cs
  | _,_ => false
theorem vsOf_some (σ : Sg) {E : EH} {l : ML} {n : List Int} {cs0 : List D} (hm : mget l n = some cs0) : ∀ {ks : List CK} {cs : List D} {j : Nat},(∀ i,cs[i]? = cs0[j + i]?)→ConfK ks cs→∀ {ys : List Value},DenD E cs ys→DenC σ E (vsOf l n j ks) ys
  | [],cs,j,hj,hc,ys,hd => by
    simp only [ConfK] at hc
    subst hc
    simp only [DenD] at hd
    subst hd
    exact .nil
  | k :: ks,cs,j,hj,hc,ys,hd => by
    have next : ∀ {d : D} {ds' : List D} {v : V},cs = d :: ds'→ConfK ks ds'→(∀ x,RepD E d x→Den σ E v x)→vsOf l n j (k :: ks) = v :: vsOf l n (j + 1) ks→DenC σ E (vsOf l n j (k :: ks)) ys:=by
      rintro d ds' v rfl hc' hv he
      simp only [DenD] at hd
      obtain ⟨x,xs,rfl,h1,h2⟩:=hd
      rw [he]
      exact .cons1 (hv x h1) h1.one (vsOf_some σ hm (fun i => by have:=hj (i + 1); rw [show j + 1 + i = j + (i + 1) by omega,← this]; simp) hc' h2)
    have h0:=hj 0
    simp only [Nat.add_zero] at h0
    cases k with
    | int kk =>
      simp only [ConfK] at hc
      obtain ⟨m,ds',rfl,hc'⟩:=hc
      refine next rfl hc' (fun x hx => ?_) rfl
      simp only [RepD] at hx
      simp only [Den,hx.1,mgetI,hm,← h0]
      rfl
    | bool =>
      simp only [ConfK] at hc
      obtain ⟨m,ds',rfl,hc'⟩:=hc
      refine next rfl hc' (fun x hx => ?_) rfl
      simp only [RepD] at hx
      simp only [Den,hx.1,mgetB,hm,← h0]
      rfl
    | sl s =>
      simp only [ConfK] at hc
      obtain ⟨m,ds',rfl,hc'⟩:=hc
      refine next rfl hc' (fun x hx => ?_) rfl
      simp only [Den,mgetS,hm,← h0]
      exact hx
    | other => exact hc.elim
    | arr m z => exact hc.elim
theorem vsOf_none (σ : Sg) (E : EH) {l : ML} {n : List Int} (hm : mget l n = none) : ∀ {ks : List CK} {cs : List Value} {j : Nat},zeroB ks cs = true→DenC σ E (vsOf l n j ks) cs
  | [],[],j,_ => .nil
  | [],_ :: _,j,h => by simp [zeroB] at h
  | .int kk :: ks,[],j,h => by simp [zeroB] at h
  | .bool :: ks,[],j,h => by simp [zeroB] at h
  | .sl s :: ks,[],j,h => by simp [zeroB] at h
  | .other :: ks,cs,j,h => by simp [zeroB] at h
  | .arr m z :: ks,cs,j,h => by simp [zeroB] at h
  | .int kk :: ks,c :: cs,j,h => by
    cases c <;> simp only [zeroB,Bool.and_eq_true,decide_eq_true_eq,Bool.false_eq_true] at h
    obtain ⟨⟨rfl,rfl⟩,h⟩:=h
    exact .cons1 (by simp [Den,mgetI,hm]) rfl (vsOf_none σ E hm h)
  | .bool :: ks,c :: cs,j,h => by
    cases c <;> simp only [zeroB,Bool.and_eq_true,Bool.not_eq_true',Bool.false_eq_true] at h
    obtain ⟨rfl,h⟩:=h
    exact .cons1 (by simp [Den,mgetB,hm]) rfl (vsOf_none σ E hm h)
  | .sl s :: ks,c :: cs,j,h => by
    unfold zeroB at h
    split at h
    · rename_i e _; cases e
    · rename_i e _; cases e
    · rename_i e _; cases e
    · rename_i e1 e2
      cases e1; cases e2
      exact .cons1 (by simp only [Den,mgetS,hm,RepD]; exact ⟨none,0,rfl,Nat.le_refl _,.inl rfl⟩) rfl (vsOf_none σ E hm h)
    · cases h
def okX (ok : Bool) (v b : V) : V:=match ok with | true => .tup [v,b] | false => v
theorem okX_den {σ : Sg} {E : EH} {v u : V} {x : Value} {b : Bool} (h : Den σ E v x) (hb : Den σ E u (.bool b)) (ok : Bool) : Den σ E (okX ok v u) (if ok then .tuple #[x,.bool b] else x):=by
  cases ok with
  | false => exact h
  | true =>
    simp only [okX,Den,if_true]
    exact ⟨[x,.bool b],rfl,.cons h (.cons hb .nil)⟩
def funT (P : Program) (t : TypeId) : Bool:=match P.underlying t with | some (.func ..) => true | _ => false
def fnOf : List D→Option FuncId
  | [.val (.func (.func f) ⟨[]⟩ ⟨[]⟩)] => some f
  | _ => none
def entK : ML→List Int→(List D→Prop)→Prop→Prop
  | [],_,_,N => N
  | (a,c) :: l,ns,F,N => (ns = a→F c)∧((ns = a→False)→entK l ns F N)
theorem entK_some : ∀ {l : ML} {ns : List Int} {F : List D→Prop} {N : Prop},entK l ns F N→∀ {c : List D},mget l ns = some c→F c
  | [],_,_,_,_,_,h => by simp [mget] at h
  | (a,c) :: l,ns,F,N,h,c',hc => by
    simp only [mget] at hc
    split at hc
    · cases hc; rename_i e; exact h.1 e
    · rename_i e; exact entK_some (h.2 e) hc
theorem entK_none : ∀ {l : ML} {ns : List Int} {F : List D→Prop} {N : Prop},entK l ns F N→mget l ns = none→N
  | [],_,_,_,h,_ => h
  | (a,c) :: l,ns,F,N,h,hc => by
    simp only [mget] at hc
    split at hc
    · cases hc
    · rename_i e; exact entK_none (h.2 e) hc
theorem fnOf_ok {c : List D} {f : FuncId} (h : fnOf c = some f) {E : EH} {ys : List Value} (hd : DenD E c ys) : ys = [.func (.func f) #[] #[]]:=by
  unfold fnOf at h
  split at h <;> try (cases h; done)
  cases h
  simp only [DenD,RepD] at hd
  obtain ⟨x,xs,rfl,⟨rfl,_⟩,rfl⟩:=hd
  rfl
def lookBody (P : Program) (et : TypeId) (agg : Bool) (cks : List CK) (ns : List Int) (ok : Bool) (l : ML) (K : V→Prop) : Prop :=
  match simpleK cks,(P.info? et).bind (·.zero) with
  | true,some z => match zeroB cks z.cells.toList,(match z with | .agg _ => agg | _ => !agg) with
    | true,true => (∀ cs,mget l ns = some cs→ConfK cks cs)∧wrapK agg (vsOf l ns 0 cks) (fun v => K (okX ok v (.sb (mhas l ns))))
    | _,_ => False
  | _,_ => match funT P et,agg with
    | true,false => entK l ns (fun c => match fnOf c with | some f => K (okV ok (.fn f []) true) | none => False) (zeroT P et agg (fun v => K (okV ok v false)))
    | _,_ => (∀ cs,mget l ns = some cs→loadE cs 0 cks (fun vs => wrapK agg vs (fun v => K (okV ok v true))))∧(mget l ns = none→zeroT P et agg (fun v => K (okV ok v false)))
def lookupK (P : Program) (t : TypeId) (m k : V) (ok : Bool) (kb : KB) (K : V→Prop) : Prop :=
  match mapT P t,keyV k with
  | some (kt,et),some (ka,ks,ns) =>
    match tAgg P et,kindsOf P 20 et,keyB P kt ks ka with
    | some agg,some cks,true =>
      match m with
      | .mp i => match kb[i]? with
        | some (.mp kks kagg agg2 sz l) =>
          match kksEq ks kks,(ka == kagg),(agg == agg2),Nat.beq (wk cks) sz with
          | true,true,true,true => lookBody P et agg cks ns ok l K
          | _,_,_,_ => False
        | _ => False
      | .imp kks kagg agg2 sz l =>
        match kksEq ks kks,(ka == kagg),(agg == agg2),Nat.beq (wk cks) sz with
        | true,true,true,true => lookBody P et agg cks ns ok l K
        | _,_,_,_ => False
      | .any (.map none) => zeroT P et agg (fun v => K (okV ok v false))
      | _ => False
    | _,_,_ => False
  | _,_ => False
theorem EntL.at {E : EH} {kks : List IntKind} {kagg agg : Bool} : ∀ {es : List MapEntry} {l : ML},EntL E kks kagg agg es l→∀ {j : Nat} {p : List Int × List D},l[j]? = some p→∃ e,es[j]? = some e∧p.1.length = kks.length∧e.key = cellV kagg (keyC kks p.1)∧∃ ys,e.val = cellV agg ys∧DenD E p.2 ys
  | [],l,h,j,p,hj => by simp only [EntL] at h; subst h; simp at hj
  | e :: es,l,h,j,p,hj => by
    simp only [EntL] at h
    obtain ⟨k,c,l',rfl,h1,h2⟩:=h
    cases j with
    | zero => simp at hj; subst hj; exact ⟨e,rfl,h1⟩
    | succ j => simpa using h2.at (j:=j) (by simpa using hj)
def LookRun (P : Program) (E : EH) (W : World) (t : TypeId) (x y : Value) (et : TypeId) (agg : Bool) (n : Nat) (ns : List Int) (ok : Bool) (l : ML) : Prop :=
  (mget l ns = none∧∀ z,(zeroValue et).run P W = .ok z W→(Instr.lookup t x y ok).run P W = .ok (if ok then .tuple #[z,.bool false] else z) W) ∨
  ∃ c ys,mget l ns = some c∧DenD E c ys∧ys.length = n∧(Instr.lookup t x y ok).run P W = .ok (if ok then .tuple #[if agg = true then Value.agg ys.toArray else ys.getD 0 undef,.bool true] else (if agg = true then Value.agg ys.toArray else ys.getD 0 undef)) W
theorem lookBody_ok {P : Program} {E : EH} {W : World} {t : TypeId} {x y : Value} {et : TypeId} {agg : Bool} {cks : List CK} {ns : List Int} {ok : Bool} {l : ML} {K : V→Prop} (h : lookBody P et agg cks ns ok l K) (hr : LookRun P E W t x y et agg (wk cks) ns ok l) (σ : Sg) :
    ∃ v z,(Instr.lookup t x y ok).run P W = .ok z W∧Den σ E v z∧K v:=by
  unfold lookBody at h
  split at h
  · rename_i z hsim hz
    split at h <;> try exact h.elim
    rename_i hzb hza
    obtain ⟨hconf,h⟩:=h
    obtain ⟨it,hit,hzz⟩:=Option.bind_eq_some_iff.1 hz
    have hzero : (zeroValue et).run P W = .ok z W:=by simp [zeroValue,typeInfo,hit,hzz]
    rcases hr with ⟨hm,hrun⟩ | ⟨c,ys,p2,hD,hyl,hrun⟩
    · have hh : mhas l ns = false:=by simp [mhas,hm]
      obtain ⟨v,k1,k2,k3⟩:=wrapK_ok h (vsOf_none σ E hm hzb)
      have hze : (if agg = true then Value.agg z.cells.toList.toArray else z.cells.toList.getD 0 undef) = z:=by
        cases z <;> cases agg <;> simp_all [Value.cells]
      rw [hze] at k2
      exact ⟨_,_,hrun z hzero,okX_den (b:=false) k2 (by simp [Den,hh]) ok,k1⟩
    · have hh : mhas l ns = true:=by simp [mhas,p2]
      obtain ⟨v,k1,k2,k3⟩:=wrapK_ok h (vsOf_some σ p2 (cs:=c) (j:=0) (fun i => by rw [Nat.zero_add]) (hconf c p2) hD)
      exact ⟨_,_,hrun,okX_den (b:=true) k2 (by simp [Den,hh]) ok,k1⟩
  split at h
  · rcases hr with ⟨hm,hrun⟩ | ⟨c,ys,p2,hD,hyl,hrun⟩
    · obtain ⟨v,z,z1,z2,z3⟩:=zeroT_ok (entK_none h hm) σ E W
      exact ⟨_,_,hrun z z1,okV_den z2 ok false,z3⟩
    · have hF:=entK_some h p2
      split at hF <;> try exact hF.elim
      rename_i f hf
      have hys:=fnOf_ok hf hD
      subst hys
      exact ⟨_,_,hrun,okV_den (σ:=σ) (E:=E) (v:=.fn f []) (by simp only [Den]; exact ⟨[],rfl,.nil⟩) ok true,hF⟩
  rcases hr with ⟨hm,hrun⟩ | ⟨c,ys,p2,hD,hyl,hrun⟩
  · obtain ⟨v,z,z1,z2,z3⟩:=zeroT_ok (h.2 hm) σ E W
    exact ⟨_,_,hrun z z1,okV_den z2 ok false,z3⟩
  · obtain ⟨vs,xs,hK,hDC,hlen,hxs⟩:=loadE_ok (σ:=σ) hD (h.1 c p2)
    obtain ⟨v,k1,k2,k3⟩:=wrapK_ok hK hDC
    have hceq : ys = xs:=by
      apply List.ext_getElem?
      intro q
      rcases Nat.lt_or_ge q xs.length with hq | hq
      · rw [List.getElem?_eq_getElem hq]
        have:=hxs q _ (List.getElem?_eq_getElem hq)
        simpa using this
      · rw [List.getElem?_eq_none hq,List.getElem?_eq_none (by omega)]
    subst hceq
    exact ⟨_,_,hrun,okV_den k2 ok true,k1⟩
theorem lookRun_map {P : Program} {E : EH} {W : World} {t kt et : TypeId} {y : Value} {ka agg : Bool} {ks : List IntKind} {n : Nat} {ns : List Int} {ok : Bool} {l : ML} (ht : P.underlying t = some (.map kt et)) (hkb : keyB P kt ks ka = true) (hnl : ns.length = ks.length) (hy : y = cellV ka (keyC ks ns))
    {b : Nat} {es : Array MapEntry} {ck : Nat} (g1 : W.heap[b]? = some (.map es ck)) (g2 : EntL E ks ka agg es.toList l) (hw : wl n (l.map (·.2))) : LookRun P E W t (.map (some b)) y et agg n ns ok l:=by
  subst hy
  have hgo : (getObj b).run P W = .ok (.map es ck) W:=by simp [getObj,Sem.run,g1]
  rcases findKey_ok hkb hnl W g2 with ⟨q1,q2⟩ | ⟨j,c,e,q1,q2,q3,q4⟩
  · refine .inl ⟨(mix_none q1).1,fun z hz => ?_⟩
    unfold Instr.lookup
    simp [run_underlying ht,hgo,run_checkKey hkb hnl,q2,hz]
  · obtain ⟨c',p1,p2,_,_⟩:=mix_some q1
    rw [q2] at p1; cases p1
    obtain ⟨e',he',_,_,ys,hv,hD⟩:=g2.at q2
    rw [q3] at he'; cases he'
    refine .inr ⟨c,ys,p2,hD,by rw [hD.len]; exact hw c (List.mem_map.2 ⟨_,List.mem_of_getElem? q2,rfl⟩),?_⟩
    have hv : e.val = if agg = true then Value.agg ys.toArray else ys.getD 0 undef:=hv
    rw [← hv]
    unfold Instr.lookup
    simp [run_underlying ht,hgo,run_checkKey hkb hnl,q4]
theorem run_findNil {P : Program} {kt : TypeId} {ka : Bool} {ks : List IntKind} {ns : List Int} {W : World} (hkb : keyB P kt ks ka = true) : (Instr.findKey kt (cellV ka (keyC ks ns)) []).run P W = .ok none W:=by
  have hkb':=hkb
  cases ka <;> simp only [keyB] at hkb' <;> split at hkb' <;> (try (cases hkb'; done)) <;> (rename_i hu; simp [Instr.findKey,run_underlying hu,Instr.findNow])
theorem lookupK_ok {P : Program} {t : TypeId} {m k : V} {ok : Bool} {kb : KB} {K : V→Prop} (h : lookupK P t m k ok kb K) {σ : Sg} {E : EH} {W : World} (hi : Inv σ E kb W) {x y : Value} (hx : Den σ E m x) (hy : Den σ E k y) :
    ∃ v z,(Instr.lookup t x y ok).run P W = .ok z W∧Den σ E v z∧K v:=by
  unfold lookupK at h
  split at h <;> try exact h.elim
  rename_i kt et ka ks ns ht hk
  have h1:=mapT_ok ht
  obtain ⟨hnl,rfl⟩:=keyV_ok hk hy
  split at h <;> try exact h.elim
  rename_i agg cks ha hcks hkb
  split at h <;> try exact h.elim
  · rename_i i
    split at h <;> try exact h.elim
    rename_i kks kagg agg2 sz l hl
    split at h <;> try exact h.elim
    rename_i c1 c2 c3 c4
    have e1:=kksEq_ok c1
    have e2 : ka = kagg:=by simpa using c2
    have e3 : agg = agg2:=by simpa using c3
    have e4:=Nat.eq_of_beq_eq_true c4
    subst e1; subst e2; subst e3; subst e4
    simp only [Den] at hx
    obtain ⟨r,hr,rfl⟩:=hx
    obtain ⟨hw,es,ck,g1,g2,_⟩:=hi.obj i r _ hr hl
    exact lookBody_ok h (lookRun_map h1 hkb hnl rfl g1 g2 hw) σ
  · rename_i kks kagg agg2 sz l
    split at h <;> try exact h.elim
    rename_i c1 c2 c3 c4
    have e1:=kksEq_ok c1
    have e2 : ka = kagg:=by simpa using c2
    have e3 : agg = agg2:=by simpa using c3
    have e4:=Nat.eq_of_beq_eq_true c4
    subst e1; subst e2; subst e3; subst e4
    simp only [Den] at hx
    obtain ⟨a,rfl,hx⟩:=hx
    cases a with
    | none =>
      have hx : l = []:=hx
      subst hx
      refine lookBody_ok h (.inl ⟨rfl,fun z hz => ?_⟩) σ
      unfold Instr.lookup
      simp [run_underlying h1,run_checkKey hkb hnl,run_findNil hkb,hz]
    | some b =>
      obtain ⟨hw,es,ck,g1,g2,_⟩:=hx
      exact lookBody_ok h (lookRun_map h1 hkb hnl rfl (hi.imm b _ g1) g2 hw) σ
  · simp only [Den] at hx
    subst hx
    obtain ⟨v,z,z1,z2,z3⟩:=zeroT_ok h σ E W
    refine ⟨_,_,?_,okV_den z2 ok false,z3⟩
    unfold Instr.lookup
    simp [run_underlying h1,run_checkKey hkb hnl,run_findNil hkb,z1]
def updateK (P : Program) (t : TypeId) (m k v : V) (kb : KB) (K : KB→Prop) : Prop :=
  match mapT P t,keyV k,m with
  | some (kt,et),some (ka,ks,ns),.mp i =>
    match tAgg P et,tSize P et,keyB P kt ks ka with
    | some agg,some n,true => match agg,v with
      | true,.agg _ => cellsD P et v kb (fun ds kb => match kb[i]? with
        | some (.mp kks kagg agg2 sz l) => match kksEq ks kks,(ka == kagg),agg2,Nat.beq n sz with
          | true,true,true,true => K (kb.set i (.mp kks kagg agg2 sz (mset l ns ds)))
          | _,_,_,_ => False
        | _ => False)
      | false,.agg _ => False
      | false,_ => cellsD P et v kb (fun ds kb => match kb[i]? with
        | some (.mp kks kagg agg2 sz l) => match kksEq ks kks,(ka == kagg),agg2,Nat.beq n sz with
          | true,true,false,true => K (kb.set i (.mp kks kagg agg2 sz (mset l ns ds)))
          | _,_,_,_ => False
        | _ => False)
      | _,_ => False
    | _,_,_ => False
  | _,_,_ => False
theorem wl_mset {sz : Nat} {l : ML} (h : wl sz (l.map (·.2))) {n : List Int} {xs : List D} (h1 : xs.length = sz) : wl sz ((mset l n xs).map (·.2)):=by
  induction l with
  | nil => intro e he; simp [mset] at he; subst he; exact h1
  | cons p l ih =>
    obtain ⟨a,c⟩:=p
    have ht : wl sz (l.map (·.2)):=fun e he => h e (List.mem_cons_of_mem _ he)
    intro e he
    simp only [mset] at he
    split at he
    · simp only [List.map_cons,List.mem_cons] at he
      rcases he with rfl | he
      · exact h1
      · exact ht e he
    · simp only [List.map_cons,List.mem_cons] at he
      rcases he with rfl | he
      · exact h _ (by simp)
      · exact ih ht e he
theorem EntL.push {E : EH} {kks : List IntKind} {kagg agg : Bool} : ∀ {es : List MapEntry} {l : ML},EntL E kks kagg agg es l→∀ {e : MapEntry} {k : List Int} {c : List D},(k.length = kks.length∧e.key = cellV kagg (keyC kks k)∧∃ ys,e.val = cellV agg ys∧DenD E c ys)→EntL E kks kagg agg (es ++ [e]) (l ++ [(k,c)])
  | [],l,h,e,k,c,he => by
    simp only [EntL] at h; subst h
    simp only [List.nil_append,EntL]
    exact ⟨k,c,[],rfl,he,rfl⟩
  | e' :: es,l,h,e,k,c,he => by
    simp only [EntL] at h
    obtain ⟨k',c',l',rfl,h1,h2⟩:=h
    simp only [List.cons_append,EntL]
    exact ⟨k',c',_,rfl,h1,h2.push he⟩
theorem EntL.set {E : EH} {kks : List IntKind} {kagg agg : Bool} : ∀ {es : List MapEntry} {l : ML},EntL E kks kagg agg es l→∀ (j : Nat) {e : MapEntry} {k : List Int} {c : List D},(k.length = kks.length∧e.key = cellV kagg (keyC kks k)∧∃ ys,e.val = cellV agg ys∧DenD E c ys)→EntL E kks kagg agg (es.set j e) (l.set j (k,c))
  | [],l,h,j,e,k,c,he => by simp only [EntL] at h; subst h; simp [EntL]
  | e' :: es,l,h,j,e,k,c,he => by
    simp only [EntL] at h
    obtain ⟨k',c',l',rfl,h1,h2⟩:=h
    cases j with
    | zero => simp only [List.set_cons_zero,EntL]; exact ⟨k,c,l',rfl,he,h2⟩
    | succ j => simp only [List.set_cons_succ,EntL]; exact ⟨k',c',_,rfl,h1,h2.set j he⟩
theorem EntL.erase {E : EH} {kks : List IntKind} {kagg agg : Bool} : ∀ {es : List MapEntry} {l : ML},EntL E kks kagg agg es l→∀ (j : Nat),EntL E kks kagg agg (es.eraseIdx j) (l.eraseIdx j)
  | [],l,h,j => by simp only [EntL] at h; subst h; simp [EntL]
  | e' :: es,l,h,j => by
    simp only [EntL] at h
    obtain ⟨k',c',l',rfl,h1,h2⟩:=h
    cases j with
    | zero => simpa using h2
    | succ j => simp only [List.eraseIdx_cons_succ,EntL]; exact ⟨k',c',_,rfl,h1,h2.erase j⟩
theorem sameBits_key (kagg : Bool) (kks : List IntKind) (k : List Int) (h : k.length = kks.length) (hc : kagg = false→kks.length = 1) : Instr.sameBits 10000 (cellV kagg (keyC kks k)) (cellV kagg (keyC kks k)) = true:=by
  cases kagg with
  | false =>
    match kks,k,hc rfl,h with
    | [kk],[a],_,_ => simp [cellV,keyC,Instr.sameBits]
  | true =>
    simp only [cellV,if_true]
    show Instr.sameBits (9999 + 1) _ _ = true
    simp only [Instr.sameBits,beq_self_eq_true,Bool.true_and]
    clear hc
    unfold keyC
    induction kks generalizing k with
    | nil => simp
    | cons kk kks ih =>
      match k,h with
      | a :: k,h =>
        have:=ih k (by simpa using h)
        simp only [List.zipWith_cons_cons,List.zip_cons_cons,List.all_cons]
        rw [Bool.and_eq_true]
        refine ⟨?_,this⟩
        show Instr.sameBits (9998 + 1) _ _ = true
        simp [Instr.sameBits]
theorem run_mapUpdate {P : Program} {t kt et : TypeId} {kks : List IntKind} {kagg : Bool} (h1 : P.underlying t = some (.map kt et)) (hkb : keyB P kt kks kagg = true) {E : EH} {W : World} {b : Nat} {es : Array MapEntry} {ck : Nat} {agg : Bool} {l : ML}
    (g1 : W.heap[b]? = some (.map es ck)) (g2 : EntL E kks kagg agg es.toList l) (g3 : BornOk es.toList ck) {n : List Int} (hn : n.length = kks.length) {x : Value} {ds : List D} {ys : List Value} (hx : x = cellV agg ys) (hD : DenD E ds ys) :
    ∃ es' ck',(Instr.mapUpdate t (.map (some b)) (cellV kagg (keyC kks n)) x).run P W = .ok () { W with heap:=W.heap.setIfInBounds b (.map es' ck') }∧EntL E kks kagg agg es'.toList (mset l n ds)∧BornOk es'.toList ck':=by
  have hgo : (getObj b).run P W = .ok (.map es ck) W:=by simp [getObj,Sem.run,g1]
  have hso : ∀ o,(setObj b o).run P W = .ok () { W with heap:=W.heap.setIfInBounds b o }:=fun o => by simp [setObj,Sem.run,g1]
  rcases findKey_ok hkb hn W g2 with ⟨q1,q2⟩ | ⟨j,c,e,q1,q2,q3,q4⟩
  · refine ⟨es.push { key:=cellV kagg (keyC kks n),val:=x,born:=ck },ck + 1,?_,?_,?_⟩
    · unfold Instr.mapUpdate
      simp [run_underlying h1,hgo,run_checkKey hkb hn,q2,hso]
    · rw [(mix_none q1).2.1]
      simp only [Array.toList_push]
      exact g2.push ⟨hn,rfl,ys,hx,hD⟩
    · simp only [Array.toList_push]
      constructor
      · rw [List.map_append]
        simp only [List.map_cons,List.map_nil]
        rw [List.nodup_append]
        refine ⟨g3.1,by simp,fun a ha b hb => ?_⟩
        simp at hb
        obtain ⟨e',he',rfl⟩:=List.mem_map.1 ha
        have:=g3.2 e' he'
        omega
      · intro e' he'
        rcases List.mem_append.1 he' with h | h
        · have:=g3.2 e' h; omega
        · simp at h; subst h; simp
  · obtain ⟨c',p1,p2,p3,_⟩:=mix_some q1
    rw [q2] at p1; cases p1
    obtain ⟨e',he',_,hkey,_⟩:=g2.at q2
    rw [q3] at he'; cases he'
    have hj : j < es.size:=by
      have:=(List.getElem?_eq_some_iff.1 q3).1
      simpa using this
    have hej : es[j] = e:=by
      have:=q3
      rw [Array.getElem?_toList,Array.getElem?_eq_getElem hj] at this
      exact Option.some.inj this
    have hsame:=sameBits_key kagg kks n hn (fun hf => by
      subst hf
      have hkb':=hkb
      simp only [keyB] at hkb'
      split at hkb' <;> try (cases hkb'; done)
      rfl)
    refine ⟨es.modify j fun e => { e with key:=cellV kagg (keyC kks n),val:=x },ck,?_,?_,?_⟩
    · unfold Instr.mapUpdate
      simp [run_underlying h1,hgo,run_checkKey hkb hn,q4,hso,hj,hej,hkey,Instr.keyThatStays,hsame]
    · rw [p3]
      have : (es.modify j fun e => { e with key:=cellV kagg (keyC kks n),val:=x }).toList = es.toList.set j { e with key:=cellV kagg (keyC kks n),val:=x }:=by
        apply List.ext_getElem?
        intro q
        simp only [Array.getElem?_toList,Array.getElem?_modify,List.getElem?_set]
        by_cases hjq : j = q
        · subst hjq
          simp [hj,hej]
        · simp [hjq]
      rw [this]
      exact g2.set j ⟨hn,rfl,ys,hx,hD⟩
    · have hb : (es.modify j fun e => { e with key:=cellV kagg (keyC kks n),val:=x }).toList.map (·.born) = es.toList.map (·.born):=by
        apply List.ext_getElem?
        intro q
        simp only [List.getElem?_map,Array.getElem?_toList,Array.getElem?_modify]
        by_cases hjq : j = q
        · subst hjq; simp [hj]
        · simp [hjq]
      refine ⟨by rw [hb]; exact g3.1,fun e' he' => ?_⟩
      have : e'.born ∈ es.toList.map (·.born):=by rw [← hb]; exact List.mem_map.2 ⟨e',he',rfl⟩
      obtain ⟨e2,h2,h3⟩:=List.mem_map.1 this
      rw [← h3]; exact g3.2 e2 h2
theorem cellsD_one {P : Program} {t : TypeId} {v : V} {kb : KB} {K : List D→KB→Prop} (h : cellsD P t v kb K) (hna : ∀ vs,v ≠ .agg vs) : V.one v = true:=by
  unfold cellsD at h
  split at h <;> try exact h.elim
  split at h <;> try exact h.elim
  split at h
  · exact (hna _ rfl).elim
  · split at h <;> try exact h.elim
    split at h <;> try exact h.elim
    rename_i h1 _
    exact h1
theorem updateK_ok {P : Program} {t : TypeId} {m k v : V} {kb : KB} {K : KB→Prop} (h : updateK P t m k v kb K) {σ : Sg} {E : EH} {W : World} (hi : Inv σ E kb W) {x y z : Value} (hx : Den σ E m x) (hy : Den σ E k y) (hz : Den σ E v z) :
    ∃ E' kb' W',(Instr.mapUpdate t x y z).run P W = .ok () W'∧Step σ E kb W σ E' kb' W'∧K kb':=by
  unfold updateK at h
  split at h <;> try exact h.elim
  rename_i kt et ka ks ns i ht hk
  have h1:=mapT_ok ht
  obtain ⟨hnl,rfl⟩:=keyV_ok hk hy
  split at h <;> try exact h.elim
  rename_i agg n ha hn hkb
  simp only [Den] at hx
  obtain ⟨r,hr,rfl⟩:=hx
  have main : ∀ {E1 : EH} {kb1 : KB} {ds : List D} {xs : List Value} {kks : List IntKind} {kagg : Bool} {sz : Nat} {l : ML},Step σ E kb W σ E1 kb1 W→DenD E1 ds xs→tSize P et = some xs.length→kb1[i]? = some (.mp kks kagg agg sz l) →
      kksEq ks kks = true→(ka == kagg) = true→Nat.beq n sz = true→z = cellV agg xs→K (kb1.set i (.mp kks kagg agg sz (mset l ns ds))) →
      ∃ E' kb' W',(Instr.mapUpdate t (.map (some r.blk)) (cellV ka (keyC ks ns)) z).run P W = .ok () W'∧Step σ E kb W σ E' kb' W'∧K kb':=by
    intro E1 kb1 ds xs kks kagg sz l s1 hD hxn hl c1 c2 c3 hzc hK
    have e1:=kksEq_ok c1
    have e2 : ka = kagg:=by simpa using c2
    have e3:=Nat.eq_of_beq_eq_true c3
    subst e1; subst e2; subst e3
    obtain ⟨hw,es,ck,g1,g2,g3⟩:=s1.inv.obj i r _ hr hl
    obtain ⟨es',ck',q1,q2,q3⟩:=run_mapUpdate h1 hkb g1 g2 g3 hnl hzc hD
    have hlt : r.blk < W.heap.size:=(Array.getElem?_eq_some_iff.1 g1).1
    rw [hn] at hxn
    have hxn:=Option.some.inj hxn
    refine ⟨_,_,_,q1,s1.trans (s1.inv.set (o':=.mp ks ka agg n (mset l ns ds)) hr hl rfl rfl rfl (by simp) (fun b hb => ?_) (fun b hb => hb) ⟨wl_mset hw (by have:=hD.len; omega),es',ck',?_,q2,q3⟩),hK⟩
    · simp only [owned] at hb
      show (W.heap.setIfInBounds r.blk _)[b]? = _
      rw [Array.getElem?_setIfInBounds_ne (fun e => hb e.symm)]
    · show (W.heap.setIfInBounds r.blk _)[r.blk]? = _
      simp [hlt]
  split at h <;> try exact h.elim
  · obtain ⟨E1,kb1,ds,xs,s1,hc,hD,h,hxn⟩:=cellsD_ok h hi hz
    split at h <;> try exact h.elim
    rename_i kks kagg agg2 sz l hl
    split at h <;> try exact h.elim
    rename_i c1 c2 c3
    simp only [Den] at hz
    obtain ⟨us,rfl,_⟩:=hz
    simp only [Value.cells] at hc
    exact main s1 hD hxn hl c1 c2 c3 (by simp [cellV,hc]) h
  · rename_i hna
    have h0:=h
    obtain ⟨E1,kb1,ds,xs,s1,hc,hD,h,hxn⟩:=cellsD_ok h hi hz
    split at h <;> try exact h.elim
    rename_i kks kagg agg2 sz l hl
    split at h <;> try exact h.elim
    rename_i c1 c2 c3
    have hone : z.oneCell' = true:=one_den (cellsD_one h0 hna) hz
    have hxz : xs = [z]:=by
      have hzz : z.cells = #[z]:=by cases z <;> simp_all [Value.cells,Value.oneCell']
      rw [hzz] at hc
      have:=congrArg Array.toList hc
      simpa using this.symm
    exact main s1 hD hxn hl c1 c2 c3 (by simp [cellV,hxz]) h
def deleteK (P : Program) (t : TypeId) (m k : V) (kb : KB) (K : KB→Prop) : Prop :=
  match mapT P t,keyV k,m with
  | some (kt,et),some (ka,ks,ns),.mp i => match keyB P kt ks ka,kb[i]? with
    | true,some (.mp kks kagg agg sz l) => match kksEq ks kks,(ka == kagg) with
      | true,true => K (kb.set i (.mp kks kagg agg sz (mdel l ns)))
      | _,_ => False
    | _,_ => False
  | _,_,_ => False
theorem wl_mdel {sz : Nat} {l : ML} (h : wl sz (l.map (·.2))) {n : List Int} : wl sz ((mdel l n).map (·.2)):=by
  induction l with
  | nil => exact h
  | cons p l ih =>
    obtain ⟨a,c⟩:=p
    have ht : wl sz (l.map (·.2)):=fun e he => h e (List.mem_cons_of_mem _ he)
    simp only [mdel]
    split
    · exact ht
    · intro e he
      simp only [List.map_cons,List.mem_cons] at he
      rcases he with rfl | he
      · exact h _ (by simp)
      · exact ih ht e he
theorem deleteK_ok {P : Program} {t : TypeId} {m k : V} {kb : KB} {K : KB→Prop} (h : deleteK P t m k kb K) {σ : Sg} {E : EH} {W : World} (hi : Inv σ E kb W) {x y : Value} (hx : Den σ E m x) (hy : Den σ E k y) (u ty : TypeId) :
    ∃ kb' W',(Builtin.delete_ #[t,u] ty #[x,y]).run P W = .ok (.tuple #[]) W'∧Step σ E kb W σ E kb' W'∧K kb':=by
  unfold deleteK at h
  split at h <;> try exact h.elim
  rename_i kt et ka ks ns i ht hk
  have h1:=mapT_ok ht
  obtain ⟨hnl,rfl⟩:=keyV_ok hk hy
  split at h <;> try exact h.elim
  rename_i kks kagg agg sz l hkb hl
  split at h <;> try exact h.elim
  rename_i c1 c2
  have e1:=kksEq_ok c1
  have e2 : ka = kagg:=by simpa using c2
  subst e1; subst e2
  simp only [Den] at hx
  obtain ⟨r,hr,rfl⟩:=hx
  obtain ⟨hw,es,ck,g1,g2,g3⟩:=hi.obj i r _ hr hl
  have hgo : (getObj r.blk).run P W = .ok (.map es ck) W:=by simp [getObj,Sem.run,g1]
  have hso : ∀ o,(setObj r.blk o).run P W = .ok () { W with heap:=W.heap.setIfInBounds r.blk o }:=fun o => by simp [setObj,Sem.run,g1]
  have hlt : r.blk < W.heap.size:=(Array.getElem?_eq_some_iff.1 g1).1
  have hst : ∀ {es' : Array MapEntry},EntL E ks ka agg es'.toList (mdel l ns)→BornOk es'.toList ck→Step σ E kb W σ E (kb.set i (.mp ks ka agg sz (mdel l ns))) { W with heap:=W.heap.setIfInBounds r.blk (.map es' ck) }:=by
    intro es' q2 q3
    refine hi.set (o':=.mp ks ka agg sz (mdel l ns)) hr hl rfl rfl rfl (by simp) (fun b hb => ?_) (fun b hb => hb) ⟨wl_mdel hw,es',ck,?_,q2,q3⟩
    · simp only [owned] at hb
      show (W.heap.setIfInBounds r.blk _)[b]? = _
      rw [Array.getElem?_setIfInBounds_ne (fun e => hb e.symm)]
    · show (W.heap.setIfInBounds r.blk _)[r.blk]? = _
      simp [hlt]
  rcases findKey_ok hkb hnl W g2 with ⟨q1,q2⟩ | ⟨j,c,e,q1,q2,q3,q4⟩
  · refine ⟨_,_,?_,hst (es':=es) (by rw [(mix_none q1).2.2]; exact g2) g3,h⟩
    simp [Builtin.delete_,run_underlying h1,hgo,run_checkKey hkb hnl,q2,hso]
  · obtain ⟨c',p1,p2,_,p4⟩:=mix_some q1
    have hj : j < es.size:=by
      have:=(List.getElem?_eq_some_iff.1 q3).1
      simpa using this
    have he : (es.eraseIdxIfInBounds j).toList = es.toList.eraseIdx j:=by
      simp [Array.eraseIdxIfInBounds,hj]
    refine ⟨_,_,?_,hst (es':=es.eraseIdxIfInBounds j) (by rw [he,p4]; exact g2.erase j) ?_,h⟩
    · simp [Builtin.delete_,run_underlying h1,hgo,run_checkKey hkb hnl,q4,hso]
    · rw [he]
      refine ⟨?_,fun e' he' => g3.2 e' (List.mem_of_mem_eraseIdx he')⟩
      exact List.Nodup.sublist (List.Sublist.map _ (List.eraseIdx_sublist _ _)) g3.1
def mapLenK (P : Program) (t : TypeId) (m : V) (kb : KB) (K : V→Prop) : Prop :=
  match mapT P t with
  | some _ => match m with
    | .mp i => match kb[i]? with
      | some (.mp _ _ _ _ l) => K (.int .i64 (l.length : Int))
      | _ => False
    | .imp _ _ _ _ l => K (.int .i64 (l.length : Int))
    | .any (.map none) => K (.lit .i64 0)
    | _ => False
  | none => False
theorem mapLenK_ok {P : Program} {t : TypeId} {m : V} {kb : KB} {K : V→Prop} (h : mapLenK P t m kb K) {σ : Sg} {E : EH} {W : World} (hi : Inv σ E kb W) {x : Value} (hx : Den σ E m x) (ty : TypeId) :
    ∃ v z,(Builtin.len_ #[t] ty #[x]).run P W = .ok z W∧Den σ E v z∧K v:=by
  unfold mapLenK at h
  split at h <;> try exact h.elim
  rename_i q ht
  obtain ⟨kt,et⟩:=q
  have h1:=mapT_ok ht
  split at h <;> try exact h.elim
  · rename_i i
    split at h <;> try exact h.elim
    rename_i kks kagg agg sz l hl
    simp only [Den] at hx
    obtain ⟨r,hr,rfl⟩:=hx
    obtain ⟨hw,es,ck,g1,g2,_⟩:=hi.obj i r _ hr hl
    have hgo : (getObj r.blk).run P W = .ok (.map es ck) W:=by simp [getObj,Sem.run,g1]
    have:=g2.len
    exact ⟨_,_,by simp [Builtin.len_,run_underlying h1,hgo]; rfl,by simp only [Den,goInt]; rw [show es.size = l.length by simpa using this],h⟩
  · rename_i kks kagg agg sz l
    simp only [Den] at hx
    obtain ⟨a,rfl,hx⟩:=hx
    cases a with
    | none =>
      have hx : l = []:=hx
      subst hx
      exact ⟨_,_,by simp [Builtin.len_,run_underlying h1]; rfl,by simp [Den,goInt],h⟩
    | some b =>
      obtain ⟨hw,es,ck,g1,g2,_⟩:=hx
      have g1:=hi.imm b _ g1
      have hgo : (getObj b).run P W = .ok (.map es ck) W:=by simp [getObj,Sem.run,g1]
      have:=g2.len
      exact ⟨_,_,by simp [Builtin.len_,run_underlying h1,hgo]; rfl,by simp only [Den,goInt]; rw [show es.size = l.length by simpa using this],h⟩
  · simp only [Den] at hx
    subst hx
    exact ⟨_,_,by simp [Builtin.len_,run_underlying h1]; rfl,by simp [Den,goInt],h⟩
def allKinds : List CK→Option (List IntKind)
  | [] => some []
  | .int k :: ks => match allKinds ks with | some r => some (k :: r) | none => none
  | _ => none
def makeMapK (P : Program) (t : TypeId) (kb : KB) (K : V→KB→Prop) : Prop :=
  match mapT P t with
  | some (kt,et) => match (kindsOf P 20 kt).bind allKinds,tAgg P kt,tAgg P et,(kindsOf P 20 et) with
    | some ks,some ka,some agg,some cks => K (.mp kb.length) (kb ++ [.mp ks ka agg (wk cks) []])
    | _,_,_,_ => False
  | none => False
theorem makeMapK_ok {P : Program} {t : TypeId} {kb : KB} {K : V→KB→Prop} (h : makeMapK P t kb K) {σ : Sg} {E : EH} {W : World} (hi : Inv σ E kb W) :
    ∃ v x σ' kb' W',(Instr.makeMap t none).run P W = .ok x W'∧Step σ E kb W σ' E kb' W'∧Den σ' E v x∧K v kb':=by
  unfold makeMapK at h
  split at h <;> try exact h.elim
  rename_i kt et ht
  split at h <;> try exact h.elim
  rename_i ks ka agg cks _ _ _ _
  refine ⟨_,.map (some W.heap.size),_,_,W.alloc (.map #[] 0),by simp [Instr.makeMap],hi.alloc (.map #[] 0) ⟨W.heap.size,0,0⟩ (.mp ks ka agg (wk cks) []) (fun b hb => hb) ⟨wl.nil,#[],0,?_,by simp [EntL],⟨by simp,by simp⟩⟩,?_,h⟩
  · show (W.heap.push _)[W.heap.size]? = _
    simp
  · simp only [Den]
    exact ⟨⟨W.heap.size,0,0⟩,by rw [← hi.len]; simp,rfl⟩
def isMapT (P : Program) (t : TypeId) : Bool:=match P.underlying t with | some (.map _ _) => true | _ => false
end Vc
set_option linter.unusedSimpArgs false
set_option linter.unusedVariables false
namespace Vc
open Go
theorem flat_splice {sz : Nat} {l xs : List (List D)} (hl : wl sz l) (hx : wl sz xs) {lo : Nat} (h : lo + xs.length ≤ l.length) : (splice l lo xs).flatten = splice l.flatten (lo * sz) xs.flatten:=by
  unfold splice
  rw [List.flatten_append,List.flatten_append,flat_take hl,flat_drop hl,flat_len hx,Nat.add_mul]
theorem wl_splice {sz : Nat} {l xs : List (List D)} (hl : wl sz l) (hx : wl sz xs) (lo : Nat) : wl sz (splice l lo xs):=((hl.take lo).append hx).append (hl.drop _)
def copyK (P : Program) (t : TypeId) (d x : V) (kb : KB) (K : V→KB→Prop) : Prop :=
  match P.underlying t,srcV kb x with
  | some (.slice elem),some (sz,p,xs) => match tSize P elem with
    | some s => match szFits s sz with
      | true => match d with
        | .sl i lo hi => match kb[i]? with
          | some (.row ty sz' l) => match Nat.beq sz' s with
            | true => p∧hi ≤ l.length∧K (.int .i64 ((min xs.length (hi - lo) : Nat) : Int)) (kb.set i (.row ty sz' (splice l lo (xs.take (hi - lo)))))
            | false => False
          | _ => False
        | .sa i base o s' n c => match kb[i]?,Nat.beq s 1 with
          | some (.cells l),true => match pieceAt l base with
            | some (.arr m cs) => match spliceW l base [.arr m (splice cs o (xs.take n).flatten)] with
              | some l' => p∧o + n ≤ m∧K (.int .i64 ((min xs.length n : Nat) : Int)) (kb.set i (.cells l'))
              | none => False
            | _ => False
          | _,_ => False
        | .se i ix o s' n c => match kb[i]?,Nat.beq s 1 with
          | some (.row ty sz' l),true => p∧∃ e,l[ix]? = some e∧o + n ≤ sz'∧K (.int .i64 ((min xs.length n : Nat) : Int)) (kb.set i (.row ty sz' (l.set ix (splice e o (xs.take n).flatten))))
          | _,_ => False
        | _ => False
      | false => False
    | none => False
  | _,_ => False
theorem run_storeCells {P : Program} {xs : List Value} (h1 : ∀ y ∈ xs,y.oneCell' = true) {W : World} {b o : Nat} {arr : Array Value} {ty : TypeId} (hb : W.heap[b]? = some (.cells arr ty (0,0))) (hl : o + xs.length ≤ arr.size) :
    (storeCells ⟨b,o,none⟩ xs).run P W = .ok () (W.setRow b (splice arr.toList o xs).toArray):=by
  have hs:=run_storeCells_at P b o ty xs 0 arr W hb (by simpa using hl) h1
  simp only [Nat.add_zero] at hs
  simpa [splice] using hs
theorem piece_splice {σ : Sg} {E : EH} {kb : KB} {W : World} (hi : Inv σ E kb W) {i : Nat} {r : Re} {l l' : List V} (hr : σ[i]? = some r) (hl : kb[i]? = some (.cells l)) {base m o : Nat} {cs ds : List D} (hp : pieceAt l base = some (.arr m cs))
    {xs : List Value} (hD : DenD E ds xs) (hle : o + ds.length ≤ m) (hl' : spliceW l base [.arr m (splice cs o ds)] = some l') :
    ∃ arr ty,W.heap[r.blk]? = some (.cells arr ty (0,0))∧base + o + xs.length ≤ arr.size∧Step σ E kb W σ E (kb.set i (.cells l')) (W.setRow r.blk (splice arr.toList (base + o) xs).toArray):=by
  obtain ⟨arr,ty,g1,g2⟩:=hi.obj i r _ hr hl
  obtain ⟨ys,p1,p2,p3,p4⟩:=pieceAt_arr hp g2
  have hdl:=hD.len
  have hyl:=p1.len
  have hsl : (splice cs o ds).length = m:=by rw [splice_len (by omega),p2]
  obtain ⟨g3,g4⟩:=spliceW_ok hl' g2 (.cons (.inr ⟨m,_,rfl,hsl,p1.splice hD o⟩) .nil)
  have he : splice arr.toList base (splice ys o xs ++ []) = splice arr.toList (base + o) xs:=by
    rw [List.append_nil,← p4]
    exact splice_sub p3 (by omega)
  rw [he] at g3
  have hst : Step σ E kb W σ E (kb.set i (.cells l')) (W.setRow r.blk (splice arr.toList (base + o) xs).toArray) :=
    setRow_step hi hr hl _ (fun b => Iff.rfl) (fun b hb => hb) ⟨_,ty,setRow_heap W r.blk arr _ ty (0,0) g1,by simpa using g3⟩
  simp only [Array.length_toList] at p3
  exact ⟨arr,ty,g1,by omega,hst⟩
theorem copyK_ok {P : Program} {t : TypeId} {d x : V} {kb : KB} {K : V→KB→Prop} (h : copyK P t d x kb K) {σ : Sg} {E : EH} {W : World} (hi : Inv σ E kb W) {a y : Value} (hd : Den σ E d a) (hy : Den σ E x y) (u ty : TypeId) :
    ∃ v z kb' W',(Builtin.copy_ #[t,u] ty #[a,y]).run P W = .ok z W'∧Step σ E kb W σ E kb' W'∧Den σ E v z∧K v kb':=by
  unfold copyK at h
  split at h <;> try exact h.elim
  rename_i elem sz p xs ht hsrc
  split at h <;> try exact h.elim
  rename_i s hs
  split at h <;> try exact h.elim
  rename_i hfit
  split at h <;> try exact h.elim
  · rename_i i lo hi'
    split at h <;> try exact h.elim
    rename_i ty' sz' l hl
    split at h <;> try exact h.elim
    rename_i hb
    have hsz:=Nat.eq_of_beq_eq_true hb
    subst hsz
    obtain ⟨hp,hle,hK⟩:=h
    have hE:=srcV_ok hsrc hp hi hy hfit
    simp only [Den] at hd
    obtain ⟨r,ad,hr,rfl,g1,g2,g3⟩:=hd
    obtain ⟨ys,c1,_,c3⟩:=hE.first (P:=P) (min xs.length (hi' - lo)) (Nat.min_le_left _ _)
    have e0 : xs.take (min xs.length (hi' - lo)) = xs.take (hi' - lo):=by
      rw [Nat.min_comm]
      exact List.take_eq_take_min.symm
    rw [e0] at c3
    obtain ⟨k1,k2,k3,k4,k5⟩:=hi.obj i r _ hr hl
    have hxw : wl sz' (xs.take (hi' - lo)):=hE.1.take _
    have hxl : (xs.take (hi' - lo)).length ≤ hi' - lo:=by simp; omega
    have hlen:=hE.lenOf (P:=P) W
    have hn : Nat.min xs.length (hi' - lo) = min xs.length (hi' - lo):=rfl
    by_cases hz : min xs.length (hi' - lo) = 0
    · have hnil : xs.take (hi' - lo) = []:=by
        apply List.eq_nil_of_length_eq_zero
        rw [List.length_take]; omega
      rw [hnil] at c3 hK
      simp only [List.flatten_nil,DenD] at c3
      subst c3
      have hs0 : splice l lo ([] : List (List D)) = l:=by simp [splice]
      rw [hs0] at hK
      have hset : kb.set i (.row ty' sz' l) = kb:=by
        apply List.ext_getElem?
        intro j
        by_cases hij : i = j
        · subst hij
          rw [List.getElem?_set_self (List.getElem?_eq_some_iff.1 hl).1,hl]
        · rw [List.getElem?_set_ne hij]
      rw [hset] at hK
      refine ⟨_,goInt ((min xs.length (hi' - lo) : Nat) : Int),kb,W,?_,Step.refl hi,?_,hK⟩
      · unfold Builtin.copy_
        cases ad <;> simp [run_underlying ht,hlen,run_tSize hs,hn,c1,storeCells]
      · simp [Den,goInt]
    · have hlc : lo < r.cap:=by omega
      rw [g3 hlc]
      have hfl : (splice l lo (xs.take (hi' - lo))).flatten = splice l.flatten (lo * sz') (xs.take (hi' - lo)).flatten:=flat_splice k2 hxw (by omega)
      have hb1 : lo * sz' + (xs.take (hi' - lo)).flatten.length ≤ l.length * sz':=by
        rw [flat_len hxw,← Nat.add_mul]
        exact Nat.mul_le_mul_right _ (by omega)
      obtain ⟨arr,q1,q2,q3⟩:=row_splice hi hr hl (o:=lo * sz') c3 (l':=splice l lo (xs.take (hi' - lo))) (splice_len (by omega)) (wl_splice k2 hxw lo) hfl hb1 (by omega)
      refine ⟨_,goInt ((min xs.length (hi' - lo) : Nat) : Int),_,_,?_,q3,?_,hK⟩
      · unfold Builtin.copy_
        rw [k1]
        simp [run_underlying ht,hlen,run_tSize hs,hn,c1,run_storeCells c3.one q1 q2]
      · simp [Den,goInt]
  · rename_i i base o s' n c
    split at h <;> try exact h.elim
    rename_i l hl hb
    have hs1:=Nat.eq_of_beq_eq_true hb
    subst hs1
    split at h <;> try exact h.elim
    rename_i m cs hpc
    split at h <;> try exact h.elim
    rename_i l' hl'
    obtain ⟨hp,hle,hK⟩:=h
    have hE:=srcV_ok hsrc hp hi hy hfit
    simp only [Den] at hd
    obtain ⟨r,ad,hr,rfl,g1,g3⟩:=hd
    obtain ⟨ys,c1,_,c3⟩:=hE.first (P:=P) (min xs.length n) (Nat.min_le_left _ _)
    have e0 : xs.take (min xs.length n) = xs.take n:=by
      rw [Nat.min_comm]
      exact List.take_eq_take_min.symm
    rw [e0] at c3
    have hfl:=flat_len (hE.1.take n)
    have hxl : (xs.take n).length = min n xs.length:=by simp
    have hlen:=hE.lenOf (P:=P) W
    have hn : Nat.min xs.length n = min xs.length n:=rfl
    obtain ⟨arr,ty2,q1,q2,q3⟩:=piece_splice hi hr hl hpc c3 (by omega) hl'
    refine ⟨_,goInt ((min xs.length n : Nat) : Int),_,_,?_,q3,?_,hK⟩
    · by_cases hc : 0 < c
      · rw [g3 hc]
        unfold Builtin.copy_
        simp [run_underlying ht,hlen,run_tSize hs,hn,c1,run_storeCells c3.one q1 q2]
      · have hys : ys = []:=List.eq_nil_of_length_eq_zero (by rw [c3.len,hfl,hxl]; omega)
        subst hys
        have hset : W.setRow r.blk (splice arr.toList (base + o) ([] : List Value)).toArray = W:=by
          have : splice arr.toList (base + o) ([] : List Value) = arr.toList:=by simp [splice]
          rw [this]
          unfold World.setRow
          have hlt:=(Array.getElem?_eq_some_iff.1 q1).1
          simp only [Array.toArray_toList]
          congr 1
          apply Array.ext (by simp)
          intro j h1 h2
          simp only [Array.getElem_modify]
          split
          · rename_i e; subst e
            have:=(Array.getElem?_eq_some_iff.1 q1).2
            rw [this]
          · rfl
        rw [hset]
        unfold Builtin.copy_
        cases ad <;> simp [run_underlying ht,hlen,run_tSize hs,hn,c1,storeCells]
    · simp [Den,goInt]
  · rename_i i ix o s' n c
    split at h <;> try exact h.elim
    rename_i ty' sz' l hl hb
    have hs1:=Nat.eq_of_beq_eq_true hb
    subst hs1
    obtain ⟨hp,e,he,hle,hK⟩:=h
    have hE:=srcV_ok hsrc hp hi hy hfit
    simp only [Den] at hd
    obtain ⟨r,ad,hr,rfl,g1,g3⟩:=hd
    obtain ⟨ys,c1,_,c3⟩:=hE.first (P:=P) (min xs.length n) (Nat.min_le_left _ _)
    have e0 : xs.take (min xs.length n) = xs.take n:=by
      rw [Nat.min_comm]
      exact List.take_eq_take_min.symm
    rw [e0] at c3
    have hfl:=flat_len (hE.1.take n)
    have hxl : (xs.take n).length = min n xs.length:=by simp
    have hlen:=hE.lenOf (P:=P) W
    have hn : Nat.min xs.length n = min xs.length n:=rfl
    obtain ⟨k1,k2,k3,k4,k5⟩:=hi.obj i r _ hr hl
    have hix : ix < l.length:=(List.getElem?_eq_some_iff.1 he).1
    have hm : (ix + 1) * sz' ≤ l.length * sz':=Nat.mul_le_mul_right _ hix
    rw [Nat.succ_mul] at hm
    have hes:=k2 e (List.mem_of_getElem? he)
    obtain ⟨arr,q1,q2,q3⟩:=row_splice hi hr hl (o:=ix * sz' + o) c3 (l':=l.set ix (splice e o (xs.take n).flatten)) (by simp) (k2.set ix (by rw [splice_len (by omega),hes])) (flat_set_part k2 he (by omega)) (by omega) (by omega)
    refine ⟨_,goInt ((min xs.length n : Nat) : Int),_,_,?_,q3,?_,hK⟩
    · by_cases hc : 0 < c
      · rw [g3 hc,k1]
        unfold Builtin.copy_
        simp [run_underlying ht,hlen,run_tSize hs,hn,c1,run_storeCells c3.one q1 q2]
      · have hys : ys = []:=List.eq_nil_of_length_eq_zero (by rw [c3.len,hfl,hxl]; omega)
        subst hys
        have hset : W.setRow r.blk (splice arr.toList (ix * sz' + o) ([] : List Value)).toArray = W:=by
          have : splice arr.toList (ix * sz' + o) ([] : List Value) = arr.toList:=by simp [splice]
          rw [this]
          unfold World.setRow
          simp only [Array.toArray_toList]
          congr 1
          apply Array.ext (by simp)
          intro j h1 h2
          simp only [Array.getElem_modify]
          split
          · rename_i e; subst e
            have:=(Array.getElem?_eq_some_iff.1 q1).2
            rw [this]
          · rfl
        rw [hset]
        unfold Builtin.copy_
        cases ad <;> simp [run_underlying ht,hlen,run_tSize hs,hn,c1,storeCells]
    · simp [Den,goInt]
def zeroD : List CK→List Value→Option (List D)
  | [],[] => some []
  | .arr m z :: ks,cs => match repB z m cs,z.oneCell' with
    | some r,true => match zeroD ks r with | some us => some (appD (List.replicate m (.val z)) us) | none => none
    | _,_ => none
  | .sl s :: ks,c :: cs => match c with
    | .slice none 0 0 => match zeroD ks cs with | some us => some (.sl s [] :: us) | none => none
    | _ => none
  | _ :: ks,c :: cs => match c.oneCell' with
    | true => match zeroD ks cs with | some us => some (.val c :: us) | none => none
    | false => none
  | _,_ => none
theorem zeroD_ok (E : EH) : ∀ {ks : List CK} {cs : List Value} {us : List D},zeroD ks cs = some us→DenD E us cs
  | [],[],us,h => by simp [zeroD] at h; subst h; exact .nil
  | [],_ :: _,us,h => by simp [zeroD] at h
  | c :: ks,cs,us,h => by
    have single : ∀ {x : Value} {cs' : List Value},cs = x :: cs'→(match x.oneCell' with | true => (match zeroD ks cs' with | some us => some (.val x :: us) | none => none) | false => none) = some us→DenD E us cs:=by
      rintro x cs' rfl h
      split at h <;> try (cases h; done)
      rename_i h1
      split at h <;> try (cases h; done)
      rename_i us' hus
      cases h
      exact .cons (show RepD E (.val x) x from ⟨rfl,h1⟩) (zeroD_ok E hus)
    cases c with
    | arr m z =>
      simp only [zeroD] at h
      split at h <;> try (cases h; done)
      rename_i r hr h1
      split at h <;> try (cases h; done)
      rename_i us' hus
      cases h
      rw [repB_ok hr,appD_eq]
      exact (DenD.replicate (show RepD E (.val z) z from ⟨rfl,h1⟩) m).append (zeroD_ok E hus)
    | int k => cases cs with | nil => simp [zeroD] at h | cons v vs' => exact single rfl (by simpa only [zeroD] using h)
    | bool => cases cs with | nil => simp [zeroD] at h | cons v vs' => exact single rfl (by simpa only [zeroD] using h)
    | other => cases cs with | nil => simp [zeroD] at h | cons v vs' => exact single rfl (by simpa only [zeroD] using h)
    | sl s =>
      cases cs with
      | nil => simp [zeroD] at h
      | cons v vs' =>
        simp only [zeroD] at h
        split at h <;> try (cases h; done)
        split at h <;> try (cases h; done)
        rename_i us' hus
        cases h
        exact .cons (by simp only [RepD]; exact ⟨none,0,rfl,Nat.le_refl _,.inl rfl⟩) (zeroD_ok E hus)
def zeroE (P : Program) (e : TypeId) : Option (List D) :=
  match (P.info? e).bind (·.zero),kindsOf P 20 e with
  | some z,some ks => zeroD ks z.cells.toList
  | _,_ => none
theorem cyc_flat (z : Array Value) (hz : 0 < z.size) : ∀ n,((Array.range (n * z.size)).map (z[· % z.size]!)).toList = (List.replicate n z.toList).flatten
  | 0 => by simp
  | n + 1 => by
    rw [List.replicate_succ',List.flatten_append,← cyc_flat z hz n]
    apply List.ext_getElem?
    intro j
    simp only [Array.toList_map,Array.toList_range,List.getElem?_append,List.getElem?_map,List.length_map,List.length_range,List.flatten_cons,List.flatten_nil,List.append_nil]
    rcases Nat.lt_or_ge j (n * z.size) with h1 | h1
    · rw [if_pos h1,List.getElem?_range (by rw [Nat.succ_mul]; omega),List.getElem?_range h1]
    · rw [if_neg (by omega)]
      rcases Nat.lt_or_ge j ((n + 1) * z.size) with h2 | h2
      · rw [List.getElem?_range h2]
        rw [Nat.succ_mul] at h2
        have e : j % z.size = j - n * z.size:=by
          have : j = (j - n * z.size) + n * z.size:=by omega
          rw [this,Nat.add_mul_mod_self_right,Nat.mod_eq_of_lt (by omega)]
          omega
        simp only [Option.map_some]
        rw [e,Array.getElem?_toList,getElem!_pos z _ (by omega),Array.getElem?_eq_getElem (by omega)]
      · rw [List.getElem?_eq_none (by simpa using h2)]
        rw [Nat.succ_mul] at h2
        rw [List.getElem?_eq_none (by simp; omega)]
        rfl
structure Room (n c : Int) (b : Nat) : Prop where
  le : n ≤ c
  bytes : c * b ≤ 140737488355328
  cap : c ≤ 140737488355328
def makeSliceK (P : Program) (t : TypeId) (len cap : V) (kb : KB) (K : V→KB→Prop) : Prop :=
  match P.underlying t,numOf len,numOf cap with
  | some (.slice elem),some n,some c => match P.info? elem,zeroE P elem with
    | some i,some ds => match Nat.beq ds.length i.size,Nat.ble 1 i.size with
      | true,true => NonN n∧Room n c i.bytes∧K (.sl kb.length 0 n.toNat) (kb ++ [.row elem i.size (List.replicate n.toNat ds)])
      | _,_ => False
    | _,_ => False
  | _,_,_ => False
theorem wl_rep {ds : List D} {s : Nat} (h : ds.length = s) (n : Nat) : wl s (List.replicate n ds):=fun e he => by rw [List.eq_of_mem_replicate he]; exact h
theorem rep_flat {α : Type} (l : List α) {n c : Nat} (h : n ≤ c) : ((List.replicate c l).flatten).take (n * l.length) = (List.replicate n l).flatten:=by
  have e : c = n + (c - n):=by omega
  rw [e,← List.replicate_append_replicate,List.flatten_append]
  have : (List.replicate n l).flatten.length = n * l.length:=by simp
  rw [← this,List.take_left]
theorem DenD.reps {E : EH} {ds : List D} {xs : List Value} (h : DenD E ds xs) : ∀ n,DenD E (List.replicate n ds).flatten (List.replicate n xs).flatten
  | 0 => .nil
  | n + 1 => by rw [List.replicate_succ,List.replicate_succ,List.flatten_cons,List.flatten_cons]; exact h.append (h.reps n)
theorem makeSliceK_ok {P : Program} {t : TypeId} {len cap : V} {kb : KB} {K : V→KB→Prop} (h : makeSliceK P t len cap kb K) {σ : Sg} {E : EH} {W : World} (hi : Inv σ E kb W) {x y : Value} (hx : Den σ E len x) (hy : Den σ E cap y) :
    ∃ v z σ' kb' W',(Instr.makeSlice t x y).run P W = .ok z W'∧Step σ E kb W σ' E kb' W'∧Den σ' E v z∧K v kb':=by
  unfold makeSliceK at h
  split at h <;> try exact h.elim
  rename_i elem n c ht hn hc
  obtain ⟨k1,rfl⟩:=numOf_den hn hx
  obtain ⟨k2,rfl⟩:=numOf_den hc hy
  split at h <;> try exact h.elim
  rename_i i ds hinf hz
  split at h <;> try exact h.elim
  rename_i hb1 hb2
  have hdl:=Nat.eq_of_beq_eq_true hb1
  have hs1:=Nat.le_of_ble_eq_true hb2
  obtain ⟨h0,⟨h1,h2,h3⟩,hK⟩:=h
  unfold NonN at h0
  unfold zeroE at hz
  split at hz <;> try (cases hz; done)
  rename_i z ks hz0 hks
  obtain ⟨it,hit,hzz⟩:=Option.bind_eq_some_iff.1 hz0
  rw [hinf] at hit; cases hit
  have hD:=zeroD_ok E hz
  have hzl : z.cells.size = i.size:=by
    have:=hD.len
    simp only [Array.length_toList] at this
    omega
  have w1 : IntKind.i64.wrap n = n:=IntWalk.i64_in n (by omega)
  have w2 : IntKind.i64.wrap c = c:=IntWalk.i64_in c (by omega)
  have hb0 : (0 : Int) ≤ i.bytes:=by omega
  have hmul : (i.bytes : Int) * c = ((c.toNat * i.bytes : Nat) : Int):=by
    have : c = (c.toNat : Int):=by omega
    rw [this,Int.mul_comm]
    simp
  have hmn : c.toNat * i.bytes ≤ 140737488355328:=by
    have : ((c.toNat * i.bytes : Nat) : Int) ≤ 140737488355328:=by rw [← hmul,Int.mul_comm]; exact h2
    omega
  have hcells : (if c.toNat * i.size = 0 then (#[] : Array Value) else z.cells) = (if c.toNat * i.size = 0 then #[] else z.cells):=rfl
  have harr : ∀ (zz : Array Value),(zz = if c.toNat * i.size = 0 then #[] else z.cells)→((Array.range (c.toNat * i.size)).map (zz[· % zz.size]!)) = ((Array.range (c.toNat * i.size)).map (z.cells[· % z.cells.size]!)):=by
    rintro zz rfl
    by_cases hz : c.toNat * i.size = 0
    · rw [hz]; apply Array.ext'; simp
    · rw [if_neg hz]
  have hrun : (Instr.makeSlice t (.int k1 n) (.int k2 c)).run P W = .ok (.slice (some ⟨W.heap.size,0,none⟩) n.toNat c.toNat) (W.alloc (.cells ((Array.range (c.toNat * i.size)).map (z.cells[· % z.cells.size]!)) elem)):=by
    have t1 : ¬ (c < 0):=by omega
    have t2 : ¬ ((i.bytes : Int) * c > 2 ^ 48):=by rw [hmul]; omega
    have t3 : ¬ (n < 0):=by omega
    have t4 : ¬ (n > c):=by omega
    have hroom : (askRoom (c.toNat * i.bytes)).run P W = .ok () W:=by
      unfold askRoom roomBytes
      rw [if_neg (by omega)]
      rfl
    have hai : ∀ (k : IntKind) (m : Int),(asInt (.int k m)).run P W = .ok m W:=fun k m => rfl
    have hti : (typeInfo elem).run P W = .ok i W:=by simp [typeInfo,hinf]
    have hso : (Go.sizeOf elem).run P W = .ok i.size W:=by simp [Go.sizeOf,typeInfo,hinf]
    have hzv : (zeroValue elem).run P W = .ok z W:=by simp [zeroValue,typeInfo,hinf,hzz]
    have hnr : ∀ arr,(newRow elem arr).run P W = .ok ⟨W.heap.size,0,none⟩ (W.alloc (.cells arr elem)):=fun arr => by simp [newRow]
    unfold Instr.makeSlice
    rw [Sem.run_bind,run_underlying ht,Result.andThen_ok]
    simp only []
    rw [Sem.run_bind,hai,Result.andThen_ok,Sem.run_bind,hai,Result.andThen_ok,Sem.run_bind,hti,Result.andThen_ok]
    simp only [w1,w2]
    rw [if_neg (by simp only [t1,t2,t3,t4,decide_false,Bool.or_self,Bool.false_eq_true,not_false_eq_true]),Sem.run_bind,hroom,Result.andThen_ok,Sem.run_bind,hso,Result.andThen_ok]
    by_cases hz : c.toNat * i.size = 0
    · simp only [hz,if_true]
      rw [Sem.run_bind,Sem.run_pure,Result.andThen_ok,Sem.run_bind,hnr,Result.andThen_ok]
      have:=harr #[] (by rw [if_pos hz])
      rw [hz] at this
      simp only [this]
      rfl
    · simp only [hz,if_false]
      have:=harr z.cells (by rw [if_neg hz])
      rw [Sem.run_bind,hzv,Result.andThen_ok,Sem.run_bind,Sem.run_pure,Result.andThen_ok,Sem.run_bind,hnr,Result.andThen_ok]
      rfl
  have hcm : c.toNat ≤ maxLen:=by unfold maxLen; omega
  have hfl:=cyc_flat z.cells (by omega) c.toNat
  rw [hzl] at hfl
  refine ⟨_,_,_,_,_,hrun,alloc_row hi (l:=List.replicate n.toNat ds) (cap:=c.toNat) (wl_rep hdl _) (by simp; omega) hcm (by simp) ?_,?_,hK⟩
  · rw [hzl,hfl,List.length_replicate]
    have hzl' : z.cells.toList.length = i.size:=by simpa using hzl
    rw [← hzl',rep_flat _ (by omega)]
    exact hD.reps _
  · simp only [Den]
    exact ⟨⟨W.heap.size,c.toNat,i.size⟩,_,by rw [← hi.len]; simp,rfl,by simp,by show n.toNat ≤ c.toNat; omega,by simp⟩
def clearK (P : Program) (t : TypeId) (x : V) (kb : KB) (K : KB→Prop) : Prop :=
  match P.underlying t with
  | some (.slice elem) => match x with
    | .sl i lo hi => match kb[i]?,zeroE P elem with
      | some (.row ty sz l),some ds => match Nat.beq ds.length sz with
        | true => hi ≤ l.length∧K (kb.set i (.row ty sz (splice l lo (List.replicate (hi - lo) ds))))
        | false => False
      | _,_ => False
    | _ => False
  | some (.map _ _) => match x with
    | .mp i => match kb[i]? with
      | some (.mp kks kagg agg sz l) => K (kb.set i (.mp kks kagg agg sz []))
      | _ => False
    | _ => False
  | _ => False
theorem kb_same {kb : KB} {i : Nat} {o : KO} (h : kb[i]? = some o) : kb.set i o = kb:=by
  apply List.ext_getElem?
  intro j
  by_cases hij : i = j
  · subst hij
    rw [List.getElem?_set_self (List.getElem?_eq_some_iff.1 h).1,h]
  · rw [List.getElem?_set_ne hij]
theorem clearK_ok {P : Program} {t : TypeId} {x : V} {kb : KB} {K : KB→Prop} (h : clearK P t x kb K) {σ : Sg} {E : EH} {W : World} (hi : Inv σ E kb W) {a : Value} (hd : Den σ E x a) (ty : TypeId) :
    ∃ kb' W',(Builtin.clear_ #[t] ty #[a]).run P W = .ok (.tuple #[]) W'∧Step σ E kb W σ E kb' W'∧K kb':=by
  unfold clearK at h
  split at h <;> try exact h.elim
  · rename_i elem ht
    split at h <;> try exact h.elim
    rename_i i lo hi'
    split at h <;> try exact h.elim
    rename_i ty' sz l ds hl hz
    split at h <;> try exact h.elim
    rename_i hb
    have hdl:=Nat.eq_of_beq_eq_true hb
    obtain ⟨hle,hK⟩:=h
    unfold zeroE at hz
    split at hz <;> try (cases hz; done)
    rename_i z ks hz0 hks
    obtain ⟨it,hit,hzz⟩:=Option.bind_eq_some_iff.1 hz0
    have hzv : (zeroValue elem).run P W = .ok z W:=by simp [zeroValue,typeInfo,hit,hzz]
    have hD:=zeroD_ok E hz
    simp only [Den] at hd
    obtain ⟨r,ad,hr,rfl,g1,g2,g3⟩:=hd
    obtain ⟨k1,k2,k3,k4,k5⟩:=hi.obj i r _ hr hl
    by_cases h0 : hi' - lo = 0
    · have hs0 : splice l lo (List.replicate (hi' - lo) ds) = l:=by rw [h0]; simp [splice]
      rw [hs0,kb_same hl] at hK
      refine ⟨kb,W,?_,Step.refl hi,hK⟩
      unfold Builtin.clear_
      cases ad <;> simp [run_underlying ht,h0]
    · have hD2:=hD.reps (hi' - lo)
      have hzl : z.cells.size = sz:=by
        have:=hD.len
        simp only [Array.length_toList] at this
        omega
      by_cases hsz : sz = 0
      · have hds : ds = []:=List.eq_nil_of_length_eq_zero (by omega)
        have hzc : z.cells = #[]:=Array.eq_empty_of_size_eq_zero (by omega)
        subst hds
        have hall : ∀ e ∈ l,e = []:=fun e he => List.eq_nil_of_length_eq_zero (by rw [k2 e he]; omega)
        have hs0 : splice l lo (List.replicate (hi' - lo) []) = l:=by
          apply List.ext_getElem?
          intro j
          rw [get_splice (by omega)]
          split
          · rfl
          · split
            · rename_i c1 c2
              simp only [List.length_replicate] at c2
              have hj : j < l.length:=by omega
              rw [List.getElem?_eq_getElem hj,hall _ (List.getElem_mem hj)]
              rw [List.getElem?_replicate,if_pos (by omega)]
            · rfl
        rw [hs0,kb_same hl] at hK
        refine ⟨kb,W,?_,Step.refl hi,hK⟩
        unfold Builtin.clear_
        obtain ⟨n,hn⟩ : ∃ n,hi' - lo = n + 1:=⟨hi' - lo - 1,by omega⟩
        rw [hn]
        cases ad <;> simp [run_underlying ht,hzv,hzc,Builtin.zeroCells,storeCells]
      have hrw : wl sz (List.replicate (hi' - lo) ds):=wl_rep hdl _
      have hfl : (splice l lo (List.replicate (hi' - lo) ds)).flatten = splice l.flatten (lo * sz) (List.replicate (hi' - lo) ds).flatten:=flat_splice k2 hrw (by simp; omega)
      obtain ⟨arr,q1,q2,q3⟩:=row_splice hi hr hl (o:=lo * sz) hD2 (l':=splice l lo (List.replicate (hi' - lo) ds)) (splice_len (by simp; omega)) (wl_splice k2 hrw lo) hfl (by rw [flat_len hrw,← Nat.add_mul]; exact Nat.mul_le_mul_right _ (by simp; omega)) (by omega)
      refine ⟨_,_,?_,q3,hK⟩
      have hcyc:=cyc_flat z.cells (by omega) (hi' - lo)
      have hst:=run_storeCells (P:=P) hD2.one q1 q2
      rw [g3 (by omega),k1]
      unfold Builtin.clear_
      obtain ⟨n,hn⟩ : ∃ n,hi' - lo = n + 1:=⟨hi' - lo - 1,by omega⟩
      rw [hn] at hcyc hst ⊢
      have hzc : (Builtin.zeroCells z.cells (n + 1)).toList = (List.replicate (n + 1) z.cells.toList).flatten:=hcyc
      simp [run_underlying ht,hzv,hzc,hst]
  · rename_i kt et ht
    split at h <;> try exact h.elim
    rename_i i
    split at h <;> try exact h.elim
    rename_i kks kagg agg sz l hl
    simp only [Den] at hd
    obtain ⟨r,hr,rfl⟩:=hd
    obtain ⟨hw,es,ck,g1,g2,g3⟩:=hi.obj i r _ hr hl
    have hgo : (getObj r.blk).run P W = .ok (.map es ck) W:=by simp [getObj,Sem.run,g1]
    have hso : ∀ o,(setObj r.blk o).run P W = .ok () { W with heap:=W.heap.setIfInBounds r.blk o }:=fun o => by simp [setObj,Sem.run,g1]
    have hlt : r.blk < W.heap.size:=(Array.getElem?_eq_some_iff.1 g1).1
    refine ⟨_,{ W with heap:=W.heap.setIfInBounds r.blk (.map #[] ck) },?_,hi.set (o':=.mp kks kagg agg sz []) hr hl rfl rfl rfl (by simp) (fun b hb => ?_) (fun b hb => hb) ⟨wl.nil,#[],ck,?_,by simp [EntL],⟨by simp,by simp⟩⟩,h⟩
    · unfold Builtin.clear_
      simp [run_underlying ht,hgo,hso]
    · simp only [owned] at hb
      show (W.heap.setIfInBounds r.blk _)[b]? = _
      rw [Array.getElem?_setIfInBounds_ne (fun e => hb e.symm)]
    · show (W.heap.setIfInBounds r.blk _)[r.blk]? = _
      simp [hlt]
def bytesD (s : ByteArray) : List (List D):=s.data.toList.map fun b => [.val (.int .u8 b.toNat)]
def strK (P : Program) (src dst : TypeId) (x : V) (kb : KB) (K : V→KB→Prop) : Prop :=
  match P.underlying src,P.underlying dst,x with
  | some .string,some (.slice elem),.any (.string s) => match P.underlying elem with
    | some (.int .u8) => K (.dat (.sl 1 (bytesD s))) kb
    | _ => False
  | some (.slice _),some (.slice elem),.sl i lo hi => match Nat.beq src dst,P.underlying elem,kb[i]? with
    | true,some (.int .u8),some (.row _ 1 l) => lo < hi∧hi ≤ l.length∧K (.dat (.sl 1 ((l.take hi).drop lo))) (kb.set i .dead)
    | _,_,_ => False
  | _,_,_ => False
theorem denD_bytes (E : EH) : ∀ (l : List UInt8),DenD E (l.map fun b => [D.val (.int .u8 b.toNat)]).flatten (l.map fun b => Value.int .u8 b.toNat)
  | [] => .nil
  | b :: l => by
    rw [List.map_cons,List.flatten_cons,List.map_cons,List.singleton_append]
    exact .cons (show RepD E (.val _) _ from ⟨rfl,rfl⟩) (denD_bytes E l)
theorem strK_ok {P : Program} {src dst : TypeId} {x : V} {kb : KB} {K : V→KB→Prop} (h : strK P src dst x kb K) {σ : Sg} {E : EH} {W : World} (hi : Inv σ E kb W) {y : Value} (hd : Den σ E x y) :
    ∃ v z E' kb' W',(convert src dst y).run P W = .ok z W'∧Step σ E kb W σ E' kb' W'∧Den σ E' v z∧K v kb':=by
  unfold strK at h
  split at h <;> try exact h.elim
  rotate_left
  · rename_i e1 elem i lo hi' h1 h2
    split at h <;> try exact h.elim
    rename_i ty l hb h3 hk
    obtain ⟨hlt,hle,hK⟩:=h
    have hsd:=Nat.eq_of_beq_eq_true hb
    subst hsd
    simp only [Den] at hd
    obtain ⟨r,a,hr,rfl,g1,g2,g3⟩:=hd
    have hc : r.cap ≠ 0:=by omega
    have ha:=g3 (by omega)
    subst ha
    obtain ⟨E',arr,k1,k2,k3⟩:=hi.freezeM hr hk hc
    have hwl:=(hi.obj i r _ hr hk).2.1
    have hsz:=(hi.obj i r _ hr hk).1
    have hm : (markStringish ⟨r.blk,lo * r.sz,none⟩).run P W = .ok () (W.freeze ⟨r.blk,arr.size,none⟩ 1):=by
      have hsh : W.shape? r.blk = some (ty,arr.size):=by unfold World.shape?; rw [k1]
      unfold markStringish
      rw [Sem.run_bind,show (shape r.blk).run P W = .ok (some (ty,arr.size)) W by rw [← hsh]; rfl,Result.andThen_ok]
      rfl
    have hb1 : r.blk < W.heap.size:=(Array.getElem?_eq_some_iff.1 k1).1
    have hb2 : W.heap[r.blk] = Obj.cells arr ty (0,0):=(Array.getElem?_eq_some_iff.1 k1).2
    refine ⟨_,.slice (some ⟨r.blk,lo * r.sz,none⟩) (hi' - lo) (r.cap - lo),E',_,W.freeze ⟨r.blk,arr.size,none⟩ 1,?_,k2 _ rfl rfl rfl (by simp [World.freeze]) ?_ (fun k hkne => ?_),?_,hK⟩
    · unfold convert
      rw [Sem.run_bind,run_underlying h1,Result.andThen_ok,Sem.run_bind,run_underlying h2,Result.andThen_ok]
      simp only []
      rw [Sem.run_bind,run_underlying h3,Result.andThen_ok]
      simp only [beq_self_eq_true]
      rw [Sem.run_bind,hm,Result.andThen_ok]
      rfl
    · simp [World.freeze,Array.getElem?_modify,k1]
    · simp [World.freeze,Array.getElem?_modify,show ¬ r.blk = k from fun e => hkne e.symm]
    · simp only [Den]
      exact row_part hsz hwl (by omega) hle (hi.obj i r _ hr hk).2.2.1 (fun _ => rfl) (fun _ => k3)
  rename_i elem s h1 h2
  split at h <;> try exact h.elim
  rename_i h3
  simp only [Den] at hd
  subst hd
  have hge:=grownCap_ge W s.size 0 elem
  obtain ⟨cap,hcap⟩ : ∃ cap,grownCap W s.size 0 elem = cap:=⟨_,rfl⟩
  rw [hcap] at hge
  let arr : Array Value:=(s.data.map fun b => Value.int .u8 b.toNat) ++ Array.replicate (cap - s.size) (.int .u8 0)
  have hchoose : (choose (.appendCap s.size 0 elem)).run P W = .ok cap W.drew:=by
    rw [← hcap]
    rfl
  have hW : ((W.drew.alloc (.cells arr elem)).freeze ⟨W.heap.size,arr.size,none⟩ 1) = W.drew.alloc (.cells arr elem (arr.size,arr.size + 1)):=by
    unfold World.freeze World.alloc
    simp only [Nat.one_ne_zero,if_false]
    congr 1
    show (W.heap.push (Obj.cells arr elem)).modify W.heap.size _ = W.heap.push _
    apply Array.ext (by simp)
    intro j h1 h2
    simp only [Array.getElem_modify,Array.getElem_push]
    by_cases hj : j < W.heap.size
    · simp [hj,show ¬ W.heap.size = j by omega]
    · have : W.heap.size = j:=by simp at h1; omega
      simp [this]
  have hrun : (convert src dst (.string s)).run P W = .ok (.slice (some ⟨W.heap.size,0,none⟩) s.size cap) (W.drew.alloc (.cells arr elem (arr.size,arr.size + 1))):=by
    unfold convert
    rw [Sem.run_bind,run_underlying h1,Result.andThen_ok,Sem.run_bind,run_underlying h2,Result.andThen_ok]
    simp only []
    rw [Sem.run_bind,run_underlying h3,Result.andThen_ok]
    simp only []
    unfold Conv.stringToBytes
    rw [Sem.run_bind,hchoose,Result.andThen_ok]
    simp only []
    rw [Sem.run_bind,show (newRow elem ((s.data.map fun b => Value.int .u8 b.toNat) ++ Array.replicate (cap - s.size) (.int .u8 0))).run P W.drew = .ok ⟨W.heap.size,0,none⟩ (W.drew.alloc (.cells arr elem)) by simp [newRow]; rfl,Result.andThen_ok]
    have hsh : (W.drew.alloc (.cells arr elem)).shape? W.heap.size = some (elem,arr.size):=by
      unfold World.shape?
      have : (W.drew.alloc (.cells arr elem)).heap[W.heap.size]? = some (.cells arr elem):=by
        show (W.heap.push _)[W.heap.size]? = _
        simp
      rw [this]
    have hm : (markStringish ⟨W.heap.size,0,none⟩).run P (W.drew.alloc (.cells arr elem)) = .ok () (W.drew.alloc (.cells arr elem (arr.size,arr.size + 1))):=by
      rw [← hW]
      unfold markStringish
      rw [Sem.run_bind,show (shape W.heap.size).run P (W.drew.alloc (.cells arr elem)) = .ok (some (elem,arr.size)) (W.drew.alloc (.cells arr elem)) by rw [← hsh]; rfl,Result.andThen_ok]
      rfl
    rw [Sem.run_bind,hm,Result.andThen_ok]
    rfl
  have hst:=(Inv.drew hi).trans ((Inv.drew hi).inv.growE (.cells arr elem (arr.size,arr.size + 1)))
  refine ⟨_,_,_,_,_,hrun,hst,?_,h⟩
  simp only [Den,RepD]
  have hl : (bytesD s).length = s.size:=by simp [bytesD]
  refine ⟨_,cap,by rw [hl],by rw [hl]; exact hge,.inr ⟨W.heap.size,0,rfl,RepL.of_flat (fun e he => ?_) ?_⟩⟩
  · obtain ⟨b,_,rfl⟩:=List.mem_map.1 he; rfl
  · refine (denD_bytes _ s.data.toList).rep fun j v hj => ?_
    unfold EH.cell
    simp only [show W.drew.heap.size = W.heap.size from rfl,if_true,Nat.zero_add]
    show arr[j]? = some v
    have hlt:=(List.getElem?_eq_some_iff.1 hj).1
    simp only [List.length_map,Array.length_toList] at hlt
    simp only [arr]
    rw [Array.getElem?_append_left (by simpa using hlt)]
    simpa using hj
def arrAtK (P : Program) (t : TypeId) (x : V) (kb : KB) (K : V→Prop) : Prop :=
  match P.underlying t with
  | some (.array (n + 1) elem) => match x with
    | .sl i lo hi => n + 1 ≤ hi - lo∧K (.pw i lo)
    | .dat (.sl _ l) => n + 1 ≤ l.length∧K (.ipe l.flatten 0)
    | .sa i base o _ m _ => n + 1 ≤ m∧K (.pa i base o)
    | .se i ix o _ m _ => n + 1 ≤ m∧K (.pe i ix o)
    | _ => False
  | _ => False
theorem arrAtK_ok {P : Program} {t : TypeId} {x : V} {kb : KB} {K : V→Prop} (h : arrAtK P t x kb K) {σ : Sg} {E : EH} {a : Value} (hd : Den σ E x a) :
    ∃ v z,(∀ W,(Instr.arrayAt t a).run P W = .ok z W)∧Den σ E v z∧K v:=by
  unfold arrAtK at h
  split at h <;> try exact h.elim
  rename_i n elem ht
  have run : ∀ {ad : Option Addr} {len cap : Nat},n + 1 ≤ len→∀ W,(Instr.arrayAt t (.slice ad len cap)).run P W = .ok (.pointer ad) W:=fun hl W => by
    unfold Instr.arrayAt
    rw [Sem.run_bind,run_underlying ht,Result.andThen_ok]
    simp only []
    rw [if_neg (by omega)]
    rfl
  split at h <;> try exact h.elim
  · obtain ⟨hle,hK⟩:=h
    simp only [Den] at hd
    obtain ⟨r,ad,hr,rfl,g1,g2,g3⟩:=hd
    exact ⟨_,_,run hle,by simp only [Den]; exact ⟨r,hr,by rw [g3 (by omega)]⟩,hK⟩
  · rename_i sz l
    obtain ⟨hle,hK⟩:=h
    simp only [Den,RepD] at hd
    obtain ⟨ad,cap,rfl,hcap,hrep⟩:=hd
    rcases hrep with hrep | ⟨b,off,rfl,hrep⟩
    · omega
    exact ⟨_,_,run hle,by simp only [Den]; exact ⟨b,off,rfl,hrep.flat⟩,hK⟩
  · obtain ⟨hle,hK⟩:=h
    simp only [Den] at hd
    obtain ⟨r,ad,hr,rfl,g1,g3⟩:=hd
    exact ⟨_,_,run hle,by simp only [Den]; exact ⟨r,hr,by rw [g3 (by omega)]⟩,hK⟩
  · obtain ⟨hle,hK⟩:=h
    simp only [Den] at hd
    obtain ⟨r,ad,hr,rfl,g1,g3⟩:=hd
    exact ⟨_,_,run hle,by simp only [Den]; exact ⟨r,hr,by rw [g3 (by omega)]⟩,hK⟩
end Vc
set_option linter.unusedSimpArgs false
set_option linter.unusedVariables false
namespace Vc
open Go
structure EH.cle (E E' : EH) : Prop where
  c : ∀ b o v,E.cell b o = some v→E'.cell b o = some v
  m : ∀ b es ck,E b = some (.map es ck)→E' b = some (.map es ck)
theorem EH.cle.cell {E E' : EH} (h : E.cle E') {b o : Nat} {v : Value} (hc : E.cell b o = some v) : E'.cell b o = some v:=h.c b o v hc
mutual
theorem RepD.cmono {E E' : EH} (h : E.cle E') : ∀ {d : D} {v : Value},RepD E d v→RepD E' d v
  | .val _,_,hr => by simpa [RepD] using hr
  | .sl sz l,x,hr => by
    simp only [RepD] at hr ⊢
    obtain ⟨a,cap,h1,h2,h3⟩:=hr
    exact ⟨a,cap,h1,h2,h3.elim .inl (fun ⟨b,off,e,r⟩ => .inr ⟨b,off,e,RepL.cmono h r⟩)⟩
theorem RepC.cmono {E E' : EH} (h : E.cle E') : ∀ {cs : List D} {b off : Nat},RepC E cs b off→RepC E' cs b off
  | [],_,_,_ => by simp [RepC]
  | c :: cs,b,off,hr => by
    simp only [RepC] at hr ⊢
    obtain ⟨⟨v,h1,h2⟩,h3⟩:=hr
    exact ⟨⟨v,h.cell h1,RepD.cmono h h2⟩,RepC.cmono h h3⟩
theorem RepL.cmono {E E' : EH} (h : E.cle E') : ∀ {sz : Nat} {l : List (List D)} {b off : Nat},RepL E sz l b off→RepL E' sz l b off
  | _,[],_,_,_ => by simp [RepL]
  | sz,e :: l,b,off,hr => by
    simp only [RepL] at hr ⊢
    exact ⟨⟨hr.1.1,RepC.cmono h hr.1.2⟩,RepL.cmono h hr.2⟩
end
theorem DenD.cmono {E E' : EH} (hE : E.cle E') : ∀ {ds : List D} {xs : List Value},DenD E ds xs→DenD E' ds xs
  | [],_,h => by simpa only [DenD] using h
  | d :: ds,_,h => by simp only [DenD] at h ⊢; obtain ⟨x,xs',h0,h1,h2⟩:=h; exact ⟨x,xs',h0,h1.cmono hE,h2.cmono hE⟩
theorem EntL.cmono {E E' : EH} (hE : E.cle E') {kks : List IntKind} {kagg agg : Bool} : ∀ {es : List MapEntry} {l : List (List Int × List D)},EntL E kks kagg agg es l→EntL E' kks kagg agg es l
  | [],_,h => by simpa only [EntL] using h
  | e :: es,_,h => by
    simp only [EntL] at h ⊢
    obtain ⟨k,c,l',h0,⟨h1,h1',ys,h2,h3⟩,h4⟩:=h
    exact ⟨k,c,l',h0,⟨h1,h1',ys,h2,h3.cmono hE⟩,h4.cmono hE⟩
theorem ImpOk.cmono {E E' : EH} (hE : E.cle E') {kks : List IntKind} {kagg agg : Bool} {sz : Nat} {a : Option Nat} {l : List (List Int × List D)} (h : ImpOk E kks kagg agg sz a l) : ImpOk E' kks kagg agg sz a l:=by
  cases a with
  | none => exact h
  | some b =>
    obtain ⟨h1,es,clock,h2,h3,h4⟩:=h
    exact ⟨h1,es,clock,hE.m _ _ _ h2,h3.cmono hE,h4⟩
mutual
theorem Den.cmono {σ τ : Sg} {E E' : EH} (h : E.cle E') : ∀ {v : V} {x : Value},Den σ E v x→Den (σ ++ τ) E' v x
  | .any _,_,hd | .int ..,_,hd | .lit ..,_,hd | .sb _,_,hd | .tt,_,hd | .ff,_,hd | .e0,_,hd => by simpa [Den] using hd
  | .arr ..,_,hd => by simp only [Den] at hd
  | .ptr i off,_,hd => by simp only [Den] at hd ⊢; obtain ⟨r,h1,h2⟩:=hd; exact ⟨r,sg_ext h1,h2⟩
  | .pa i base o,_,hd => by simp only [Den] at hd ⊢; obtain ⟨r,h1,h2⟩:=hd; exact ⟨r,sg_ext h1,h2⟩
  | .mp i,_,hd => by simp only [Den] at hd ⊢; obtain ⟨r,h1,h2⟩:=hd; exact ⟨r,sg_ext h1,h2⟩
  | .ch i,_,hd => by simp only [Den] at hd ⊢; obtain ⟨r,h1,h2⟩:=hd; exact ⟨r,sg_ext h1,h2⟩
  | .sl i lo hi,_,hd => by simp only [Den] at hd ⊢; obtain ⟨r,a,h1,h2⟩:=hd; exact ⟨r,a,sg_ext h1,h2⟩
  | .sa ..,_,hd => by simp only [Den] at hd ⊢; obtain ⟨r,a,h1,h2⟩:=hd; exact ⟨r,a,sg_ext h1,h2⟩
  | .se ..,_,hd => by simp only [Den] at hd ⊢; obtain ⟨r,a,h1,h2⟩:=hd; exact ⟨r,a,sg_ext h1,h2⟩
  | .pe i ix fld,_,hd => by simp only [Den] at hd ⊢; obtain ⟨r,h1,h2⟩:=hd; exact ⟨r,sg_ext h1,h2⟩
  | .pw i ix,_,hd => by simp only [Den] at hd ⊢; obtain ⟨r,h1,h2⟩:=hd; exact ⟨r,sg_ext h1,h2⟩
  | .ipe e fld,_,hd => by simp only [Den] at hd ⊢; obtain ⟨b,off,h1,h2⟩:=hd; exact ⟨b,off,h1,RepC.cmono h h2⟩
  | .ipo o,_,hd => by simp only [Den] at hd ⊢; exact hd.elim .inl fun ⟨e,b,h1,h2,h3⟩ => .inr ⟨e,b,h1,h2,RepC.cmono h h3⟩
  | .imp ..,_,hd => by simp only [Den] at hd ⊢; obtain ⟨a,h1,h2⟩:=hd; exact ⟨a,h1,h2.cmono h⟩
  | .dat d,_,hd => by simp only [Den] at hd ⊢; exact RepD.cmono h hd
  | .agg l,_,hd => by simp only [Den] at hd ⊢; obtain ⟨vs,h1,h2⟩:=hd; exact ⟨vs,h1,DenC.cmono h h2⟩
  | .tup l,_,hd => by simp only [Den] at hd ⊢; obtain ⟨vs,h1,h2⟩:=hd; exact ⟨vs,h1,DenL.cmono h h2⟩
  | .fn f cap,_,hd => by simp only [Den] at hd ⊢; obtain ⟨vs,h1,h2⟩:=hd; exact ⟨vs,h1,DenL.cmono h h2⟩
theorem DenL.cmono {σ τ : Sg} {E E' : EH} (h : E.cle E') : ∀ {vs : List V} {xs : List Value},DenL σ E vs xs→DenL (σ ++ τ) E' vs xs
  | [],_,hd => by simpa [DenL] using hd
  | v :: vs,_,hd => by
    simp only [DenL] at hd ⊢
    obtain ⟨x,xs',h1,h2,h3⟩:=hd
    exact ⟨x,xs',h1,Den.cmono h h2,DenL.cmono h h3⟩
theorem DenC.cmono {σ τ : Sg} {E E' : EH} (h : E.cle E') : ∀ {vs : List V} {xs : List Value},DenC σ E vs xs→DenC (σ ++ τ) E' vs xs
  | [],_,hd => by simpa [DenC] using hd
  | v :: vs,_,hd => by
    simp only [DenC] at hd ⊢
    obtain ⟨ys,zs,h1,h2,h3⟩:=hd
    refine ⟨ys,zs,h1,?_,DenC.cmono h h3⟩
    rcases h2 with ⟨y,e,o,hy⟩ | ⟨m,cs,e,hl,hd⟩
    · exact .inl ⟨y,e,o,Den.cmono h hy⟩
    · exact .inr ⟨m,cs,e,hl,hd.cmono h⟩
end
theorem BufL.cmono {E E' : EH} (hE : E.cle E') {agg : Bool} : ∀ {vs : List Value} {l : List (List D)},BufL E agg vs l→BufL E' agg vs l
  | [],_,h => by simpa only [BufL] using h
  | v :: vs,_,h => by
    simp only [BufL] at h ⊢
    obtain ⟨c,l',h0,⟨ys,h1,h2⟩,h3⟩:=h
    exact ⟨c,l',h0,⟨ys,h1,h2.cmono hE⟩,h3.cmono hE⟩
theorem HoldsB.cmono {σ τ : Sg} {E E' : EH} {W W' : World} (hE : E.cle E') {r : Re} {o : KO} (h : HoldsB σ E W r o) (hb : ∀ b,ownedB r o b→W'.heap[b]? = W.heap[b]?) : HoldsB (σ ++ τ) E' W' r o:=by
  cases o with
  | cells l =>
    obtain ⟨arr,ty,h1,h2⟩:=h
    exact ⟨arr,ty,by rw [hb r.blk rfl]; exact h1,DenC.cmono hE h2⟩
  | row ty sz l =>
    obtain ⟨h0,h1,h2,h3,h4⟩:=h
    refine ⟨h0,h1,h2,h3,?_⟩
    rcases h4 with h4 | ⟨arr,h4,h5⟩
    · exact .inl h4
    · by_cases hc : r.cap = 0
      · exact .inl hc
      · exact .inr ⟨arr,by rw [hb r.blk ⟨hc,rfl⟩]; exact h4,h5.1,h5.2.cmono hE⟩
  | mp kks kagg agg sz l =>
    obtain ⟨h0,es,ck,h1,h2,h3⟩:=h
    exact ⟨h0,es,ck,by rw [hb r.blk rfl]; exact h1,h2.cmono hE,h3⟩
  | ch agg sz cap l =>
    obtain ⟨h0,h00,bf,s,rr,h1,h2⟩:=h
    exact ⟨h0,h00,bf,s,rr,by rw [hb r.blk rfl]; exact h1,h2.cmono hE⟩
  | objs A => exact h.elim
  | obj1 a => exact h.elim
  | dead => trivial
theorem HoldsO.cmono {σ τ : Sg} {E E' : EH} {W W' : World} (hE : E.cle E') {r : Re} {o : KO} (h : HoldsO σ E W r o) (hb : ∀ b,owned r o b→W'.heap[b]? = W.heap[b]?) : HoldsO (σ ++ τ) E' W' r o:=by
  cases o with
  | objs A =>
    refine ⟨fun a ha => ⟨(h.ok a ha).len,fun i r o h1 h2 => ?_,(h.ok a ha).disj⟩,h.disj⟩
    have:=((h.ok a ha).obj i r o h1 h2).cmono (τ:=[]) (W':=W') hE (fun b h3 => hb b ⟨a,ha,i,r,o,h1,h2,h3⟩)
    simpa using this
  | obj1 a =>
    refine ⟨⟨h.1.len,fun i r o h1 h2 => ?_,h.1.disj⟩,h.2⟩
    have:=(h.1.obj i r o h1 h2).cmono (τ:=[]) (W':=W') hE (fun b h3 => hb b ⟨i,r,o,h1,h2,h3⟩)
    simpa using this
  | cells l => exact HoldsB.cmono (σ:=σ) (τ:=τ) (o:=.cells l) hE h hb
  | row ty sz l => exact HoldsB.cmono (σ:=σ) (τ:=τ) (o:=.row ty sz l) hE h hb
  | mp kks kagg agg sz l => exact HoldsB.cmono (σ:=σ) (τ:=τ) (o:=.mp kks kagg agg sz l) hE h hb
  | ch agg sz cap l => exact HoldsB.cmono (σ:=σ) (τ:=τ) (o:=.ch agg sz cap l) hE h hb
  | dead => trivial
def EH.strip (E : EH) : EH:=fun b => match E b with
  | some (.cells c t i) => some (.cells c t i)
  | some (.map es ck) => some (.map es ck)
  | _ => none
theorem EH.strip_some {E : EH} {b : Nat} {o : Obj} (h : E.strip b = some o) : E b = some o:=by
  unfold EH.strip at h
  split at h
  · rename_i c t i e; rw [e]; exact h
  · rename_i es ck e; rw [e]; exact h
  · cases h
theorem EH.strip_cle (E : EH) : E.cle E.strip:=by
  refine ⟨?_,fun b es ck h => by unfold EH.strip; rw [h]⟩
  intro b o v h
  unfold EH.cell EH.strip at *
  cases e : E b with
  | none => rw [e] at h; cases h
  | some x =>
    rw [e] at h
    cases x <;> first | exact h | (simp only at h; cases h)
theorem EH.strip_def {E : EH} {b : Nat} {l : Option (List Deferred)} : E.strip b ≠ some (.deferred l):=by
  unfold EH.strip
  intro h
  split at h
  · cases h
  · cases h
  · cases h
structure MkOk (E : EH) (ds : List Deferred) : Prop where
  all : ∀ d ∈ ds,∃ b,d = { target:=.collected b,args:=#[] }∧E b = some (.deferred (some []))
  nodup : ds.Pairwise (· ≠ ·)
theorem MkOk.nil (E : EH) : MkOk E []:=⟨by simp,.nil⟩
theorem MkOk.mono {E E' : EH} {ds : List Deferred} (h : MkOk E ds) (hE : E.le E') : MkOk E' ds :=
  ⟨fun d hd => let ⟨b,h1,h2⟩:=h.all d hd; ⟨b,h1,hE b _ h2⟩,h.nodup⟩
theorem leaves_marks {P : Program} {fn : Func} {tmps : Array Value} {R : Ending→World→Prop} : ∀ (ds : List Deferred) (W : World),ds.Pairwise (· ≠ ·) →
    (∀ d ∈ ds,∃ b,d = { target:=.collected b,args:=#[] }∧W.heap[b]? = some (.deferred (some []))) →
    (∀ W',W'.os = W.os→W'.tape = W.tape→W'.output = W.output→W'.heap.size = W.heap.size→(∀ b,(∀ d ∈ ds,d ≠ { target:=.collected b,args:=#[] })→W'.heap[b]? = W.heap[b]?) →
      ∃ v,(results fn tmps).run P W' = .ok v W'∧R (.returned v) W') →
    LeavesInM Fence.wide 0 P fn tmps R ds .returning W
  | [],W,_,_,h => by
    obtain ⟨v,h1,h2⟩:=h W rfl rfl rfl rfl (fun _ _ => rfl)
    exact ⟨v,h1,h2⟩
  | d :: ds,W,hn,hd,h => by
    obtain ⟨b,rfl,hb⟩:=hd d (List.mem_cons_self ..)
    have hn':=List.pairwise_cons.1 hn
    refine ⟨by simp,.inl ⟨b,_,rfl,run_takeDeferred hb,leaves_marks ds _ hn'.2 (fun d hd' => ?_) (fun W' e1 e2 e3 e4 e5 => ?_)⟩⟩
    · obtain ⟨b',rfl,hb'⟩:=hd d (List.mem_cons_of_mem _ hd')
      refine ⟨b',rfl,?_⟩
      rw [World.putObj_heap_other]
      · exact hb'
      · intro e; subst e; exact hn'.1 _ hd' rfl
    · refine h W' (e1.trans rfl) (e2.trans rfl) (e3.trans rfl) (e4.trans World.putObj_size) (fun b' hb' => ?_)
      rw [e5 b' (fun d hd' => hb' d (List.mem_cons_of_mem _ hd'))]
      rw [World.putObj_heap_other]
      intro e; subst e
      exact hb' _ (List.mem_cons_self ..) rfl
theorem Step.unmark {σ : Sg} {E : EH} {kb : KB} {W : World} (hi : Inv σ E kb W) {σ' : Sg} {E' : EH} {kb' : KB} {W' : World} (h : Step σ E.strip kb W σ' E' kb' W') {W2 : World}
    (e1 : W2.os = W'.os) (e2 : W2.tape = W'.tape) (e3 : W2.output = W'.output) (e4 : W2.heap.size = W'.heap.size) {M : Nat→Prop} (hM : ∀ b,M b→E' b = some (.deferred (some []))) (e5 : ∀ b,¬ M b→W2.heap[b]? = W'.heap[b]?) :
    ∃ E2,Step σ E kb W σ' E2 kb' W2∧E'.cle E2:=by
  have hEW : ∀ b x,E b = some x→W'.heap[b]? = some x:=fun b x hx => by
    have h1:=hi.imm b x hx
    rw [h.stp.block b (Array.getElem?_eq_some_iff.1 h1).1 (fun ho => by have:=hi.sep b ho; rw [hx] at this; cases this)]
    exact h1
  have hMn : ∀ b,M b→E b = none:=fun b hb => by
    have h0:=hM b hb
    cases hE : E b with
    | none => rfl
    | some x =>
      exfalso
      have h2:=h.inv.imm b _ h0
      have h3:=hEW b x hE
      rw [h2] at h3
      rcases h.new b _ h0 with h1 | h1 | h1
      · exact EH.strip_def h1
      · have:=hi.sep b h1; rw [hE] at this; cases this
      · have:=(Array.getElem?_eq_some_iff.1 (hi.imm b x hE)).1; omega
  have hMold : ∀ b,M b→¬ Owns σ kb b→W.heap.size ≤ b:=fun b hb hno => by
    rcases h.new b _ (hM b hb) with h1 | h1 | h1
    · exact (EH.strip_def h1).elim
    · exact (hno h1).elim
    · exact h1
  let E2 : EH:=fun b => match E b with | some x => some x | none => E'.strip b
  have hE2 : ∀ b x,E2 b = some x→E b = some x∨(E b = none∧E'.strip b = some x):=by
    intro b x hx
    simp only [E2] at hx
    split at hx
    · rename_i y hy; rw [hy]; exact .inl hx
    · rename_i hy; exact .inr ⟨hy,hx⟩
  have hc : E'.cle E2:=by
    refine ⟨?_,fun b es ck hm => ?_⟩
    rotate_left
    · simp only [E2]
      cases hE : E b with
      | none => exact E'.strip_cle.m b es ck hm
      | some x =>
        have h3:=hEW b x hE
        have h2:=h.inv.imm b _ hm
        rw [h3] at h2
        exact h2
    intro b o v hv
    have hv':=E'.strip_cle.c b o v hv
    unfold EH.cell at hv ⊢
    simp only [E2]
    cases hE : E b with
    | none => exact hv'
    | some x =>
      have h3:=hEW b x hE
      cases hE' : E' b with
      | none => rw [hE'] at hv; cases hv
      | some y =>
        have h2:=h.inv.imm b y hE'
        rw [h3] at h2
        cases h2
        rw [hE'] at hv
        exact hv
  have hsepM : ∀ b,Owns σ' kb' b→¬ M b:=fun b hb hm => by have:=h.inv.sep b hb; rw [hM b hm] at this; cases this
  refine ⟨E2,⟨⟨h.inv.len,fun i r o h1 h2 => ?_,h.inv.disj,fun b x hx => ?_,fun b hb => ?_⟩,⟨e1.trans h.stp.os,e2.trans h.stp.tape,e3.trans h.stp.output,by rw [e4]; exact h.stp.size,fun b hb hno => ?_⟩,h.pre,fun b x hx => ?_,h.own,fun b x hx => ?_⟩,hc⟩
  · have:=(h.inv.obj i r o h1 h2).cmono (τ:=[]) (W':=W2) hc (fun b hb => e5 b (hsepM b ⟨i,r,o,h1,h2,hb⟩))
    simpa using this
  · rcases hE2 b x hx with hx | ⟨_,hx⟩
    · rw [e5 b (fun hm => by rw [hMn b hm] at hx; cases hx)]
      exact hEW b x hx
    · have hx':=EH.strip_some hx
      rw [e5 b (fun hm => by rw [hM b hm] at hx'; cases hx'; exact EH.strip_def hx)]
      exact h.inv.imm b x hx'
  · have h1:=h.inv.sep b hb
    have h2 : E b = none:=by
      rcases h.own b hb with h2 | h2
      · exact hi.sep b h2
      · cases hE : E b with
        | none => rfl
        | some x => have:=(Array.getElem?_eq_some_iff.1 (hi.imm b x hE)).1; omega
    simp only [E2,h2,EH.strip,h1]
  · rw [e5 b (fun hm => by have:=hMold b hm hno; omega)]
    exact h.stp.block b hb hno
  · simp only [E2,hx]
  · rcases hE2 b x hx with hx | ⟨_,hx⟩
    · exact .inl hx
    · rcases h.new b x (EH.strip_some hx) with h1 | h1 | h1
      · exact .inl (EH.strip_some h1)
      · exact .inr (.inl h1)
      · exact .inr (.inr h1)
theorem Inv.strip {σ : Sg} {E : EH} {kb : KB} {W : World} (h : Inv σ E kb W) : Inv σ E.strip kb W :=
  ⟨h.len,fun i r o h1 h2 => by
    have:=(h.obj i r o h1 h2).cmono (τ:=[]) (W':=W) E.strip_cle (fun _ _ => rfl)
    simpa using this,h.disj,fun b o hb => h.imm b o (EH.strip_some hb),fun b hb => by
      have:=h.sep b hb
      simp only [EH.strip,this]⟩
theorem Step.entered {σ : Sg} {E : EH} {kb : KB} {W : World} (hi : Inv σ E kb W) (r : Loop) :
    ∃ E',Step σ E kb W σ E' kb ((W.alloc (.deferred (some []))).alloc (.loop r))∧E' W.heap.size = some (.deferred (some []))∧E' (W.heap.size + 1) = none∧((W.alloc (.deferred (some []))).alloc (.loop r)).heap[W.heap.size + 1]? = some (.loop r):=by
  let W1:=(W.alloc (.deferred (some []))).alloc (.loop r)
  have hold : ∀ b,b < W.heap.size→W1.heap[b]? = W.heap[b]?:=fun b hb => by
    show ((W.heap.push _).push _)[b]? = _
    rw [Array.getElem?_push,if_neg (by simp; omega),Array.getElem?_push,if_neg (by omega)]
  have h0 : W1.heap[W.heap.size]? = some (.deferred (some [])):=by
    show ((W.heap.push _).push _)[W.heap.size]? = _
    rw [Array.getElem?_push,if_neg (by simp),Array.getElem?_push,if_pos rfl]
  have h1 : W1.heap[W.heap.size + 1]? = some (.loop r):=by
    show ((W.heap.push _).push _)[W.heap.size + 1]? = _
    rw [Array.getElem?_push,if_pos (by simp)]
  have hEn : ∀ b,W.heap.size ≤ b→E b = none:=fun b hb => by
    cases hE : E b with
    | none => rfl
    | some x => have:=(Array.getElem?_eq_some_iff.1 (hi.imm b x hE)).1; omega
  let E' : EH:=fun b => if b = W.heap.size then some (.deferred (some [])) else E b
  have hle : E.le E':=fun b x hb => by
    show (if b = W.heap.size then _ else E b) = some x
    rw [if_neg (fun e => by rw [hEn b (by omega)] at hb; cases hb)]
    exact hb
  refine ⟨E',⟨⟨hi.len,fun i r' o h2 h3 => ?_,hi.disj,fun b x hb => ?_,fun b hb => ?_⟩,⟨rfl,rfl,rfl,by show W.heap.size ≤ ((W.heap.push _).push _).size; simp only [Array.size_push]; omega,fun b hb _ => hold b hb⟩,⟨[],by simp⟩,hle,fun b hb => .inl hb,fun b x hb => ?_⟩,by simp [E'],?_,h1⟩
  · have:=(hi.obj i r' o h2 h3).mono (τ:=[]) (W':=W1) hle (fun b hb => hold b ((hi.obj i r' o h2 h3).lt hb))
    simpa using this
  · by_cases hc : b = W.heap.size
    · subst hc
      simp only [E',if_true] at hb
      rw [← hb]
      exact h0
    · simp only [E',if_neg hc] at hb
      have h2:=hi.imm b x hb
      rw [← h2]
      exact hold b (Array.getElem?_eq_some_iff.1 h2).1
  · have hlt:=hi.lt hb
    simp only [E',if_neg (show ¬ b = W.heap.size by omega)]
    exact hi.sep b hb
  · by_cases hc : b = W.heap.size
    · exact .inr (.inr (by omega))
    · simp only [E',if_neg hc] at hb; exact .inl hb
  · simp only [E',if_neg (show ¬ W.heap.size + 1 = W.heap.size by omega)]
    exact hEn _ (by omega)
theorem Step.other {σ : Sg} {E : EH} {kb : KB} {W : World} {σ' : Sg} {E' : EH} {kb' : KB} {W' : World} (h : Step σ E kb W σ' E' kb' W') {l : Nat} (hl : W.heap.size ≤ l) (hno : ¬ Owns σ' kb' l) (hE : E' l = none) (o : Obj) : Step σ E kb W σ' E' kb' (W'.putObj l o):=by
  refine ⟨⟨h.inv.len,fun i r x h1 h2 => ?_,h.inv.disj,fun b x hb => ?_,h.inv.sep⟩,⟨h.stp.os,h.stp.tape,h.stp.output,by rw [World.putObj_size]; exact h.stp.size,fun b hb hn => ?_⟩,h.pre,h.le,h.own,h.new⟩
  · have:=(h.inv.obj i r x h1 h2).mono (τ:=[]) (W':=W'.putObj l o) (EH.le.refl E') (fun b hb => World.putObj_heap_other (fun e => by subst e; exact hno ⟨i,r,x,h1,h2,hb⟩))
    simpa using this
  · rw [World.putObj_heap_other (fun e => by subst e; rw [hE] at hb; cases hb)]
    exact h.inv.imm b x hb
  · rw [World.putObj_heap_other (by omega)]
    exact h.stp.block b hb hn
end Vc
set_option linter.unusedSimpArgs false
set_option linter.unusedVariables false
namespace Vc
open Go
abbrev Fr:=List (Nat × V)
def look : Fr→Nat→Option V
  | [],_ => none
  | (d,v) :: r,t => match Nat.beq d t with | true => some v | false => look r t
structure FrOk (σ : Sg) (E : EH) (fr : Fr) (n : Nat) (a : Act) : Prop where
  size : a.tmps.size = n
  defers : MkOk E a.defers
  get : ∀ t v,look fr t = some v→∃ x,a.tmps[t]? = some x∧Den σ E v x
theorem FrOk.mono {σ τ : Sg} {E E' : EH} {fr : Fr} {n : Nat} {a : Act} (h : FrOk σ E fr n a) (hE : E.le E') : FrOk (σ ++ τ) E' fr n a :=
  ⟨h.size,h.defers.mono hE,fun t v hv => let ⟨x,h1,h2⟩:=h.get t v hv; ⟨x,h1,Den.mono hE h2⟩⟩
theorem FrOk.put {σ : Sg} {E : EH} {fr : Fr} {n : Nat} {a : Act} (h : FrOk σ E fr n a) {d : Nat} (hd : d < n) {v : V} {x : Value} (hv : Den σ E v x) : FrOk σ E ((d,v) :: fr) n (a.put (some d) x):=by
  refine ⟨by simp [Act.put,h.size],h.defers,fun t u hu => ?_⟩
  simp only [look] at hu
  split at hu
  · rename_i hb
    have:=Nat.eq_of_beq_eq_true hb
    subst this
    cases hu
    exact ⟨x,by simp [Act.put,h.size,hd],hv⟩
  · rename_i hb
    have hne : d ≠ t:=fun e => by subst e; simp at hb
    obtain ⟨y,h1,h2⟩:=h.get t u hu
    exact ⟨y,by simp only [Act.put]; rw [Array.getElem?_setIfInBounds_ne hne]; exact h1,h2⟩
def putK (n : Nat) (dst : Option Nat) (v : V) (fr : Fr) (K : Fr→Prop) : Prop :=
  match dst with
  | some d => match Nat.blt d n with
    | true => K ((d,v) :: fr)
    | false => False
  | none => K fr
theorem putK_ok {n : Nat} {dst : Option Nat} {v : V} {fr : Fr} {K : Fr→Prop} (h : putK n dst v fr K) {σ : Sg} {E : EH} {a : Act} (hf : FrOk σ E fr n a) {x : Value} (hv : Den σ E v x) :
    ∃ fr',FrOk σ E fr' n (a.put dst x)∧K fr':=by
  unfold putK at h
  split at h
  · rename_i d
    split at h
    · rename_i hb
      exact ⟨_,hf.put (Nat.lt_of_succ_le (Nat.le_of_ble_eq_true hb)) hv,h⟩
    · exact h.elim
  · exact ⟨fr,hf,h⟩
def evR (fr : Fr) : Operand→Option V
  | .tmp t => look fr t
  | .const v => some (cvc v)
  | .global g => some (.any (.pointer (some ⟨g,0,none⟩)))
  | .func f => some (.fn f [])
theorem evR_ok {σ : Sg} {E : EH} {fr : Fr} {n : Nat} {a : Act} (h : FrOk σ E fr n a) {x : Operand} {v : V} (hv : evR fr x = some v) : Den σ E v (a.eval x):=by
  cases x with
  | tmp t =>
    obtain ⟨y,h1,h2⟩:=h.get t v hv
    simp only [Act.eval]
    rw [Array.getD_eq_getD_getElem?,h1]
    exact h2
  | const c => simp only [evR,Option.some.injEq] at hv; subst hv; exact cvc_den σ E c
  | global g => simp only [evR,Option.some.injEq] at hv; subst hv; simp [Den,Act.eval]
  | func f => simp only [evR,Option.some.injEq] at hv; subst hv; simp [Den,DenL,Act.eval]
def ev (fr : Fr) (x : Operand) : Option V:=match evR fr x with | some v => some (delit v) | none => none
theorem ev_ok {σ : Sg} {E : EH} {fr : Fr} {n : Nat} {a : Act} (h : FrOk σ E fr n a) {x : Operand} {v : V} (hv : ev fr x = some v) : Den σ E v (a.eval x):=by
  unfold ev at hv
  split at hv
  · rename_i u hu; cases hv; exact delit_den (evR_ok h hu)
  · cases hv
def evs (fr : Fr) : List Operand→Option (List V)
  | [] => some []
  | x :: xs => match evR fr x,evs fr xs with
    | some v,some vs => some (v :: vs)
    | _,_ => none
theorem evs_ok {σ : Sg} {E : EH} {fr : Fr} {n : Nat} {a : Act} (h : FrOk σ E fr n a) : ∀ {xs : List Operand} {vs : List V},evs fr xs = some vs→DenL σ E vs (xs.map a.eval)
  | [],vs,hv => by simp [evs] at hv; subst hv; exact .nil
  | x :: xs,vs,hv => by
    simp only [evs] at hv
    split at hv
    · rename_i v us h1 h2
      cases hv
      exact .cons (evR_ok h h1) (evs_ok h h2)
    · cases hv
def evP (fr : Fr) : List (Nat × Operand)→Option (List (Nat × V))
  | [] => some []
  | (i,x) :: xs => match evR fr x,evP fr xs with
    | some v,some vs => some ((i,v) :: vs)
    | _,_ => none
theorem evP_ok {σ : Sg} {E : EH} {fr : Fr} {n : Nat} {a : Act} (h : FrOk σ E fr n a) : ∀ {xs : List (Nat × Operand)} {vs : List (Nat × V)},evP fr xs = some vs→DenP σ E vs (xs.map fun (i,x) => (i,a.eval x))
  | [],vs,hv => by simp [evP] at hv; subst hv; simp [DenP]
  | (i,x) :: xs,vs,hv => by
    simp only [evP] at hv
    split at hv
    · rename_i v us h1 h2
      cases hv
      simp only [List.map_cons,DenP]
      exact ⟨_,_,rfl,evR_ok h h1,evP_ok h h2⟩
    · cases hv
def evO (fr : Fr) : Option Operand→Option (Option V)
  | none => some none
  | some x => match ev fr x with | some v => some (some v) | none => none
theorem evO_ok {σ : Sg} {E : EH} {fr : Fr} {n : Nat} {a : Act} (h : FrOk σ E fr n a) {x : Option Operand} {v : Option V} (hv : evO fr x = some v) : OD σ E v (x.map a.eval):=by
  cases x with
  | none => simp [evO] at hv; subst hv; trivial
  | some x =>
    simp only [evO] at hv
    split at hv
    · rename_i u hu; cases hv; exact ev_ok h hu
    · cases hv
def exacts (fr : Fr) (l : List Operand) : Bool:=l.all fun x => ((ev fr x).bind V.val?).isSome
def rho (fr : Fr) (x : Operand) : Value:=((ev fr x).bind V.val?).getD undef
def forceN (n : Nat) (K : Nat→V) : V:=match n with
  | 0 => K 0
  | m + 1 => K (m + 1)
def cvL : Value→V
  | .int k n => match n with
    | .ofNat m => forceN m (fun m => .lit k (.ofNat m))
    | .negSucc m => forceN m (fun m => .lit k (.negSucc m))
  | .bool b => match b with | true => .tt | false => .ff
  | v => cv v
theorem cvL_den (σ : Sg) (E : EH) (v : Value) : Den σ E (cvL v) v:=by
  cases v with
  | int k n =>
    cases n with
    | ofNat m => cases m <;> simp [cvL,forceN,Den]
    | negSucc m => cases m <;> simp [cvL,forceN,Den]
  | bool b => cases b <;> simp [cvL,Den]
  | _ => simp only [cvL]; exact cv_den σ E _
def isLit : V→Bool
  | .lit .. | .tt | .ff => true
  | .any (.string _) => true
  | .any (.map none) => true
  | .any (.pointer none) => true
  | .any .nilFunc => true
  | _ => false
def litB : Bool→Bool→V
  | true,b => match b with | true => .tt | false => .ff
  | false,b => .sb b
theorem litB_den (σ : Sg) (E : EH) (l b : Bool) : Den σ E (litB l b) (.bool b):=by
  cases l <;> cases b <;> simp [litB,Den]
def lits (fr : Fr) (l : List Operand) : Bool:=l.all fun x => match evR fr x with | some v => isLit v | none => false
def calmV (P : Program) (fr : Fr) (o : Oper) : Option V :=
  match o.op with
  | .select .. => none
  | _ => match exacts fr o.op.operands.toList with
    | true => match calm P (execOp (rho fr) o) with
      | some (.value v) => match lits fr o.op.operands.toList with
        | true => some (cvL v)
        | false => some (cv v)
      | _ => none
    | false => none
theorem calmV_ok {P : Program} {fr : Fr} {o : Oper} {v : V} (h : calmV P fr o = some v) {σ : Sg} {E : EH} {n : Nat} {a : Act} (hf : FrOk σ E fr n a) :
    ∃ x,(∀ W,(execOp a.eval o).run P W = .ok (.value x) W)∧Den σ E v x:=by
  unfold calmV at h
  split at h
  · cases h
  · rename_i hsel
    split at h
    · rename_i hex
      split at h
      · rename_i x hc
        have hden : Den σ E v x:=by
          split at h
          · cases h; exact cvL_den σ E x
          · cases h; exact cv_den σ E x
        refine ⟨x,fun W => ?_,hden⟩
        rw [execOp_congr (ρ:=a.eval) (ρ':=rho fr) o (fun cs b e => hsel cs b e) (fun y hy => ?_)]
        · exact calm_run hc W
        · have:=List.all_eq_true.1 hex y (by simpa using hy)
          obtain ⟨z,hz⟩:=Option.isSome_iff_exists.1 this
          obtain ⟨u,hu,hu2⟩:=Option.bind_eq_some_iff.1 hz
          rw [val?_den hu2 (ev_ok hf hu)]
          simp [rho,hz]
      · cases h
    · cases h
def pickV (c : Bool) : V→V→Option V
  | .int k m,.int k' n => match decide (k = k') with | true => some (.int k (bif c then m else n)) | false => none
  | .sb a,.sb b => some (.sb (bif c then a else b))
  | .sb a,.tt => some (.sb (bif c then a else true))
  | .sb a,.ff => some (.sb (bif c then a else false))
  | .tt,.sb b => some (.sb (bif c then true else b))
  | .ff,.sb b => some (.sb (bif c then false else b))
  | .tt,.ff => some (.sb c)
  | .ff,.tt => some (.sb !c)
  | .tt,.tt => some .tt
  | .ff,.ff => some .ff
  | _,_ => none
theorem pickV_ok {c : Bool} {u v w : V} (h : pickV c u v = some w) {σ : Sg} {E : EH} {x y : Value} (hx : Den σ E u x) (hy : Den σ E v y) : Den σ E w (if c then x else y):=by
  unfold pickV at h
  split at h <;> (try cases h) <;> (try simp only [Den] at hx hy ⊢) <;> (try subst hx) <;> (try subst hy) <;> (try (cases c <;> simp))
  · split at h
    · rename_i hk
      have hk':=of_decide_eq_true hk
      subst hk'
      cases h
      simp [Den]
    · cases h
  · split at h
    · rename_i hk
      have hk':=of_decide_eq_true hk
      subst hk'
      cases h
      simp [Den]
    · cases h
def isPure (P : Program) : Op→Bool
  | .move _ | .assign _ | .pick .. | .nilCheck _ | .fieldAddr .. | .indexAddr .. | .slice .. | .field .. | .extract .. | .build .. | .makeFunc .. | .binOp .. | .unOp .. | .index .. | .makeInterface .. | .sliceToArrayPointer .. => true
  | .convert src dst _ => match P.underlying src,P.underlying dst with
    | some .string,some (.slice _) => false
    | some (.slice _),some .string => false
    | some (.slice _),some (.slice _) => false
    | _,_ => true
  | .call c => match c.callee with
    | .builtin .len => match c.argTypes.toList with
      | [t] => match P.underlying t with
        | some (.map _ _) => false
        | some (.chan _ _) => false
        | _ => true
      | _ => true
    | .builtin .min | .builtin .max => true
    | _ => false
  | _ => false
def isPtrT (P : Program) (t : TypeId) : Bool:=match P.underlying t with | some (.pointer _) => true | _ => false
def isFuncT (P : Program) (t : TypeId) : Bool:=match P.underlying t with | some (.func ..) => true | _ => false
def someNil (P : Program) (t : TypeId) : V→V→Bool
  | .mp _,.any (.map none) => isMapT P t
  | .ptr _ _,.any (.pointer none) => isPtrT P t
  | .pa ..,.any (.pointer none) => isPtrT P t
  | .pe ..,.any (.pointer none) => isPtrT P t
  | .ipe ..,.any (.pointer none) => isPtrT P t
  | .fn ..,.any .nilFunc => isFuncT P t
  | .dat (.val (.func ..)),.any .nilFunc => isFuncT P t
  | _,_ => false
def slT (P : Program) (t : TypeId) : Bool:=match P.underlying t with | some (.slice _) => true | _ => false
def nilLen : V→Option Nat
  | .sl _ lo hi => some (hi - lo)
  | .dat (.sl _ l) => some l.length
  | .e0 => some 0
  | .sa _ _ _ _ n _ => some n
  | .se _ _ _ _ n _ => some n
  | _ => none
def intOf : V→Option (IntKind × Int)
  | .int k n => some (k,n)
  | .lit k n => some (k,n)
  | _ => none
def NZ (n : Int) : Prop:=n ≠ 0
def shlI (k : IntKind) (a b : Int) : Int:=k.wrap (a * 2 ^ (min b.toNat k.bits))
def shrI (k : IntKind) (a b : Int) : Int:=a.fdiv (2 ^ (min b.toNat k.bits))
def ShC (n : Int) : Prop:=¬ n < 0
def moreK (P : Program) (o : Oper) (fr : Fr) (K : V→Prop) : Prop :=
  match o.op with
  | .binOp .eql t x y _ => match ev fr x,ev fr y with
    | some v,some (.any (.slice none 0 0)) => match slT P t,nilLen v with
      | true,some n => ∀ b : Bool,(b = true→n = 0)→K (.sb b)
      | _,_ => False
    | some (.ipo o),some (.any (.pointer none)) => match isPtrT P t with | true => K (.sb o.isNone) | false => False
    | some (.imp _ _ _ _ l),some (.any (.map none)) => match isMapT P t with | true => ∀ b : Bool,(b = true→l.length = 0)→K (.sb b) | false => False
    | _,_ => False
  | .binOp .neq t x y _ => match ev fr x,ev fr y with
    | some v,some (.any (.slice none 0 0)) => match slT P t,nilLen v with
      | true,some n => ∀ b : Bool,(b = false→n = 0)→K (.sb b)
      | _,_ => False
    | some (.ipo o),some (.any (.pointer none)) => match isPtrT P t with | true => K (.sb (!o.isNone)) | false => False
    | some (.imp _ _ _ _ l),some (.any (.map none)) => match isMapT P t with | true => ∀ b : Bool,(b = false→l.length = 0)→K (.sb b) | false => False
    | _,_ => False
  | .binOp .quo t x y _ => match (ev fr x).bind intOf,(ev fr y).bind intOf with
    | some (k,a),some (k',b) => match decide (k = k') with
      | true => NZ b∧K (.int k (k.wrap (a.tdiv b)))
      | false => False
    | _,_ => False
  | .binOp .rem t x y _ => match (ev fr x).bind intOf,(ev fr y).bind intOf with
    | some (k,a),some (k',b) => match decide (k = k') with
      | true => NZ b∧K (.int k (a.tmod b))
      | false => False
    | _,_ => False
  | .binOp .shl t x y _ => match (ev fr x).bind intOf,(ev fr y).bind intOf with
    | some (k,a),some (_,b) => ShC b∧K (.int k (shlI k a b))
    | _,_ => False
  | .binOp .shr t x y _ => match (ev fr x).bind intOf,(ev fr y).bind intOf with
    | some (k,a),some (_,b) => ShC b∧K (.int k (shrI k a b))
    | _,_ => False
  | _ => False
theorem nilLen_ok {σ : Sg} {E : EH} {v : V} {n : Nat} (h : nilLen v = some n) {x : Value} (hx : Den σ E v x) : ∃ a cap,x = .slice a n cap∧(a = none→n = 0):=by
  unfold nilLen at h
  split at h <;> first | (cases h; done) | skip
  · rename_i lo hi
    cases h
    simp only [Den] at hx
    obtain ⟨r,a,_,rfl,h1,h2,h3⟩:=hx
    refine ⟨a,_,rfl,fun e => ?_⟩
    subst e
    rcases Nat.lt_or_ge lo r.cap with hlt | hlt
    · exact absurd (h3 hlt) (by simp)
    · omega
  · cases h
    simp only [Den,RepD] at hx
    obtain ⟨a,cap,rfl,h1,h2⟩:=hx
    refine ⟨a,cap,rfl,fun e => ?_⟩
    rcases h2 with h2 | ⟨b,off,h2,_⟩
    · exact h2
    · rw [e] at h2; cases h2
  · cases h
    simp only [Den] at hx
    obtain ⟨a,rfl⟩:=hx
    exact ⟨a,0,rfl,fun _ => rfl⟩
  · rename_i c
    cases h
    simp only [Den] at hx
    obtain ⟨r,a,_,rfl,h1,h2⟩:=hx
    refine ⟨a,_,rfl,fun e => ?_⟩
    subst e
    rcases Nat.eq_zero_or_pos c with hlt | hlt
    · omega
    · exact absurd (h2 hlt) (by simp)
  · rename_i c
    cases h
    simp only [Den] at hx
    obtain ⟨r,a,_,rfl,h1,h2⟩:=hx
    refine ⟨a,_,rfl,fun e => ?_⟩
    subst e
    rcases Nat.eq_zero_or_pos c with hlt | hlt
    · omega
    · exact absurd (h2 hlt) (by simp)
theorem run_sl_nil {P : Program} {t : TypeId} (ht : slT P t = true) {a : Option Addr} {n cap : Nat} (W : World) : (Op.equal t (.slice a n cap) (.slice none 0 0)).run P W = .ok a.isNone W:=by
  unfold slT at ht
  split at ht <;> try (cases ht; done)
  rename_i e hu
  unfold Op.equal
  show (Op.equalIn (9999 + 1) t _ _).run P W = _
  unfold Op.equalIn
  rw [Sem.run_bind,run_underlying hu,Result.andThen_ok]
  cases a <;> rfl
theorem run_ptr_nil {P : Program} {t : TypeId} (ht : isPtrT P t = true) {a : Option Addr} (W : World) : (Op.equal t (.pointer a) (.pointer none)).run P W = .ok a.isNone W:=by
  unfold isPtrT at ht
  split at ht <;> try (cases ht; done)
  rename_i e hu
  unfold Op.equal
  show (Op.equalIn (9999 + 1) t _ _).run P W = _
  unfold Op.equalIn
  rw [Sem.run_bind,run_underlying hu,Result.andThen_ok]
  cases a <;> simp
theorem run_map_nil {P : Program} {t : TypeId} (ht : isMapT P t = true) {a : Option Nat} (W : World) : (Op.equal t (.map a) (.map none)).run P W = .ok a.isNone W:=by
  unfold isMapT at ht
  split at ht <;> try (cases ht; done)
  rename_i kt et hu
  unfold Op.equal
  show (Op.equalIn (9999 + 1) t _ _).run P W = _
  unfold Op.equalIn
  rw [Sem.run_bind,run_underlying hu,Result.andThen_ok]
  cases a <;> simp
theorem intOf_ok {v : V} {k : IntKind} {n : Int} (h : intOf v = some (k,n)) {σ : Sg} {E : EH} {x : Value} (hx : Den σ E v x) : x = .int k n:=by
  unfold intOf at h
  split at h <;> first | (cases h; done) | skip
  · cases h; simpa only [Den] using hx
  · cases h; simpa only [Den] using hx
theorem moreK_ok {P : Program} {o : Oper} {fr : Fr} {K : V→Prop} (h : moreK P o fr K) {σ : Sg} {E : EH} {n : Nat} {a : Act} (hf : FrOk σ E fr n a) :
    ∃ v x,(∀ W,(execOp a.eval o).run P W = .ok (.value x) W)∧Den σ E v x∧K v:=by
  obtain ⟨dst,op,ty,pos,after,guard⟩:=o
  unfold moreK at h
  simp only at h
  split at h
  · rename_i t x y _
    split at h <;> try exact h.elim
    · rename_i v hx hy
      split at h <;> try exact h.elim
      rename_i m ht hm
      obtain ⟨ad,cap,e1,e2⟩:=nilLen_ok hm (ev_ok hf hx)
      have e3:=ev_ok hf hy
      simp only [Den] at e3
      refine ⟨.sb ad.isNone,.bool ad.isNone,fun W => ?_,by simp only [Den],h _ (fun hb => e2 (by simpa using hb))⟩
      simp only [execOp,e1,e3,eqGuard,Sem.run_bind,binOp]
      simp [run_sl_nil ht]
    · rename_i o hx hy
      split at h <;> try exact h.elim
      rename_i ht
      have e1:=ev_ok hf hx
      have e3:=ev_ok hf hy
      simp only [Den] at e1 e3
      refine ⟨_,.bool o.isNone,fun W => ?_,by simp only [Den],h⟩
      rcases e1 with ⟨rfl,e1⟩ | ⟨e,b,rfl,e1,_⟩
      · simp only [execOp,e1,e3,eqGuard,Sem.run_bind,binOp]
        simp [run_ptr_nil ht]
      · simp only [execOp,e1,e3,eqGuard,Sem.run_bind,binOp]
        simp [run_ptr_nil ht]
    · rename_i l hx hy
      split at h <;> try exact h.elim
      rename_i ht
      have e1:=ev_ok hf hx
      have e3:=ev_ok hf hy
      simp only [Den] at e1 e3
      obtain ⟨a,e1,e2⟩:=e1
      refine ⟨.sb a.isNone,.bool a.isNone,fun W => ?_,by simp only [Den],h _ (fun hb => ?_)⟩
      · simp only [execOp,e1,e3,eqGuard,Sem.run_bind,binOp]
        simp [run_map_nil ht]
      · cases a with
        | none => have e2 : l = []:=e2; rw [e2]; rfl
        | some a => cases hb
  · rename_i t x y _
    split at h <;> try exact h.elim
    · rename_i v hx hy
      split at h <;> try exact h.elim
      rename_i m ht hm
      obtain ⟨ad,cap,e1,e2⟩:=nilLen_ok hm (ev_ok hf hx)
      have e3:=ev_ok hf hy
      simp only [Den] at e3
      refine ⟨.sb (!ad.isNone),.bool (!ad.isNone),fun W => ?_,by simp only [Den],h _ (fun hb => e2 (by simpa using hb))⟩
      simp only [execOp,e1,e3,eqGuard,Sem.run_bind,binOp]
      simp [run_sl_nil ht]
    · rename_i o hx hy
      split at h <;> try exact h.elim
      rename_i ht
      have e1:=ev_ok hf hx
      have e3:=ev_ok hf hy
      simp only [Den] at e1 e3
      refine ⟨_,.bool (!o.isNone),fun W => ?_,by simp only [Den],h⟩
      rcases e1 with ⟨rfl,e1⟩ | ⟨e,b,rfl,e1,_⟩
      · simp only [execOp,e1,e3,eqGuard,Sem.run_bind,binOp]
        simp [run_ptr_nil ht]
      · simp only [execOp,e1,e3,eqGuard,Sem.run_bind,binOp]
        simp [run_ptr_nil ht]
    · rename_i l hx hy
      split at h <;> try exact h.elim
      rename_i ht
      have e1:=ev_ok hf hx
      have e3:=ev_ok hf hy
      simp only [Den] at e1 e3
      obtain ⟨a,e1,e2⟩:=e1
      refine ⟨.sb (!a.isNone),.bool (!a.isNone),fun W => ?_,by simp only [Den],h _ (fun hb => ?_)⟩
      · simp only [execOp,e1,e3,eqGuard,Sem.run_bind,binOp]
        simp [run_map_nil ht]
      · cases a with
        | none => have e2 : l = []:=e2; rw [e2]; rfl
        | some a => cases hb
  · rename_i t x y _
    split at h <;> try exact h.elim
    rename_i k p k' q hx hy
    split at h <;> try exact h.elim
    rename_i hk
    have hk:=of_decide_eq_true hk
    subst hk
    obtain ⟨u,hu,hu2⟩:=Option.bind_eq_some_iff.1 hx
    obtain ⟨v,hv,hv2⟩:=Option.bind_eq_some_iff.1 hy
    have e1:=intOf_ok hu2 (ev_ok hf hu)
    have e2:=intOf_ok hv2 (ev_ok hf hv)
    refine ⟨_,.int k (k.wrap (p.tdiv q)),fun W => ?_,by simp only [Den],h.2⟩
    simp [execOp,e1,e2,eqGuard,binOp,Op.intDiv,show q ≠ 0 from h.1]
  · rename_i t x y _
    split at h <;> try exact h.elim
    rename_i k p k' q hx hy
    split at h <;> try exact h.elim
    rename_i hk
    have hk:=of_decide_eq_true hk
    subst hk
    obtain ⟨u,hu,hu2⟩:=Option.bind_eq_some_iff.1 hx
    obtain ⟨v,hv,hv2⟩:=Option.bind_eq_some_iff.1 hy
    have e1:=intOf_ok hu2 (ev_ok hf hu)
    have e2:=intOf_ok hv2 (ev_ok hf hv)
    refine ⟨_,.int k (p.tmod q),fun W => ?_,by simp only [Den],h.2⟩
    simp [execOp,e1,e2,eqGuard,binOp,Op.intDiv,show q ≠ 0 from h.1]
  · rename_i t x y _
    split at h <;> try exact h.elim
    rename_i k p k' q hx hy
    obtain ⟨u,hu,hu2⟩:=Option.bind_eq_some_iff.1 hx
    obtain ⟨v,hv,hv2⟩:=Option.bind_eq_some_iff.1 hy
    have e1:=intOf_ok hu2 (ev_ok hf hu)
    have e2:=intOf_ok hv2 (ev_ok hf hv)
    refine ⟨_,.int k (shlI k p q),fun W => ?_,by simp only [Den],h.2⟩
    simp [execOp,e1,e2,eqGuard,binOp,Op.shift,show ¬ q < 0 from h.1,shlI]
  · rename_i t x y _
    split at h <;> try exact h.elim
    rename_i k p k' q hx hy
    obtain ⟨u,hu,hu2⟩:=Option.bind_eq_some_iff.1 hx
    obtain ⟨v,hv,hv2⟩:=Option.bind_eq_some_iff.1 hy
    have e1:=intOf_ok hu2 (ev_ok hf hu)
    have e2:=intOf_ok hv2 (ev_ok hf hv)
    refine ⟨_,.int k (shrI k p q),fun W => ?_,by simp only [Den],h.2⟩
    simp [execOp,e1,e2,eqGuard,binOp,Op.shift,show ¬ q < 0 from h.1,shrI]
  · exact h.elim
def pureK (P : Program) (o : Oper) (fr : Fr) (kb : KB) (K : V→Prop) : Prop :=
  match o.op with
  | .move x | .assign x => match evR fr x with | some v => K v | none => False
  | .pick c x y => match ev fr c with
    | some .tt => match evR fr x with | some v => K v | none => False
    | some .ff => match evR fr y with | some v => K v | none => False
    | some (.sb b) => match ev fr x,ev fr y with
      | some u,some v => match pickV b u v with | some w => K w | none => False
      | _,_ => False
    | _ => False
  | .nilCheck x => match ev fr x with
    | some (.ptr i off) => K (.ptr i off)
    | some (.pa i base o) => K (.pa i base o)
    | some (.pe i ix fld) => K (.pe i ix fld)
    | some (.pw i ix) => K (.pw i ix)
    | some (.ipe e fld) => K (.ipe e fld)
    | some (.ipo o) => ∃ e,o = some e∧K (.ipe e 0)
    | some (.fn f cap) => K (.fn f cap)
    | some (.dat (.val (.func (.func f) first cap))) => K (.dat (.val (.func (.func f) first cap)))
    | some (.any (.func (.func f) first cap)) => K (.any (.func (.func f) first cap))
    | _ => False
  | .fieldAddr s x m => match ev fr x with | some v => fieldK P s v m K | none => False
  | .indexAddr t x i => match ev fr x,evR fr i with | some v,some u => indexK P t v u kb K | _,_ => False
  | .slice t x lo hi none => match ev fr x,evO fr lo,evO fr hi with | some v,some l,some h => sliceK P t v l h kb K | _,_,_ => False
  | .slice t x lo hi (some m) => match ev fr x,evO fr lo,evO fr hi,evO fr (some m) with | some v,some l,some h,some m => slice00K P t v l h m K | _,_,_,_ => False
  | .sliceToArrayPointer t x => match ev fr x with | some v => arrAtK P t v kb K | none => False
  | .field t x m => match (ev fr x).bind (fun v => fieldV P t v m) with | some u => K u | none => False
  | .index t x i => match ev fr x,evR fr i with
    | some (.agg l),some u => elemK P t (.agg l) u K
    | _,_ => match calmV P fr o with | some v => K v | none => False
  | .extract x m => match ev fr x with
    | some (.tup l) => match l[m]? with | some v => K v | none => False
    | _ => False
  | .build t parts => match evP fr parts.toList with
    | some ps => match buildV P t ps with | some l => K (.agg l) | none => False
    | none => False
  | .makeFunc (.func f) first cap => match first.toList,evs fr cap.toList with | [],some vs => K (.fn f vs) | _,_ => False
  | .call c => match c.callee,c.args.toList,c.argTypes.toList with
    | .builtin .len,[x],[t] => match ev fr x with
      | some v => match lenV v with
        | some _ => lenK P t v K
        | none => match v with
          | .agg l => lenK P t (.agg l) K
          | .ptr i off => lenK P t (.ptr i off) K
          | _ => match calmV P fr o with | some v => K v | none => False
      | none => False
    | _,_,_ => match calmV P fr o with | some v => K v | none => False
  | .binOp .eql t x y _ => match ev fr x,ev fr y with
    | some u,some v => match someNil P t u v,u,v with
      | true,_,_ => K .ff
      | false,.agg xs,.agg ys => match P.eqGuardType P.depth t,eqT P 20 t (.agg xs) (.agg ys) with
        | false,some b => K (litB (xs.all isLit && ys.all isLit) b)
        | _,_ => False
      | _,_,_ => match calmV P fr o with | some v => K v | none => moreK P o fr K
    | _,_ => False
  | .binOp .neq t x y _ => match ev fr x,ev fr y with
    | some u,some v => match someNil P t u v,u,v with
      | true,_,_ => K .tt
      | false,.agg xs,.agg ys => match P.eqGuardType P.depth t,eqT P 20 t (.agg xs) (.agg ys) with
        | false,some b => K (litB (xs.all isLit && ys.all isLit) (!b))
        | _,_ => False
      | _,_,_ => match calmV P fr o with | some v => K v | none => moreK P o fr K
    | _,_ => False
  | .binOp .quo _ _ y _ => match y,ev fr y with
    | .tmp _,some (.int _ _) => moreK P o fr K
    | _,_ => match calmV P fr o with | some v => K v | none => False
  | .binOp .rem _ _ y _ => match y,ev fr y with
    | .tmp _,some (.int _ _) => moreK P o fr K
    | _,_ => match calmV P fr o with | some v => K v | none => False
  | .binOp .shl _ _ y _ => match y,ev fr y with
    | .tmp _,some (.int _ _) => moreK P o fr K
    | _,_ => match calmV P fr o with | some v => K v | none => False
  | .binOp .shr _ _ y _ => match y,ev fr y with
    | .tmp _,some (.int _ _) => moreK P o fr K
    | _,_ => match calmV P fr o with | some v => K v | none => False
  | _ => match calmV P fr o with | some v => K v | none => False
theorem run_eq_agg {P : Program} {t : TypeId} (hg : P.eqGuardType P.depth t = false) {b : Bool} {xs ys : List V} (he : eqT P 20 t (.agg xs) (.agg ys) = some b) {σ : Sg} {E : EH} {x y : Operand} {u v : Value} (hx : Den σ E (.agg xs) u) (hy : Den σ E (.agg ys) v)
    (op : BinOp) (hop : op = .eql∨op = .neq) (W : World) : (do eqGuard op t x y u v; binOp op t u v : Sem Value).run P W = .ok (.bool (if op = .eql then b else !b)) W:=by
  have hr:=eqT_ok 20 t _ _ b he u v hx hy Op.maxDepth (by decide) W
  simp only [Den] at hx hy
  obtain ⟨us,rfl,_⟩:=hx
  obtain ⟨vs,rfl,_⟩:=hy
  rcases hop with rfl | rfl
  · have h1 : (eqGuard .eql t x y (.agg us.toArray) (.agg vs.toArray)).run P W = .ok () W:=by simp [eqGuard,hg]
    rw [Sem.run_bind,h1,Result.andThen_ok]
    simp [binOp,Op.equal,hr]
  · have h1 : (eqGuard .neq t x y (.agg us.toArray) (.agg vs.toArray)).run P W = .ok () W:=by simp [eqGuard,hg]
    rw [Sem.run_bind,h1,Result.andThen_ok]
    simp [binOp,Op.equal,hr]
theorem run_some_nil {P : Program} {t : TypeId} {p q : V} (ht : someNil P t p q = true) {σ : Sg} {E : EH} {x y : Operand} {u v : Value} (hx : Den σ E p u) (hy : Den σ E q v)
    (op : BinOp) (hop : op = .eql∨op = .neq) (W : World) : (do eqGuard op t x y u v; binOp op t u v : Sem Value).run P W = .ok (.bool (if op = .eql then false else true)) W:=by
  have fin : ((binOp .eql t u v).run P W = .ok (.bool false) W)→((binOp .neq t u v).run P W = .ok (.bool true) W)→(∀ op,(op = BinOp.eql∨op = BinOp.neq)→∀ W,(eqGuard op t x y u v).run P W = .ok () W)→(do eqGuard op t x y u v; binOp op t u v : Sem Value).run P W = .ok (.bool (if op = .eql then false else true)) W:=by
    intro hb1 hb2 h1
    rcases hop with rfl | rfl
    · rw [Sem.run_bind,h1 _ (.inl rfl),Result.andThen_ok,hb1]
      rfl
    · rw [Sem.run_bind,h1 _ (.inr rfl),Result.andThen_ok,hb2]
      rfl
  have ptr : ∀ {b o : Nat},u = .pointer (some ⟨b,o,none⟩)→v = .pointer none→isPtrT P t = true→(do eqGuard op t x y u v; binOp op t u v : Sem Value).run P W = .ok (.bool (if op = .eql then false else true)) W:=by
    rintro b o rfl rfl hp
    unfold isPtrT at hp
    split at hp <;> try (cases hp; done)
    rename_i e hu
    have hr : (Op.equal t (.pointer (some ⟨b,o,none⟩)) (.pointer none)).run P W = .ok false W:=by
      unfold Op.equal
      show (Op.equalIn (9999 + 1) t _ _).run P W = _
      unfold Op.equalIn
      rw [Sem.run_bind,run_underlying hu,Result.andThen_ok]
      simp
    refine fin (by simp [binOp,hr]) (by simp [binOp,hr]) (fun op hop W => ?_)
    · rcases hop with rfl | rfl <;> simp [eqGuard]
  unfold someNil at ht
  split at ht
  · simp only [Den] at hx hy
    obtain ⟨r,_,rfl⟩:=hx
    subst hy
    unfold isMapT at ht
    split at ht <;> try (cases ht; done)
    rename_i kt et hu
    have hr : (Op.equal t (.map (some r.blk)) (.map none)).run P W = .ok false W:=by
      unfold Op.equal
      show (Op.equalIn (9999 + 1) t _ _).run P W = _
      unfold Op.equalIn
      rw [Sem.run_bind,run_underlying hu,Result.andThen_ok]
      rfl
    refine fin (by simp [binOp,hr]) (by simp [binOp,hr]) (fun op hop W => ?_)
    · rcases hop with rfl | rfl <;> simp [eqGuard]
  · simp only [Den] at hx hy; obtain ⟨r,_,rfl⟩:=hx; exact ptr rfl hy ht
  · simp only [Den] at hx hy; obtain ⟨r,_,rfl⟩:=hx; exact ptr rfl hy ht
  · simp only [Den] at hx hy; obtain ⟨r,_,rfl⟩:=hx; exact ptr rfl hy ht
  · simp only [Den] at hx hy; obtain ⟨b,off,rfl,_⟩:=hx; exact ptr rfl hy ht
  · simp only [Den] at hx hy
    obtain ⟨vs,rfl,_⟩:=hx
    subst hy
    unfold isFuncT at ht
    split at ht <;> try (cases ht; done)
    rename_i hu
    have hr : ∀ g c1 c2,(Op.equal t (.func g c1 c2) .nilFunc).run P W = .ok false W:=by
      intro g c1 c2
      unfold Op.equal
      show (Op.equalIn (9999 + 1) t _ _).run P W = _
      unfold Op.equalIn
      rw [Sem.run_bind,run_underlying hu,Result.andThen_ok]
      rfl
    refine fin (by simp [binOp,hr]) (by simp [binOp,hr]) (fun op hop W => ?_)
    · rcases hop with rfl | rfl <;> simp [eqGuard]
  · simp only [Den,RepD] at hx hy
    obtain ⟨rfl,_⟩:=hx
    subst hy
    unfold isFuncT at ht
    split at ht <;> try (cases ht; done)
    rename_i hu
    have hr : ∀ g c1 c2,(Op.equal t (.func g c1 c2) .nilFunc).run P W = .ok false W:=by
      intro g c1 c2
      unfold Op.equal
      show (Op.equalIn (9999 + 1) t _ _).run P W = _
      unfold Op.equalIn
      rw [Sem.run_bind,run_underlying hu,Result.andThen_ok]
      rfl
    refine fin (by simp [binOp,hr]) (by simp [binOp,hr]) (fun op hop W => ?_)
    · rcases hop with rfl | rfl <;> simp [eqGuard]
  · cases ht
theorem pureK_ok {P : Program} {o : Oper} {fr : Fr} {kb : KB} {K : V→Prop} (h : pureK P o fr kb K) {σ : Sg} {E : EH} {n : Nat} {a : Act} (hf : FrOk σ E fr n a) {W0 : World} (hi : Inv σ E kb W0) :
    ∃ v x,(∀ W,(execOp a.eval o).run P W = .ok (.value x) W)∧Den σ E v x∧K v:=by
  have calmCase : (match calmV P fr o with | some v => K v | none => False)→∃ v x,(∀ W,(execOp a.eval o).run P W = .ok (.value x) W)∧Den σ E v x∧K v:=by
    intro h
    split at h
    · rename_i v hv
      obtain ⟨x,h1,h2⟩:=calmV_ok hv hf
      exact ⟨v,x,h1,h2,h⟩
    · exact h.elim
  have calmMore : (match calmV P fr o with | some v => K v | none => moreK P o fr K)→∃ v x,(∀ W,(execOp a.eval o).run P W = .ok (.value x) W)∧Den σ E v x∧K v:=by
    intro h
    split at h
    · rename_i v hv
      obtain ⟨x,h1,h2⟩:=calmV_ok hv hf
      exact ⟨v,x,h1,h2,h⟩
    · exact moreK_ok h hf
  obtain ⟨dst,op,ty,pos,after,guard⟩:=o
  unfold pureK at h
  simp only at h
  split at h
  · split at h
    · rename_i x v hv; exact ⟨v,_,fun W => rfl,evR_ok hf hv,h⟩
    · exact h.elim
  · split at h
    · rename_i x v hv; exact ⟨v,_,fun W => rfl,evR_ok hf hv,h⟩
    · exact h.elim
  · rename_i c x y
    split at h
    · rename_i hc
      have hc':=ev_ok hf hc
      simp only [Den] at hc'
      split at h
      · rename_i v hv; exact ⟨v,_,fun W => by simp [execOp,hc',asBool],evR_ok hf hv,h⟩
      · exact h.elim
    · rename_i hc
      have hc':=ev_ok hf hc
      simp only [Den] at hc'
      split at h
      · rename_i v hv; exact ⟨v,_,fun W => by simp [execOp,hc',asBool],evR_ok hf hv,h⟩
      · exact h.elim
    · rename_i b hc
      have hc':=ev_ok hf hc
      simp only [Den] at hc'
      split at h
      · rename_i u v hu hv
        split at h
        · rename_i w hw
          exact ⟨w,_,fun W => by simp [execOp,hc',asBool],pickV_ok hw (ev_ok hf hu) (ev_ok hf hv),h⟩
        · exact h.elim
      · exact h.elim
    · exact h.elim
  · rename_i x
    have same : ∀ {v : V},ev fr x = some v→K v→(∀ y,Den σ E v y→(∃ b o,y = .pointer (some ⟨b,o,none⟩))∨(∃ f first cap,y = .func (.func f) first cap)) →
        ∃ v y,(∀ W,(execOp a.eval { dst,op:=.nilCheck x,type:=ty,pos,after,guard }).run P W = .ok (.value y) W)∧Den σ E v y∧K v:=by
      intro v hv hK hs
      have hx':=ev_ok hf hv
      rcases hs _ hx' with ⟨b,o,e⟩ | ⟨f,first,cap,e⟩
      · exact ⟨v,a.eval x,fun W => by simp [execOp,e],hx',hK⟩
      · exact ⟨v,a.eval x,fun W => by simp [execOp,e],hx',hK⟩
    split at h
    · rename_i hx; exact same hx h (fun y hy => by simp only [Den] at hy; obtain ⟨r,_,rfl⟩:=hy; exact .inl ⟨_,_,rfl⟩)
    · rename_i hx; exact same hx h (fun y hy => by simp only [Den] at hy; obtain ⟨r,_,rfl⟩:=hy; exact .inl ⟨_,_,rfl⟩)
    · rename_i hx; exact same hx h (fun y hy => by simp only [Den] at hy; obtain ⟨r,_,rfl⟩:=hy; exact .inl ⟨_,_,rfl⟩)
    · rename_i hx; exact same hx h (fun y hy => by simp only [Den] at hy; obtain ⟨r,_,rfl⟩:=hy; exact .inl ⟨_,_,rfl⟩)
    · rename_i hx; exact same hx h (fun y hy => by simp only [Den] at hy; obtain ⟨b,off,rfl,_⟩:=hy; exact .inl ⟨_,_,rfl⟩)
    · rename_i o hx
      obtain ⟨e,rfl,h⟩:=h
      have e1:=ev_ok hf hx
      simp only [Den] at e1
      rcases e1 with ⟨e1,_⟩ | ⟨e',b,he,e1,e2⟩
      · cases e1
      · cases he
        refine ⟨_,a.eval x,fun W => by simp [execOp,e1],?_,h⟩
        simp only [Den]
        exact ⟨b,0,e1,e2⟩
    · rename_i hx; exact same hx h (fun y hy => by simp only [Den] at hy; obtain ⟨vs,rfl,_⟩:=hy; exact .inr ⟨_,_,_,rfl⟩)
    · rename_i hx; exact same hx h (fun y hy => by simp only [Den,RepD] at hy; exact .inr ⟨_,_,_,hy.1⟩)
    · rename_i hx; exact same hx h (fun y hy => by simp only [Den] at hy; exact .inr ⟨_,_,_,hy⟩)
    · exact h.elim
  · split at h
    · rename_i s x m v hv
      obtain ⟨u,z,h1,h2,h3⟩:=fieldK_ok h (ev_ok hf hv)
      exact ⟨u,z,fun W => by simp [execOp,h1],h2,h3⟩
    · exact h.elim
  · split at h
    · rename_i t x i v u hv hu
      obtain ⟨w,z,h1,h2,h3⟩:=indexK_ok h hi (ev_ok hf hv) (evR_ok hf hu)
      exact ⟨w,z,fun W => by simp [execOp,h1],h2,h3⟩
    · exact h.elim
  · split at h
    · rename_i t x lo hi' v l hh hv hl hh'
      obtain ⟨w,z,h1,h2,h3⟩:=sliceK_ok h hi (ev_ok hf hv) (evO_ok hf hl) (evO_ok hf hh')
      exact ⟨w,z,fun W => by simp [execOp,h1],h2,h3⟩
    · exact h.elim
  · split at h
    · rename_i t x lo hi' m v l hh mm hv hl hh' hm
      obtain ⟨w,z,h1,h2,h3⟩:=slice00K_ok h (ev_ok hf hv) (evO_ok hf hl) (evO_ok hf hh') (evO_ok hf hm)
      exact ⟨w,z,fun W => by have:=h1 W; simp only [Option.map_some] at this; simp [execOp,this],h2,h3⟩
    · exact h.elim
  · split at h
    · rename_i t x v hv
      obtain ⟨w,z,h1,h2,h3⟩:=arrAtK_ok h (ev_ok hf hv)
      exact ⟨w,z,fun W => by simp [execOp,h1],h2,h3⟩
    · exact h.elim
  · split at h
    · rename_i t x m u hu
      obtain ⟨v,hv,hu⟩:=Option.bind_eq_some_iff.1 hu
      obtain ⟨z,h1,h2⟩:=fieldV_ok hu (ev_ok hf hv)
      exact ⟨u,z,fun W => by simp [execOp,h1],h2,h⟩
    · exact h.elim
  · split at h
    · rename_i t x i l u hv hu
      obtain ⟨w,z,h1,h2,h3⟩:=elemK_ok h (ev_ok hf hv) (evR_ok hf hu)
      exact ⟨w,z,fun W => by simp [execOp,h1],h2,h3⟩
    · exact calmCase h
  · split at h
    · rename_i x m l hv
      split at h
      · rename_i v hm
        have hx:=ev_ok hf hv
        simp only [Den] at hx
        obtain ⟨vs,hx,hD⟩:=hx
        obtain ⟨y,hy,hy2⟩:=hD.get hm
        exact ⟨v,y,fun W => by simp [execOp,hx,Instr.extract,hy],hy2,h⟩
      · exact h.elim
    · exact h.elim
  · split at h
    · rename_i t parts x1 ps hps
      split at h
      · rename_i l hl
        obtain ⟨z,h1,h2⟩:=buildV_ok hl (evP_ok hf hps)
        refine ⟨_,z,fun W => ?_,h2,h⟩
        have e : (parts.toList.map fun x => (x.1,a.eval x.2)).toArray = parts.map fun x => (x.1,a.eval x.2):=by
          apply Array.ext'; simp
        have:=h1 W
        rw [show (parts.toList.map fun (i,x) => (i,a.eval x)) = parts.toList.map (fun x => (x.1,a.eval x.2)) from rfl,e] at this
        simp [execOp,this]
      · exact h.elim
    · exact h.elim
  · split at h
    · rename_i f first cap x1 x2 vs hfirst hvs
      have hD:=evs_ok hf hvs
      have hfirst' : first = #[]:=by apply Array.ext'; simpa using hfirst
      subst hfirst'
      refine ⟨_,_,fun W => by simp [execOp,Instr.makeFunc]; rfl,?_,h⟩
      simp only [Den]
      exact ⟨_,by congr 1; apply Array.ext'; simp,hD⟩
    · exact h.elim
  · rename_i c
    split at h
    case h_2 => exact calmCase h
    rename_i x t hcal hargs hats
    obtain ⟨callee,args,argTypes⟩:=c
    simp only at hcal hargs hats
    subst hcal
    have hargs' : args = #[x]:=by apply Array.ext'; simpa using hargs
    have hats' : argTypes = #[t]:=by apply Array.ext'; simpa using hats
    subst hargs'; subst hats'
    have lenCase : ∀ {v : V},ev fr x = some v→lenK P t v K→∃ v y,(∀ W,(execOp a.eval { dst,op:=.call ⟨.builtin .len,#[x],#[t]⟩,type:=ty,pos,after,guard }).run P W = .ok (.value y) W)∧Den σ E v y∧K v:=by
      intro v hv h
      obtain ⟨w,z,h1,h2,h3⟩:=lenK_ok h (ev_ok hf hv) ty
      exact ⟨w,z,fun W => by simp [execOp,resolve,invoke,builtin,h1],h2,h3⟩
    split at h <;> try exact h.elim
    rename_i v hv
    split at h
    · exact lenCase hv h
    · split at h
      · exact lenCase hv h
      · exact lenCase hv h
      · exact calmCase h
  · rename_i t x y _
    split at h <;> try exact h.elim
    rename_i u v hx hy
    split at h
    · rename_i hsn
      exact ⟨_,_,fun W => by
        have:=run_some_nil (x:=x) (y:=y) hsn (ev_ok hf hx) (ev_ok hf hy) .eql (.inl rfl) W
        simp only [execOp]
        rw [Sem.run_bind,this,Result.andThen_ok]
        rfl,by simp [Den],h⟩
    · rename_i xs ys _
      split at h <;> try exact h.elim
      rename_i b hg he
      exact ⟨_,_,fun W => by
        have:=run_eq_agg (x:=x) (y:=y) hg he (ev_ok hf hx) (ev_ok hf hy) .eql (.inl rfl) W
        simp only [execOp]
        rw [Sem.run_bind,this,Result.andThen_ok]
        rfl,litB_den _ _ _ _,h⟩
    · exact calmMore h
  · rename_i t x y _
    split at h <;> try exact h.elim
    rename_i u v hx hy
    split at h
    · rename_i hsn
      exact ⟨_,_,fun W => by
        have:=run_some_nil (x:=x) (y:=y) hsn (ev_ok hf hx) (ev_ok hf hy) .neq (.inr rfl) W
        simp only [execOp]
        rw [Sem.run_bind,this,Result.andThen_ok]
        rfl,by simp [Den],h⟩
    · rename_i xs ys _
      split at h <;> try exact h.elim
      rename_i b hg he
      exact ⟨_,_,fun W => by
        have:=run_eq_agg (x:=x) (y:=y) hg he (ev_ok hf hx) (ev_ok hf hy) .neq (.inr rfl) W
        simp only [execOp]
        rw [Sem.run_bind,this,Result.andThen_ok]
        rfl,litB_den _ _ _ _,h⟩
    · exact calmMore h
  · split at h
    · exact moreK_ok h hf
    · exact calmCase h
  · split at h
    · exact moreK_ok h hf
    · exact calmCase h
  · split at h
    · exact moreK_ok h hf
    · exact calmCase h
  · split at h
    · exact moreK_ok h hf
    · exact calmCase h
  · exact calmCase h
end Vc
set_option linter.unusedSimpArgs false
set_option linter.unusedVariables false
namespace Vc
open Go
structure ChN (n : Int) : Prop where
  lo : 0 ≤ n
  hi : n ≤ 65536
def chanT (P : Program) (t : TypeId) : Option TypeId :=
  match P.underlying t with
  | some (.chan _ e) => some e
  | _ => none
theorem chanT_ok {P : Program} {t e : TypeId} (h : chanT P t = some e) : ∃ d,P.underlying t = some (.chan d e):=by
  unfold chanT at h
  split at h
  · rename_i d e' h1
    cases h; exact ⟨d,h1⟩
  · cases h
def makeChanK (P : Program) (t : TypeId) (n : V) (kb : KB) (K : V→KB→Prop) : Prop :=
  match chanT P t with
  | some e => match tAgg P e,kindsOf P 20 e,P.info? e,n with
    | some agg,some cks,some inf,.int .i64 m => match Nat.ble inf.bytes 65536 with
      | true => ChN m∧K (.ch kb.length) (kb ++ [.ch agg (wk cks) m.toNat []])
      | false => False
    | _,_,_,_ => False
  | none => False
theorem makeChanK_ok {P : Program} {t : TypeId} {n : V} {kb : KB} {K : V→KB→Prop} (h : makeChanK P t n kb K) {σ : Sg} {E : EH} {W : World} (hi : Inv σ E kb W) {x : Value} (hx : Den σ E n x) :
    ∃ v y σ' kb' W',(Instr.makeChan t x).run P W = .ok y W'∧Step σ E kb W σ' E kb' W'∧Den σ' E v y∧K v kb':=by
  unfold makeChanK at h
  split at h <;> try exact h.elim
  rename_i e he
  obtain ⟨d,hu⟩:=chanT_ok he
  split at h <;> try exact h.elim
  rename_i agg cks inf m ha hk hinf
  split at h <;> try exact h.elim
  rename_i hb
  obtain ⟨⟨hlo,hhi⟩,h⟩:=h
  have hb:=Nat.le_of_ble_eq_true hb
  simp only [Den] at hx
  subst hx
  have hmul : (inf.bytes : Int) * m ≤ 65536 * 65536:=Int.mul_le_mul (by omega) hhi hlo (by omega)
  have hmul0 : ¬ (m < 0∨m > IntKind.i64.max∨(inf.bytes : Int) * m > 2 ^ 48 - 112):=by
    have : IntKind.i64.max = 9223372036854775807:=by decide
    rw [this]; omega
  refine ⟨_,.chan (some W.heap.size),_,_,W.alloc (.chan m.toNat #[] false 0 0 false),?_,hi.alloc (.chan m.toNat #[] false 0 0 false) ⟨W.heap.size,0,0⟩ (.ch agg (wk cks) m.toNat []) (fun b hb => hb) ⟨wl.nil,Nat.zero_le _,#[],0,0,?_,by simp [BufL]⟩,?_,h⟩
  · unfold Instr.makeChan
    have hc1 : ¬ (m < 0∨9223372036854775807 < m∨281474976710544 < (inf.bytes : Int) * m):=by omega
    simp [asInt,asIntOf,run_underlying hu,typeInfo,hinf,hc1]
  · show (W.heap.push _)[W.heap.size]? = _
    simp
  · simp only [Den]
    exact ⟨⟨W.heap.size,0,0⟩,by rw [← hi.len]; simp,rfl⟩
def chanLenK (P : Program) (t : TypeId) (m : V) (kb : KB) (K : V→Prop) : Prop :=
  match chanT P t with
  | some _ => match m with
    | .ch i => match kb[i]? with
      | some (.ch _ _ _ l) => K (.int .i64 (l.length : Int))
      | _ => False
    | _ => False
  | none => False
theorem chanLenK_ok {P : Program} {t : TypeId} {m : V} {kb : KB} {K : V→Prop} (h : chanLenK P t m kb K) {σ : Sg} {E : EH} {W : World} (hi : Inv σ E kb W) {x : Value} (hx : Den σ E m x) (ty : TypeId) :
    ∃ v z,(Builtin.len_ #[t] ty #[x]).run P W = .ok z W∧Den σ E v z∧K v:=by
  unfold chanLenK at h
  split at h <;> try exact h.elim
  rename_i q ht
  obtain ⟨d,hu⟩:=chanT_ok ht
  split at h <;> try exact h.elim
  rename_i i
  split at h <;> try exact h.elim
  rename_i agg sz cap l hl
  simp only [Den] at hx
  obtain ⟨r,hr,rfl⟩:=hx
  obtain ⟨_,_,bf,s,rr,g1,g2⟩:=hi.obj i r _ hr hl
  have hgo : (getObj r.blk).run P W = .ok (.chan cap bf false s rr false) W:=by simp [getObj,Sem.run,g1]
  have:=g2.len
  exact ⟨_,_,by simp [Builtin.len_,run_underlying hu,hgo]; rfl,by simp only [Den,goInt]; rw [show bf.size = l.length by simpa using this],h⟩
def lenMC (P : Program) (t : TypeId) (m : V) (kb : KB) (K : V→Prop) : Prop :=
  match chanT P t with
  | some _ => chanLenK P t m kb K
  | none => mapLenK P t m kb K
theorem lenMC_ok {P : Program} {t : TypeId} {m : V} {kb : KB} {K : V→Prop} (h : lenMC P t m kb K) {σ : Sg} {E : EH} {W : World} (hi : Inv σ E kb W) {x : Value} (hx : Den σ E m x) (ty : TypeId) :
    ∃ v z,(Builtin.len_ #[t] ty #[x]).run P W = .ok z W∧Den σ E v z∧K v:=by
  unfold lenMC at h
  split at h
  · exact chanLenK_ok h hi hx ty
  · exact mapLenK_ok h hi hx ty
def sendK (P : Program) (e : TypeId) (i : Nat) (v : V) (kb : KB) (K : V→KB→Prop) : Prop :=
  match tAgg P e,tSize P e,(P.info? e).bind (·.zero) with
  | some agg,some n,some _ => match (match v with | .agg _ => agg | _ => !agg) with
    | true => cellsD P e v kb (fun ds kb => match kb[i]? with
      | some (.ch agg2 sz cap l) => match (agg == agg2),Nat.beq n sz with
        | true,true => (l.length < cap→K (.tup [.lit .i64 0,.ff]) (kb.set i (.ch agg2 sz cap (l ++ [ds]))))∧(¬ l.length < cap→K (.tup [.lit .i64 (-1),.ff]) kb)
        | _,_ => False
      | _ => False)
    | false => False
  | _,_,_ => False
def recvK (P : Program) (e : TypeId) (i : Nat) (kb : KB) (K : V→KB→Prop) : Prop :=
  match tAgg P e,kindsOf P 20 e,(P.info? e).bind (·.zero) with
  | some agg,some cks,some _ => match kb[i]? with
    | some (.ch agg2 sz cap l) => match (agg == agg2),Nat.beq (wk cks) sz with
      | true,true => (∀ c l',l = c :: l'→loadE c 0 cks (fun vs => wrapK agg vs (fun v => K (.tup [.lit .i64 0,.tt,v]) (kb.set i (.ch agg2 sz cap l')))))∧(l = []→zeroT P e agg (fun v => K (.tup [.lit .i64 (-1),.ff,v]) kb))
      | _,_ => False
    | _ => False
  | _,_,_ => False
theorem BufL.cons_inv {E : EH} {agg : Bool} {buf : Array Value} {c : List D} {l : List (List D)} (h : BufL E agg buf.toList (c :: l)) : 0 < buf.size∧(∃ ys,buf.getD 0 undef = cellV agg ys∧DenD E c ys)∧BufL E agg (buf.extract 1 buf.size).toList l:=by
  obtain ⟨bl⟩:=buf
  cases bl with
  | nil => simp only [BufL] at h; cases h
  | cons v vs =>
    simp only [BufL] at h
    obtain ⟨c',l',h0,h1,h2⟩:=h
    cases h0
    refine ⟨by simp,?_,?_⟩
    · obtain ⟨ys,e1,e2⟩:=h1
      exact ⟨ys,by simp [e1],e2⟩
    · simpa [List.extract] using h2
theorem zero_run {P : Program} {e : TypeId} {z : Value} (h : (P.info? e).bind (·.zero) = some z) (W : World) : (zeroValue e).run P W = .ok z W:=by
  obtain ⟨it,hit,hzz⟩:=Option.bind_eq_some_iff.1 h
  simp [zeroValue,typeInfo,hit,hzz]
theorem sendK_ok {P : Program} {e : TypeId} {i : Nat} {v : V} {kb : KB} {K : V→KB→Prop} (h : sendK P e i v kb K) {σ : Sg} {E : EH} {W : World} (hi : Inv σ E kb W) {r : Re} (hr : σ[i]? = some r) {x : Value} (hx : Den σ E v x) :
    ∃ cap buf s rr z,W.heap[r.blk]? = some (.chan cap buf false s rr false)∧(zeroValue e).run P W = .ok z W ∧
      (buf.size < cap→∃ E' kb',Step σ E kb W σ E' kb' (W.setChan r.blk cap (buf.push x) false (s + 1) rr false)∧K (.tup [.lit .i64 0,.ff]) kb') ∧
      (¬ buf.size < cap→∃ E' kb',Step σ E kb W σ E' kb' W∧K (.tup [.lit .i64 (-1),.ff]) kb'):=by
  unfold sendK at h
  split at h <;> try exact h.elim
  rename_i agg n z ha hn hz
  split at h <;> try exact h.elim
  rename_i hagg
  have h0:=h
  obtain ⟨E1,kb1,ds,xs,s1,hc,hD,h,hxn⟩:=cellsD_ok h hi hx
  split at h <;> try exact h.elim
  rename_i agg2 sz cap l hl
  split at h <;> try exact h.elim
  rename_i c1 c2
  have e1 : agg = agg2:=by simpa using c1
  have e2:=Nat.eq_of_beq_eq_true c2
  subst e1; subst e2
  obtain ⟨hw,hlen,bf,s,rr,g1,g2⟩:=s1.inv.obj i r _ hr hl
  have hbl:=g2.len
  have hbl : bf.size = l.length:=by simpa using hbl
  rw [hn] at hxn
  have hxn:=Option.some.inj hxn
  have hval : x = cellV agg xs:=by
    by_cases hv : ∃ vs,v = .agg vs
    · obtain ⟨vs,rfl⟩:=hv
      simp only at hagg
      subst hagg
      simp only [Den] at hx
      obtain ⟨us,rfl,_⟩:=hx
      simp only [Value.cells] at hc
      simp [cellV,hc]
    · have hagg : agg = false:=by
        cases v <;> first | (exact absurd ⟨_,rfl⟩ hv) | simpa using hagg
      subst hagg
      have hone : x.oneCell' = true:=one_den (cellsD_one h0 (fun vs q => hv ⟨vs,q⟩)) hx
      have hxz : xs = [x]:=by
        have hzz : x.cells = #[x]:=by cases x <;> simp_all [Value.cells,Value.oneCell']
        rw [hzz] at hc
        have:=congrArg Array.toList hc
        simpa using this.symm
      simp [cellV,hxz]
  have hlt : r.blk < W.heap.size:=(Array.getElem?_eq_some_iff.1 g1).1
  refine ⟨cap,bf,s,rr,z,g1,zero_run hz W,fun hroom => ?_,fun hfull => ⟨E1,kb1,s1,h.2 (by omega)⟩⟩
  refine ⟨E1,_,s1.trans (s1.inv.set (o':=.ch agg n cap (l ++ [ds])) hr hl rfl rfl rfl (by simp [World.setChan]) (fun b hb => ?_) (fun b hb => hb) ⟨?_,?_,bf.push x,s + 1,rr,?_,?_⟩),h.1 (by omega)⟩
  · simp only [owned] at hb
    show (W.heap.setIfInBounds r.blk _)[b]? = _
    rw [Array.getElem?_setIfInBounds_ne (fun e => hb e.symm)]
  · exact hw.append (fun y hy => by simp at hy; subst hy; rw [← hD.len]; omega)
  · simp; omega
  · show (W.heap.setIfInBounds r.blk _)[r.blk]? = _
    simp [hlt]
  · rw [Array.toList_push]
    exact g2.snoc ⟨xs,hval,hD⟩
theorem recvK_ok {P : Program} {e : TypeId} {i : Nat} {kb : KB} {K : V→KB→Prop} (h : recvK P e i kb K) {σ : Sg} {E : EH} {W : World} (hi : Inv σ E kb W) {r : Re} (hr : σ[i]? = some r) :
    ∃ cap buf s rr z,W.heap[r.blk]? = some (.chan cap buf false s rr false)∧(zeroValue e).run P W = .ok z W ∧
      (0 < buf.size→∃ u kb',Step σ E kb W σ E kb' (W.setChan r.blk cap (buf.extract 1 buf.size) false s (rr + 1) false)∧Den σ E u (buf.getD 0 undef)∧K (.tup [.lit .i64 0,.tt,u]) kb') ∧
      (buf = #[]→∃ u,Den σ E u z∧K (.tup [.lit .i64 (-1),.ff,u]) kb):=by
  unfold recvK at h
  split at h <;> try exact h.elim
  rename_i agg cks z ha hcks hz
  split at h <;> try exact h.elim
  rename_i agg2 sz cap l hl
  split at h <;> try exact h.elim
  rename_i c1 c2
  have e1 : agg = agg2:=by simpa using c1
  have e2:=Nat.eq_of_beq_eq_true c2
  subst e1; subst e2
  obtain ⟨hw,hlen,bf,s,rr,g1,g2⟩:=hi.obj i r _ hr hl
  have hlt : r.blk < W.heap.size:=(Array.getElem?_eq_some_iff.1 g1).1
  refine ⟨cap,bf,s,rr,z,g1,zero_run hz W,fun hsome => ?_,fun hnone => ?_⟩
  · cases l with
    | nil =>
      have:=g2.len
      simp at this
      subst this
      simp at hsome
    | cons c l' =>
      obtain ⟨_,⟨ys,hv,hD⟩,hrest⟩:=g2.cons_inv
      obtain ⟨vs,xs,hK,hDC,hln,hxs⟩:=loadE_ok (σ:=σ) hD (h.1 c l' rfl)
      obtain ⟨u,k1,k2,k3⟩:=wrapK_ok hK hDC
      have hyl : ys.length = wk cks:=by rw [hD.len]; exact hw c (by simp)
      have hceq : ys = xs:=by
        apply List.ext_getElem?
        intro q
        rcases Nat.lt_or_ge q xs.length with hq | hq
        · rw [List.getElem?_eq_getElem hq]
          have:=hxs q _ (List.getElem?_eq_getElem hq)
          simpa using this
        · rw [List.getElem?_eq_none hq,List.getElem?_eq_none (by omega)]
      subst hceq
      refine ⟨u,_,hi.set (o':=.ch agg (wk cks) cap l') hr hl rfl rfl rfl (by simp [World.setChan]) (fun b hb => ?_) (fun b hb => hb) ⟨hw.cons,?_,bf.extract 1 bf.size,s,rr + 1,?_,hrest⟩,?_,k1⟩
      · simp only [owned] at hb
        show (W.heap.setIfInBounds r.blk _)[b]? = _
        rw [Array.getElem?_setIfInBounds_ne (fun e => hb e.symm)]
      · simp at hlen; omega
      · show (W.heap.setIfInBounds r.blk _)[r.blk]? = _
        simp [hlt]
      · rw [hv]; exact k2
  · subst hnone
    simp only [BufL] at g2
    subst g2
    obtain ⟨v,z',z1,z2,z3⟩:=zeroT_ok (h.2 rfl) σ E W
    rw [zero_run hz W] at z1
    cases z1
    exact ⟨v,z2,z3⟩
end Vc
