import Derived.Test.YtfcjngcnifdmnaaQg
import Derived.KernelRfl
import Derived.SizedLaws
namespace Go.Proofs.Ytfcjngcnifdmnaa
open Vc Go
set_option linter.unusedVariables false
set_option linter.unusedSimpArgs false
set_option maxRecDepth 100000
structure OpI (o : Op) : Prop where
  b : Byt o.b
  l : o.b.length ≤ 900000
structure RepI (R : Rep) : Prop where
  ok : RepOk R
  tx : OkX R.t
  om : ∀ p ∈ R.out,MsgOk p.m
  oc : ∀ o,curR R = some o→OpI o
structure RepS (R R2 : Rep) : Prop where
  i : RepI R2
  o : R2.out.length ≤ R.out.length + 1
  d : R2.done.length ≤ R.done.length + 1
  me : R2.me = R.me
  id : R2.id = R.id
  v : R2.v = R.v
  ti : R2.ti = R.ti
theorem RepS.refl {R : Rep} (h : RepI R) : RepS R R:=⟨h,Nat.le_succ _,Nat.le_succ _,rfl,rfl,rfl,rfl⟩
theorem tab_of {x : List L3} (h : OkX x) : Tab (x.map ent) x:=⟨List.Perm.refl _,h.inc,h.rg,h.len⟩
theorem okX_put {x : List L3} {c n e : Int} (h : OkX x) (h0 : putE x c n e = 0) : OkX (putL x c n e):=(tab_put (tab_of h) h0).ok
theorem loadT_okX {b : List Int} {x : List L3} (h : loadT b = some x) : OkX x∧b = tabW x:=by
  unfold loadT at h
  split at h
  · rename_i hex
    have hc:=hex.choose_spec
    simp only [Option.some.injEq] at h
    exact ⟨h ▸ hc.1,h ▸ hc.2⟩
  · cases h
theorem loadC_ok {b c : List Int} (h : loadC b = some c) : c.length = 128∧b = sealI c:=by
  unfold loadC at h
  split at h
  · rename_i c' hc
    split at h
    · rename_i hl
      cases h
      exact ⟨hl,openI_some hc⟩
    · cases h
  · cases h
theorem nil_msg (kd : Int) (n : List Int) : MsgOk ⟨kd,n,[],[]⟩:=⟨fun c h => (by cases h),Nat.zero_le _,fun y h => (by cases h)⟩
theorem state_msg {R : Rep} (hI : RepI R) (to : Int) : MsgOk (stateP R to).m:=by
  have hx : OkX (tabR R):=hI.tx
  have hl:=tabI_len hx.len (tabR R).length
  rw [tabI_all] at hl
  refine ⟨sealI_byt hI.ok.cb,by show (sealI R.c).length ≤ _; rw [sealI_len' hI.ok.cl]; omega,fun y hy => ?_⟩
  have : y = tabW (tabR R):=by simpa [stateP] using hy
  subst this
  exact ⟨tabW_byt hx,by omega⟩
theorem hand_msg {R : Rep} {o : Op} (h : OpI o) (to : Int) : MsgOk (handP R o to).m:=⟨h.b,h.l,fun y h => (by cases h)⟩
theorem send_i {R : Rep} (h : RepI R) (ho : R.out.length < 100000) {to kd : Int} {n b : List Int} {l : List (List Int)} (hm : MsgOk ⟨kd,R.id :: R.ep :: n,b,l⟩) : RepS R (sendR R to kd n b l):=by
  refine ⟨⟨⟨h.ok.cl,h.ok.cb,h.ok.n0,h.ok.n1,h.ok.vl,?_,h.ok.dl,h.ok.cr⟩,h.tx,fun p hp => ?_,h.oc⟩,?_,Nat.le_succ _,rfl,rfl,rfl,rfl⟩
  · simp only [sendR,List.length_append,List.length_singleton]; omega
  · simp only [sendR,List.mem_append,List.mem_singleton] at hp
    rcases hp with hp | rfl
    · exact h.om p hp
    · exact hm
  · simp only [sendR,List.length_append,List.length_singleton]; omega
theorem nack_i {R : Rep} (h : RepI R) (ho : R.out.length < 100000) (to : Int) : RepS R (nackR R to):=send_i h ho (nil_msg _ _)
theorem state_i {R : Rep} (h : RepI R) (ho : R.out.length < 100000) (to : Int) : RepS R (stateR R to):=send_i h ho (state_msg h to)
theorem yield_i {R : Rep} (h : RepI R) (hd : R.done.length < 100000) : RepI (yieldR R)∧(yieldR R).done.length ≤ R.done.length + 1:=by
  have hl : (yieldR R).done.length ≤ R.done.length + 1:=by
    unfold yieldR
    cases curR R <;> simp
  exact ⟨⟨⟨h.ok.cl,h.ok.cb,h.ok.n0,h.ok.n1,h.ok.vl,h.ok.ol,by omega,fun o ho => by simp [yieldR,curR] at ho⟩,h.tx,h.om,fun o ho => by simp [yieldR,curR] at ho⟩,hl⟩
theorem finish_i {R : Rep} (h : RepI R) (hd : R.done.length < 100000) : RepI (finishR R)∧(finishR R).done.length ≤ R.done.length + 1∧(finishR R).out = R.out∧(finishR R).me = R.me∧(finishR R).id = R.id∧(finishR R).v = R.v∧(finishR R).ti = R.ti:=by
  unfold finishR
  split
  · rename_i L hl
    split
    · rename_i o ho
      split
      · exact ⟨⟨⟨h.ok.cl,h.ok.cb,h.ok.n0,h.ok.n1,h.ok.vl,h.ok.ol,by simp; omega,fun o ho => by simp [curR] at ho⟩,h.tx,h.om,fun o ho => by simp [curR] at ho⟩,by simp,rfl,rfl,rfl,rfl,rfl⟩
      · exact ⟨h,Nat.le_succ _,rfl,rfl,rfl,rfl,rfl⟩
    · exact ⟨h,Nat.le_succ _,rfl,rfl,rfl,rfl,rfl⟩
  · exact ⟨h,Nat.le_succ _,rfl,rfl,rfl,rfl,rfl⟩
theorem wrong_ok {l : List Int} (h : l.any isWrong = false) {i : Nat} : 0 ≤ l.getD i 0∧l.getD i 0 ≤ 1099511627776:=by
  rw [List.any_eq_false] at h
  rw [List.getD_eq_getElem?_getD]
  cases hi : l[i]? with
  | none => simp
  | some x =>
    have:=h x (List.mem_of_getElem? hi)
    simp only [isWrong,decide_eq_true_eq] at this
    simp only [Option.getD_some]
    omega
theorem sync_i {R : Rep} (h : RepI R) (ho : R.out.length < 100000) (hd : R.done.length < 100000) (fr : Int) {m : Msg} (hm : MsgOk m) (hw : m.n.any isWrong = false) : RepS R (syncR R fr m):=by
  unfold syncR
  split
  · exact nack_i h ho fr
  · split
    · rename_i c t hc ht
      obtain ⟨k1,k2⟩:=yield_i h hd
      obtain ⟨c1,c2⟩:=loadC_ok hc
      have cb : Byt c:=fun x hx => hm.b x (by rw [c2]; unfold sealI; exact List.mem_append_left _ hx)
      have n2:=wrong_ok hw (i:=2)
      have hY : RepI { yieldR R with ep:=mAt m 1,nu:=mAt m 2,c:=c,t:=t,ch:=true }:=by
        refine ⟨⟨c1,cb,n2.1,by have:=n2.2; show mAt m 2 ≤ _; unfold mAt; omega,k1.ok.vl,k1.ok.ol,k1.ok.dl,fun o ho => by simp [yieldR,curR] at ho⟩,(loadT_okX ht).1,k1.om,fun o ho => by simp [yieldR,curR] at ho⟩
      have:=send_i (to:=fr) (kd:=11) (n:=[mAt m 2]) (b:=[]) (l:=[]) hY (by exact ho) (nil_msg _ _)
      exact ⟨this.i,this.o,k2,this.me,this.id,this.v,this.ti⟩
    · exact RepS.refl h
theorem fin_s {R R1 : Rep} (h : RepI R1) (hd : R1.done.length < 100000) (e1 : R1.out = R.out) (e2 : R1.done = R.done) (e3 : R1.me = R.me) (e4 : R1.id = R.id) (e5 : R1.v = R.v) (e6 : R1.ti = R.ti) : RepS R (finishR R1):=by
  obtain ⟨k1,k2,k3,k4,k5,k6,k7⟩:=finish_i h hd
  exact ⟨k1,by rw [k3,e1]; omega,by rw [← e2]; exact k2,k4.trans e3,k5.trans e4,k6.trans e5,k7.trans e6⟩
theorem lead_i {R : Rep} (h : RepI R) {L : Lead} (hl : R.ld = some L) (f g : Int→Bool) : RepI { R with ld:=some ⟨f,g,L.cur⟩ }:=by
  have hc : curR R = L.cur:=by unfold curR; rw [hl]; rfl
  refine ⟨⟨h.ok.cl,h.ok.cb,h.ok.n0,h.ok.n1,h.ok.vl,h.ok.ol,h.ok.dl,fun o ho => h.ok.cr o (by rw [hc]; exact ho)⟩,h.tx,h.om,fun o ho => h.oc o (by rw [hc]; exact ho)⟩
theorem syncOk_i {R : Rep} (h : RepI R) (hd : R.done.length < 100000) (fr : Int) (m : Msg) : RepS R (syncOkR R fr m):=by
  unfold syncOkR
  split
  · exact RepS.refl h
  · rename_i L hl
    split
    · exact RepS.refl h
    · split
      · rename_i hc
        have:=lead_i h hl (mark L.ins fr true) L.acks
        rw [hc] at this
        exact ⟨this,Nat.le_succ _,Nat.le_succ _,rfl,rfl,rfl,rfl⟩
      · rename_i o hc
        have:=lead_i h hl (mark L.ins fr true) (mark L.acks fr true)
        rw [hc] at this
        exact fin_s this hd rfl rfl rfl rfl rfl rfl
theorem opOk_i {R : Rep} (h : RepI R) (hd : R.done.length < 100000) (fr : Int) (m : Msg) : RepS R (opOkR R fr m):=by
  unfold opOkR
  split
  · exact RepS.refl h
  · rename_i L hl
    split
    · exact RepS.refl h
    · rename_i o hc
      split
      · have:=lead_i h hl L.ins (mark L.acks fr true)
        rw [hc] at this
        exact fin_s this hd rfl rfl rfl rfl rfl rfl
      · exact RepS.refl h
theorem refused_i {R : Rep} (h : RepI R) (ho : R.out.length < 100000) (hd : R.done.length < 100000) (fr : Int) (m : Msg) : RepS R (refusedR R fr m):=by
  unfold refusedR
  split
  · exact RepS.refl h
  · rename_i L hl
    split
    · obtain ⟨k1,k2⟩:=yield_i h hd
      exact ⟨k1,Nat.le_succ _,k2,rfl,rfl,rfl,rfl⟩
    · split
      · have h2 : RepI { R with lo:=true }:=⟨⟨h.ok.cl,h.ok.cb,h.ok.n0,h.ok.n1,h.ok.vl,h.ok.ol,h.ok.dl,h.ok.cr⟩,h.tx,h.om,h.oc⟩
        obtain ⟨k1,k2⟩:=yield_i h2 hd
        exact ⟨k1,Nat.le_succ _,k2,rfl,rfl,rfl,rfl⟩
      · have:=state_i (lead_i h hl (mark L.ins fr false) L.acks) ho fr
        exact ⟨this.i,this.o,this.d,this.me,this.id,this.v,this.ti⟩
theorem rt_of {o : Op} (h : rtOp o = true) : 1 ≤ o.kd∧o.kd ≤ 4∧0 ≤ o.bk∧o.bk < 8∧0 ≤ o.cl∧o.cl ≤ 255∧1 ≤ o.nm∧o.nm ≤ 1099511627776∧(o.kd = 1→o.b.length = 16):=by
  unfold rtOp rightO at h
  simp at h
  omega
theorem doT_ok {t : List L3} (h : OkX t) (o : Op) : OkX (doT t o):=by
  unfold doT
  split
  · rename_i hp
    exact okX_put h hp.2
  · exact h
theorem do_i {R : Rep} (h : RepI R) {o : Op} (hr : rtOp o = true) (hb : Byt o.b) (hn : R.nu < 2199023255552) : RepI (doR R o):=by
  have k:=rt_of hr
  have c1:=doC_len (c:=R.c) h.ok.cl hr
  have c2:=doC_byt (kd:=o.kd) (bk:=o.bk) h.ok.cb hb
  have n0:=h.ok.n0
  exact ⟨⟨c1,c2,by show 0 ≤ R.nu + 1; omega,by show R.nu + 1 ≤ _; omega,h.ok.vl,h.ok.ol,h.ok.dl,h.ok.cr⟩,doT_ok h.tx o,h.om,h.oc⟩
theorem op_i {R : Rep} (h : RepI R) (ho : R.out.length < 100000) (fr : Int) {m : Msg} (hm : MsgOk m) (hw : m.n.any isWrong = false) : RepS R (opR R fr m):=by
  unfold opR
  split
  · exact send_i h ho (nil_msg _ _)
  · split
    · rename_i k
      obtain ⟨_,k2,_,k4,_⟩:=k
      have n2:=wrong_ok hw (i:=2)
      have k2 : m.n.getD 2 0 = R.nu + 1:=k2
      have hD:=do_i h (o:=opOf m) k4 hm.b (by omega)
      have:=send_i (to:=fr) (kd:=13) (n:=[R.nu + 1]) (b:=[]) (l:=[]) hD (by exact ho) (nil_msg _ _)
      exact ⟨this.i,this.o,this.d,this.me,this.id,this.v,this.ti⟩
    · exact nack_i h ho fr
theorem go_wrong {R : Rep} {fr : Int} {m : Msg} (h : msgGo R fr m = true) : m.n.any isWrong = false:=by
  unfold msgGo at h
  simp only [Bool.and_eq_true,Bool.not_eq_true'] at h
  exact h.2
theorem handle_i {R : Rep} (h : RepI R) (ho : R.out.length < 100000) (hd : R.done.length < 100000) (fr : Int) {m : Msg} (hm : MsgOk m) : RepS R (handleR R fr m):=by
  unfold handleR
  split
  · exact RepS.refl h
  · rename_i hg
    have hw:=go_wrong (by simpa using hg)
    split
    · exact sync_i h ho hd fr hm hw
    · split
      · exact syncOk_i h hd fr m
      · split
        · exact op_i h ho fr hm hw
        · split
          · exact opOk_i h hd fr m
          · exact refused_i h ho hd fr m
theorem out_i {R : Rep} (h : RepI R) {ps : List Post} (hp : ∀ p ∈ ps,MsgOk p.m) (hl : R.out.length + ps.length ≤ 100000) : RepI { R with out:=R.out ++ ps } :=
  ⟨⟨h.ok.cl,h.ok.cb,h.ok.n0,h.ok.n1,h.ok.vl,by show (R.out ++ ps).length ≤ _; rw [List.length_append]; exact hl,h.ok.dl,h.ok.cr⟩,h.tx,fun p hm => (List.mem_append.1 hm).elim (h.om p) (hp p),h.oc⟩
theorem ti_i {R : Rep} (h : RepI R) (n : Int) : RepI { R with ti:=n }:=⟨⟨h.ok.cl,h.ok.cb,h.ok.n0,h.ok.n1,h.ok.vl,h.ok.ol,h.ok.dl,h.ok.cr⟩,h.tx,h.om,h.oc⟩
theorem out0_i {R : Rep} (h : RepI R) : RepI { R with out:=[] }:=⟨⟨h.ok.cl,h.ok.cb,h.ok.n0,h.ok.n1,h.ok.vl,Nat.zero_le _,h.ok.dl,h.ok.cr⟩,h.tx,fun p hp => (by cases hp),h.oc⟩
theorem done0_i {R : Rep} (h : RepI R) : RepI { R with done:=[] }:=⟨⟨h.ok.cl,h.ok.cb,h.ok.n0,h.ok.n1,h.ok.vl,h.ok.ol,Nat.zero_le _,h.ok.cr⟩,h.tx,h.om,h.oc⟩
theorem done_i {R : Rep} (h : RepI R) {d : List Dn} (hl : R.done.length + d.length ≤ 100000) : RepI { R with done:=R.done ++ d }:=⟨⟨h.ok.cl,h.ok.cb,h.ok.n0,h.ok.n1,h.ok.vl,h.ok.ol,by show (R.done ++ d).length ≤ _; rw [List.length_append]; exact hl,h.ok.cr⟩,h.tx,h.om,h.oc⟩
theorem tickP_len (R : Rep) (L : Lead) (k : Int) : (tickP R L k).length ≤ 1:=by
  unfold tickP
  split
  · simp
  · split
    · split <;> simp
    · simp
theorem ticks_len (R : Rep) (L : Lead) : ∀ l : List Int,(l.flatMap (tickP R L)).length ≤ l.length
  | [] => by simp
  | a :: l => by
    have:=ticks_len R L l
    have:=tickP_len R L a
    rw [List.flatMap_cons,List.length_append,List.length_cons]; omega
theorem tickP_msg {R : Rep} (h : RepI R) {L : Lead} (hl : R.ld = some L) (k : Int) : ∀ p ∈ tickP R L k,MsgOk p.m:=by
  unfold tickP
  split
  · intro p hp
    rw [List.mem_singleton] at hp; subst hp
    exact state_msg h k
  · split
    · rename_i o ho
      split
      · intro p hp
        rw [List.mem_singleton] at hp; subst hp
        exact hand_msg (h.oc o (by unfold curR; rw [hl]; exact ho)) k
      · intro p hp; cases hp
    · intro p hp; cases hp
theorem tick_i {R : Rep} (h : RepI R) (ho : R.out.length + (oths R).length ≤ 100000) : RepI (tickR R)∧(tickR R).out.length ≤ R.out.length + (oths R).length:=by
  unfold tickR
  split
  · exact ⟨ti_i h _,by simp⟩
  · rename_i L hl
    have:=ticks_len R L (oths R)
    split
    · refine ⟨ti_i (out_i h (fun p hp => ?_) (by omega)) _,by show (R.out ++ _).length ≤ _; rw [List.length_append]; omega⟩
      obtain ⟨k,_,hk⟩:=List.mem_flatMap.1 hp
      exact tickP_msg h hl k p hk
    · exact ⟨ti_i h _,by simp⟩
structure RepT (n : Nat) (R R2 : Rep) : Prop where
  i : RepI R2
  o : R2.out.length ≤ R.out.length + n
  d : R2.done.length ≤ R.done.length + 1
  me : R2.me = R.me
  id : R2.id = R.id
  ti : R2.ti = R.ti
theorem RepT.refl {n : Nat} {R : Rep} (h : RepI R) : RepT n R R:=⟨h,Nat.le_add_right _ _,Nat.le_succ _,rfl,rfl,rfl⟩
theorem begin_i {R : Rep} (h : RepI R) {L : Lead} {o : Op} (hr : rtOp o = true) (ho : OpI o) (hn : R.nu < 2199023255552) (hout : R.out.length + (oths R).length ≤ 100000) (hd : R.done.length < 100000) : RepT (oths R).length R (beginR R L o):=by
  have hD:=do_i h hr ho.b hn
  obtain ⟨B,hB⟩ : ∃ B : Rep,B = { doR R o with ld:=some { L with acks:=fun _ => false,cur:=some o } }:=⟨_,rfl⟩
  have h1 : RepI B:=by
    subst hB
    exact ⟨⟨hD.ok.cl,hD.ok.cb,hD.ok.n0,hD.ok.n1,hD.ok.vl,hD.ok.ol,hD.ok.dl,fun o' ho' => by simp [curR] at ho'; subst ho'; exact hr⟩,hD.tx,hD.om,fun o' ho' => by simp [curR] at ho'; subst ho'; exact ho⟩
  have e : beginR R L o = finishR { B with out:=B.out ++ (oths R).map (handP B o) }:=by
    have e0 : oths B = oths R:=by subst hB; rfl
    have e9 : beginR R L o = finishR ((oths B).foldl (fun r k => handR r o k) B):=by subst hB; rfl
    rw [e9,hands_fold,e0]
  have e1 : B.out = R.out:=by subst hB; rfl
  have e2 : B.done = R.done:=by subst hB; rfl
  have e3 : B.me = R.me∧B.id = R.id∧B.ti = R.ti:=by subst hB; exact ⟨rfl,rfl,rfl⟩
  rw [e]
  have h2:=out_i h1 (ps:=(oths R).map (handP B o)) (fun p hp => by
    obtain ⟨k,_,rfl⟩:=List.mem_map.1 hp
    exact hand_msg ho k) (by rw [List.length_map,e1]; exact hout)
  obtain ⟨k1,k2,k3,k4,k5,k6,k7⟩:=finish_i h2 (by rw [e2]; exact hd)
  exact ⟨k1,by rw [k3]; show (B.out ++ _).length ≤ _; rw [List.length_append,List.length_map,e1]; exact Nat.le_refl _,by rw [← e2]; exact k2,k4.trans e3.1,k5.trans e3.2.1,k7.trans e3.2.2⟩
theorem start_i {R : Rep} (h : RepI R) {o : Op} (ho : OpI o) (hn : R.nu < 2199023255552) (hout : R.out.length + (oths R).length ≤ 100000) (hd : R.done.length < 100000) : RepT (oths R).length R (startR R o).2:=by
  unfold startR
  split
  · exact RepT.refl h
  · rename_i hr
    have hr : rtOp o = true:=by simpa using hr
    split
    · exact RepT.refl h
    · rename_i L hl
      split
      · exact RepT.refl h
      · split
        · exact RepT.refl h
        · split
          · rename_i e R1 hk
            split at hk
            · unfold knownR at hk
              split at hk
              · cases hk
                exact ⟨done_i h (by simp; omega),Nat.le_add_right _ _,by simp,rfl,rfl,rfl⟩
              · split at hk
                · cases hk; exact RepT.refl h
                · split at hk
                  · cases hk
                  · cases hk; exact RepT.refl h
            · cases hk
          · exact begin_i h hr ho hn hout hd
def ldR (R : Rep) (w : Vw) : Rep:={ yieldR R with v:=w,ep:=w.ve,ch:=R.ch || (R.ep != w.ve),ld:=some ⟨fun _ => false,fun _ => false,none⟩ }
theorem viewL_no {R : Rep} {w : Vw} (h : viewGo R w = false) : viewR R w = R:=if_pos h
theorem viewL_fol {R : Rep} {w : Vw} (h : viewGo R w = true) (h2 : leadGo R w = false) : viewR R w = { yieldR R with v:=w }:=by
  unfold viewR; rw [if_neg (by simp [h])]; dsimp only; rw [if_pos h2]
theorem viewL_lead {R : Rep} {w : Vw} (h : viewGo R w = true) (h2 : leadGo R w = true) : viewR R w = { ldR R w with out:=R.out ++ (othA R.me w.mem w.joi).map (stateP (ldR R w)) }:=by
  have e : viewR R w = (oths (ldR R w)).foldl stateR (ldR R w):=by
    unfold viewR; rw [if_neg (by simp [h])]; dsimp only; rw [if_neg (by simp [h2])]; rfl
  rw [e,states_fold]; rfl
theorem ldR_i {R : Rep} (h : RepI R) {w : Vw} (hw : w.mem.length + w.joi.length ≤ 1000) (hd : R.done.length < 100000) : RepI (ldR R w)∧(ldR R w).done.length ≤ R.done.length + 1:=by
  obtain ⟨k1,k2⟩:=yield_i h hd
  exact ⟨⟨⟨k1.ok.cl,k1.ok.cb,k1.ok.n0,k1.ok.n1,hw,k1.ok.ol,k1.ok.dl,fun o ho => by simp [ldR,curR] at ho⟩,k1.tx,k1.om,fun o ho => by simp [ldR,curR] at ho⟩,k2⟩
theorem view_i {R : Rep} (h : RepI R) {w : Vw} (hw : w.mem.length + w.joi.length ≤ 1000) (hout : R.out.length + (othA R.me w.mem w.joi).length ≤ 100000) (hd : R.done.length < 100000) : RepT (othA R.me w.mem w.joi).length R (viewR R w):=by
  cases hg : viewGo R w with
  | false => rw [viewL_no hg]; exact RepT.refl h
  | true =>
    obtain ⟨k1,k2⟩:=yield_i h hd
    cases hl : leadGo R w with
    | false =>
      rw [viewL_fol hg hl]
      exact ⟨⟨⟨k1.ok.cl,k1.ok.cb,k1.ok.n0,k1.ok.n1,hw,k1.ok.ol,k1.ok.dl,k1.ok.cr⟩,k1.tx,k1.om,k1.oc⟩,Nat.le_add_right _ _,k2,rfl,rfl,rfl⟩
    | true =>
      rw [viewL_lead hg hl]
      obtain ⟨q1,q2⟩:=ldR_i h hw hd
      have:=out_i q1 (ps:=(othA R.me w.mem w.joi).map (stateP (ldR R w))) (fun p hp => by
        obtain ⟨k,_,rfl⟩:=List.mem_map.1 hp
        exact state_msg q1 k) (by rw [List.length_map]; exact hout)
      refine ⟨this,?_,q2,rfl,rfl,rfl⟩
      show (R.out ++ _).length ≤ _
      rw [List.length_append,List.length_map]; exact Nat.le_refl _
theorem new_i (me id : Int) (bl : Bool) (ep : Int) {nu : Int} {c : List Int} {x : List L3} (h0 : 0 ≤ nu) (h1 : nu ≤ 2199023255552) (hc : c.length = 128) (hb : Byt c) (hx : OkX x) : RepI (newR me id bl ep nu c x) :=
  ⟨repOk_new me id bl ep x h0 h1 hc hb,hx,fun p hp => (by cases hp),fun o ho => by simp [newR,curR] at ho⟩
theorem z128_byt : Byt z128:=fun c hc => by
  have:=List.eq_of_mem_replicate hc
  omega
end Go.Proofs.Ytfcjngcnifdmnaa
set_option linter.unusedSimpArgs false
set_option linter.unusedVariables false
namespace Vc
open Go
def frzA : List (List FM)→List V→KB→(List V→KB→Prop)→Prop
  | _,[],kb,K => K [] kb
  | [],v :: vs,kb,K => K (v :: vs) kb
  | [] :: ms,v :: vs,kb,K => frzA ms vs kb (fun us kb' => K (v :: us) kb')
  | (a :: m) :: ms,.agg l :: vs,kb,K => frzC (a :: m) l kb (fun us kb' => frzA ms vs kb' (fun ws kb'' => K (.agg us :: ws) kb''))
  | (.sl s :: _) :: ms,v :: vs,kb,K => conv1 (.sl s) v kb (fun d kb' => frzA ms vs kb' (fun ws kb'' => K (.dat d :: ws) kb''))
  | (_ :: _) :: ms,v :: vs,kb,K => frzA ms vs kb (fun us kb' => K (numV v :: us) kb')
theorem frzA_ok : ∀ {ms : List (List FM)} {vs : List V} {kb : KB} {K : List V→KB→Prop},frzA ms vs kb K→∀ {σ : Sg} {E : EH} {W : World},Inv σ E kb W→∀ {xs : List Value},DenL σ E vs xs →
    ∃ E' kb' us,Step σ E kb W σ E' kb' W∧DenL σ E' us xs∧K us kb':=by
  intro ms
  induction ms with
  | nil =>
    intro vs kb K h σ E W hi xs hd
    cases vs with
    | nil => exact ⟨E,kb,[],Step.refl hi,hd,h⟩
    | cons v vs => exact ⟨E,kb,v :: vs,Step.refl hi,hd,h⟩
  | cons m ms ih =>
    intro vs kb K h σ E W hi xs hd
    cases vs with
    | nil =>
      have h : K [] kb:=by
        cases m with
        | nil => exact h
        | cons a m => cases a <;> exact h
      exact ⟨E,kb,[],Step.refl hi,hd,h⟩
    | cons v vs =>
      simp only [DenL] at hd
      obtain ⟨x,xs',rfl,h1,h2⟩:=hd
      have plain : ∀ w,Den σ E w x→frzA ms vs kb (fun us kb' => K (w :: us) kb')→∃ E' kb' us,Step σ E kb W σ E' kb' W∧DenL σ E' us (x :: xs')∧K us kb':=fun w hw h => by
        obtain ⟨E1,kb1,us,s1,d1,hK⟩:=ih h hi h2
        have:=Den.mono (τ:=[]) s1.le hw
        rw [List.append_nil] at this
        exact ⟨E1,kb1,w :: us,s1,.cons this d1,hK⟩
      have agg : ∀ a m l,v = .agg l→frzC (a :: m) l kb (fun us kb' => frzA ms vs kb' (fun ws kb'' => K (.agg us :: ws) kb''))→∃ E' kb' us,Step σ E kb W σ E' kb' W∧DenL σ E' us (x :: xs')∧K us kb':=fun a m l e hh => by
        subst e
        simp only [Den] at h1
        obtain ⟨cs,rfl,hl⟩:=h1
        obtain ⟨E1,kb1,us,s1,d1,hh⟩:=frzC_ok hh hi hl
        have h2':=DenL.mono (τ:=[]) s1.le h2
        rw [List.append_nil] at h2'
        obtain ⟨E2,kb2,ws,s2,d2,hK⟩:=ih hh s1.inv h2'
        have d1':=DenC.mono (τ:=[]) s2.le d1
        rw [List.append_nil] at d1'
        exact ⟨E2,kb2,.agg us :: ws,s1.trans s2,.cons (by simp only [Den]; exact ⟨cs,rfl,d1'⟩) d2,hK⟩
      have sli : ∀ s,conv1 (.sl s) v kb (fun d kb' => frzA ms vs kb' (fun ws kb'' => K (.dat d :: ws) kb''))→∃ E' kb' us,Step σ E kb W σ E' kb' W∧DenL σ E' us (x :: xs')∧K us kb':=fun s h => by
        obtain ⟨E1,kb1,d,s1,r1,h⟩:=conv1_ok h hi h1
        have h2':=DenL.mono (τ:=[]) s1.le h2
        rw [List.append_nil] at h2'
        obtain ⟨E2,kb2,ws,s2,d2,hK⟩:=ih h s1.inv h2'
        exact ⟨E2,kb2,.dat d :: ws,s1.trans s2,.cons (by simp only [Den]; exact r1.mono s2.le) d2,hK⟩
      cases m with
      | nil => simp only [frzA] at h; exact plain v h1 h
      | cons a m =>
        cases v <;> cases a <;> simp only [frzA] at h <;> first
          | exact agg _ _ _ rfl h
          | exact sli _ h
          | exact plain _ (numV_one h1) h
def frzO (ms : List (List FM)) (S : FSpec) : FSpec:=fun args kb K => frzA ms args kb (fun us kb' => specO S us kb' K)
theorem frzO_ok {P : Program} {f : FuncId} {S : FSpec} (hS : SpecOk P f S) (ms : List (List FM)) : SpecOk P f (frzO ms S):=fun args kb K h σ E W xs hi hd => by
  obtain ⟨E1,kb1,us,s1,d1,h⟩:=frzA_ok h hi hd
  refine (specO_ok hS h s1.inv d1).mono ?_
  rintro e W' ⟨v,r,σ',E',kb',rfl,hst,hden,hK⟩
  exact ⟨v,r,σ',E',kb',rfl,s1.trans hst,hden,hK⟩
theorem denL_num {σ : Sg} {E : EH} : ∀ {vs : List V} {xs : List Value},DenL σ E vs xs→DenL σ E (vs.map numV) xs
  | [],_,h => h
  | v :: vs,_,h => by
    simp only [DenL] at h
    obtain ⟨x,xs',rfl,h1,h2⟩:=h
    exact .cons (numV_one h1) (denL_num h2)
def nmIn (S : FSpec) : FSpec:=fun args kb K => S (args.map numV) kb K
theorem nmIn_ok {P : Program} {f : FuncId} {S : FSpec} (hS : SpecOk P f S) : SpecOk P f (nmIn S):=fun args kb K h σ E W xs hi hd => hS _ kb K h σ E W xs hi (denL_num hd)
end Vc
namespace Go.Proofs.Ytfcjngcnifdmnaa
open Vc Go
set_option linter.unusedVariables false
set_option linter.unusedSimpArgs false
set_option maxRecDepth 100000
structure Pool (A : List (Sg × KB)) (l : List (Nat × Rep)) : Prop where
  len : A.length = l.length
  h : ∀ (i : Nat) (p : Nat × Rep),l[i]? = some p→∃ a : Sg × KB,A[i]? = some a∧rootIs a.1 p.1∧RepKB p.2 a.2
abbrev PK:=V→Rep→Prop
def PM (g : List V→Rep→PK→Prop) : FSpec:=fun args kb K => match args,kb with
  | v :: rest,[.objs A] => ∃ l i b R,Pool A l∧l[i]? = some (b,R)∧IsV v (pv b)∧g rest R (fun r R' => ∀ A',Pool A' (l.set i (b,R'))→K r [.objs A'])
  | _,_ => False
abbrev opV (o : Op) : V:=.agg [.int .i64 o.cl,.int .i64 o.nm,.int .i64 o.kd,.int .i64 o.bk,.dat (.sl 1 (ints .u8 o.b))]
abbrev vwV (w : Vw) : V:=.agg [.int .i64 w.vi,.int .i64 w.vv,.int .i64 w.ve,.dat (.sl 1 (ints .i64 w.mem)),.dat (.sl 1 (ints .i64 w.joi))]
abbrev msV (m : Msg) : V:=.agg [.int .i64 m.kd,.dat (.sl 1 (ints .i64 m.n)),.dat (.sl 1 (ints .u8 m.b)),.dat (.sl 1 (lsD m.l))]
structure InP (kb : KB) (A : List (Sg × KB)) : Prop where
  h : kb = []∧A = []∨kb = [.objs A]
structure NoA (l : List V) : Prop where
  h : l = []
def GView : List V→Rep→PK→Prop:=fun rest R k => ∃ w,rest = [vwV w]∧RepI R∧w.mem.length + w.joi.length ≤ 1000∧R.out.length + (othA R.me w.mem w.joi).length ≤ 100000∧k (.tup []) (viewR R w)
def GStart : List V→Rep→PK→Prop:=fun rest R k => ∃ o,rest = [opV o]∧RepI R∧R.out.length + (oths R).length ≤ 100000∧Byt o.b∧o.b.length ≤ 100000∧k (.int .i64 (startR R o).1) (startR R o).2
def GHandle : List V→Rep→PK→Prop:=fun rest R k => ∃ fr m,rest = [.int .i64 fr,msV m]∧RepI R∧MsgOk m∧k (.tup []) (handleR R fr m)
def GTick : List V→Rep→PK→Prop:=fun rest R k => NoA rest∧RepI R∧0 ≤ R.ti∧R.ti ≤ 2199023255552∧R.out.length + (oths R).length ≤ 100000∧k (.tup []) (tickR R)
def GOut : List V→Rep→PK→Prop:=fun rest R k => NoA rest∧RepI R∧k (.dat (.sl 5 (R.out.map postD))) { R with out:=[] }
def GDone : List V→Rep→PK→Prop:=fun rest R k => NoA rest∧RepI R∧k (.dat (.sl 7 (R.done.map dnD))) { R with done:=[] }
def GChanged : List V→Rep→PK→Prop:=fun rest R k => NoA rest∧RepI R∧k (.sb R.ch) { R with ch:=false }
def GEpoch : List V→Rep→PK→Prop:=fun rest R k => NoA rest∧RepI R∧k (.tup [.int .i64 R.ep,.int .i64 R.nu]) R
def GSum : List V→Rep→PK→Prop:=fun rest R k => NoA rest∧RepI R∧k (.int .u32 (crcI R.c)) R
def GLeads : List V→Rep→PK→Prop:=fun rest R k => NoA rest∧RepI R∧k (.tup [.sb (leadsR R),.sb (readyR R),.sb (busyR R)]) R
def GBytes : List V→Rep→PK→Prop:=fun rest R k => NoA rest∧RepI R∧LeM R.ep∧k (.dat (.sl 1 (ints .u8 (bytesR R)))) R
def PNew : FSpec:=fun args kb K => match args with
  | [.int .i64 me,.int .i64 id,.sb bl] => ∃ A l,InP kb A∧Pool A l∧∀ b A',Pool A' (l ++ [(b,newR me id bl 0 0 z128 [])])→K (.any (pv b)) [.objs A']
  | _ => False
def PLoad : FSpec:=fun args kb K => match args with
  | [.int .i64 me,.int .i64 id,.dat (.sl 1 B)] => ∃ A l t,InP kb A∧Pool A l∧B = ints .u8 t∧Byt t∧t.length ≤ 900000 ∧
      ((¬ ∃ ep nu c x,IsRep t ep nu c x)→K (.tup [.any (.pointer none),.sb false]) kb) ∧
      ∀ ep nu c x,IsRep t ep nu c x→∀ b A',Pool A' (l ++ [(b,newR me id false ep nu c x)])→K (.tup [.any (pv b),.sb true]) [.objs A']
  | _ => False
def valI (n : Int) : List Int:=IntKind.u8.wrap n :: (List.replicate 14 0 ++ [if n > 0 then 7 else 0])
def SValue : FSpec:=fun args kb K => match args,kb with
  | [.int .i64 n],[] => K (.dat (.sl 1 (ints .u8 (valI n)))) []
  | _,_ => False
theorem vcValue (n : Int) (K : V→KB→Prop) (hvc_ :
 NonN 16 ∧
 Room 16 16 1 ∧
 InB 0 16 ∧
 0 < 16 ∧
 (decide (n > 0) = true →
 InB 15 16 ∧
 15 < 16 ∧
 16 ≤ 16 ∧
 K (V.dat (D.sl 1 [[D.val (Value.int IntKind.u8 (IntKind.u8.wrap n))],[D.val (Value.int IntKind.u8 0)],[D.val (Value.int IntKind.u8 0)],[D.val (Value.int IntKind.u8 0)],[D.val (Value.int IntKind.u8 0)],[D.val (Value.int IntKind.u8 0)],[D.val (Value.int IntKind.u8 0)],[D.val (Value.int IntKind.u8 0)],[D.val (Value.int IntKind.u8 0)],[D.val (Value.int IntKind.u8 0)],[D.val (Value.int IntKind.u8 0)],[D.val (Value.int IntKind.u8 0)],[D.val (Value.int IntKind.u8 0)],[D.val (Value.int IntKind.u8 0)],[D.val (Value.int IntKind.u8 0)],[D.val (Value.int IntKind.u8 7)]])) []) ∧
 (decide (n > 0) = false →
 16 ≤ 16 ∧
 K (V.dat (D.sl 1 [[D.val (Value.int IntKind.u8 (IntKind.u8.wrap n))],[D.val (Value.int IntKind.u8 0)],[D.val (Value.int IntKind.u8 0)],[D.val (Value.int IntKind.u8 0)],[D.val (Value.int IntKind.u8 0)],[D.val (Value.int IntKind.u8 0)],[D.val (Value.int IntKind.u8 0)],[D.val (Value.int IntKind.u8 0)],[D.val (Value.int IntKind.u8 0)],[D.val (Value.int IntKind.u8 0)],[D.val (Value.int IntKind.u8 0)],[D.val (Value.int IntKind.u8 0)],[D.val (Value.int IntKind.u8 0)],[D.val (Value.int IntKind.u8 0)],[D.val (Value.int IntKind.u8 0)],[D.val (Value.int IntKind.u8 0)]])) [])
 ) : runSpec Try.prog X0 (noT 12) 12 [.int .i64 n] [] (gvRes [.give 1] (tidyRes 0 K)):=by apply Eq.mp (a:=hvc_); kernel_rfl
theorem pool_nil : Pool [] []:=⟨rfl,fun i p h => by simp at h⟩
theorem Pool.set {A : List (Sg × KB)} {l : List (Nat × Rep)} (h : Pool A l) {i b : Nat} {R : Rep} (hi : i < l.length) {τ : Sg} {kb : KB} (ht : rootIs τ b) (hk : RepKB R kb) : Pool (A.set i (τ,kb)) (l.set i (b,R)):=by
  refine ⟨by simp [h.len],fun j p hj => ?_⟩
  by_cases e : i = j
  · subst e
    rw [List.getElem?_set_self hi] at hj
    cases hj
    exact ⟨(τ,kb),List.getElem?_set_self (by rw [h.len]; exact hi),ht,hk⟩
  · rw [List.getElem?_set_ne e] at hj
    obtain ⟨a,h1,h2⟩:=h.h j p hj
    exact ⟨a,by rw [List.getElem?_set_ne e]; exact h1,h2⟩
theorem Pool.add {A : List (Sg × KB)} {l : List (Nat × Rep)} (h : Pool A l) {b : Nat} {R : Rep} {τ : Sg} {kb : KB} (ht : rootIs τ b) (hk : RepKB R kb) : Pool (A ++ [(τ,kb)]) (l ++ [(b,R)]):=by
  refine ⟨by simp [h.len],fun j p hj => ?_⟩
  rcases Nat.lt_trichotomy j l.length with hm | hm | hm
  · rw [List.getElem?_append_left hm] at hj
    obtain ⟨a,h1,h2⟩:=h.h j p hj
    exact ⟨a,by rw [List.getElem?_append_left (by rw [h.len]; exact hm)]; exact h1,h2⟩
  · subst hm
    rw [List.getElem?_append_right (Nat.le_refl _)] at hj
    simp at hj; subst hj
    exact ⟨(τ,kb),by rw [List.getElem?_append_right (by rw [h.len]; exact Nat.le_refl _)]; simp [h.len],ht,hk⟩
  · rw [List.getElem?_eq_none (by simp; omega)] at hj; cases hj
theorem pm_ok {f : FuncId} {M : FSpec} {g : List V→Rep→PK→Prop} (hM : MethOk Try.prog f M) (hg : ∀ rest R k,g rest R k→V.rens (fun _ => none) rest = some rest∧∀ kb K,RepKB R kb→(∀ r R' kb',k r R'→RepKB R' kb'→K r kb')→M (.ptr 0 0 :: rest) kb K) : SpecOk Try.prog f (PM g):=fun args kb K h => meth_ok hM args kb K (by
  unfold PM at h
  split at h <;> try exact h.elim
  rename_i v rest A
  obtain ⟨l,i,b,R,hP,hi,hv,hG⟩:=h
  obtain ⟨a,h1,h2,h3⟩:=hP.h i _ hi
  obtain ⟨h4,h5⟩:=hg _ _ _ hG
  refine ⟨i,a,b,rest,h1,h2,hv,h4,h5 _ _ h3 fun r R' kb' hr hkb τ hτ => hr _ (hP.set ?_ hτ hkb)⟩
  exact (List.getElem?_eq_some_iff.1 hi).1)
theorem okPView : SpecOk Try.prog 8 (PM GView):=pm_ok okView fun rest R k ⟨w,e,h1,h2,h3,h4⟩ => by
  subst e
  exact ⟨rfl,fun kb K hkb hK => ⟨R,w,rfl,hkb,h1.ok,h2,h3,fun kb' h => hK _ _ _ h4 h⟩⟩
theorem okPStart : SpecOk Try.prog 11 (PM GStart):=pm_ok okStart fun rest R k ⟨o,e,h1,h2,h3,h5,h4⟩ => by
  subst e
  exact ⟨rfl,fun kb K hkb hK => ⟨R,o,rfl,hkb,h1.ok,h2,h3,h5,fun kb' h => hK _ _ _ h4 h⟩⟩
theorem okPHandle : SpecOk Try.prog 16 (PM GHandle):=pm_ok okHandle fun rest R k ⟨fr,m,e,h1,h2,h4⟩ => by
  subst e
  exact ⟨rfl,fun kb K hkb hK => ⟨R,fr,m,rfl,hkb,h1.ok,h2,fun kb' h => hK _ _ _ h4 h⟩⟩
theorem okPTick : SpecOk Try.prog 17 (PM GTick):=pm_ok okTick fun rest R k ⟨⟨e⟩,h1,h2,h3,h5,h4⟩ => by
  subst e
  exact ⟨rfl,fun kb K hkb hK => ⟨R,rfl,hkb,h1.ok,h2,h3,h5,fun kb' h => hK _ _ _ h4 h⟩⟩
theorem okPOut : SpecOk Try.prog 26 (PM GOut):=pm_ok okOutM fun rest R k ⟨⟨e⟩,h1,h4⟩ => by
  subst e
  exact ⟨rfl,fun kb K hkb hK => ⟨R,rfl,hkb,h1.ok,fun kb' h => hK _ _ _ h4 h⟩⟩
theorem okPDone : SpecOk Try.prog 14 (PM GDone):=pm_ok okDoneM fun rest R k ⟨⟨e⟩,h1,h4⟩ => by
  subst e
  exact ⟨rfl,fun kb K hkb hK => ⟨R,rfl,hkb,h1.ok,fun kb' h => hK _ _ _ h4 h⟩⟩
theorem okPChanged : SpecOk Try.prog 20 (PM GChanged):=pm_ok okChangedM fun rest R k ⟨⟨e⟩,h1,h4⟩ => by
  subst e
  exact ⟨rfl,fun kb K hkb hK => ⟨R,rfl,hkb,h1.ok,fun kb' h => hK _ _ _ h4 h⟩⟩
theorem okPEpoch : SpecOk Try.prog 15 (PM GEpoch):=pm_ok okEpochM fun rest R k ⟨⟨e⟩,h1,h4⟩ => by
  subst e
  exact ⟨rfl,fun kb K hkb hK => ⟨R,rfl,hkb,h1.ok,fun kb' h => hK _ _ _ h4 h⟩⟩
theorem okPSum : SpecOk Try.prog 13 (PM GSum):=pm_ok okSumM fun rest R k ⟨⟨e⟩,h1,h4⟩ => by
  subst e
  exact ⟨rfl,fun kb K hkb hK => ⟨R,rfl,hkb,h1.ok,fun kb' h => hK _ _ _ h4 h⟩⟩
theorem okPLeads : SpecOk Try.prog 9 (PM GLeads):=pm_ok okLeadsM fun rest R k ⟨⟨e⟩,h1,h4⟩ => by
  subst e
  exact ⟨rfl,fun kb K hkb hK => ⟨R,rfl,hkb,h1.ok,fun kb' h => hK _ _ _ h4 h⟩⟩
theorem okPBytes : SpecOk Try.prog 19 (PM GBytes):=pm_ok okBytesM fun rest R k ⟨⟨e⟩,h1,h2,h4⟩ => by
  subst e
  exact ⟨rfl,fun kb K hkb hK => ⟨R,rfl,hkb,h1.ok,h2,fun kb' h => hK _ _ _ h4 h⟩⟩
theorem okPNew : SpecOk Try.prog 7 PNew:=fun args kb K h => boxS_ok okNew args kb K (by
  unfold PNew at h
  split at h <;> try exact h.elim
  rename_i me id bl
  obtain ⟨A,l,hkb,hP,hK⟩:=h
  refine ⟨A,_,hkb.h,rfl,?_⟩
  show (_ : Prop)
  refine ⟨by rfl,fun b τ hτ => ?_⟩
  exact hK b _ (hP.add hτ (rep_new _ _ _ _ _ _ tab_nil)))
theorem okPLoad : SpecOk Try.prog 18 PLoad:=fun args kb K h => boxS_ok okRLoad args kb K (by
  unfold PLoad at h
  split at h <;> try exact h.elim
  rename_i me id B
  obtain ⟨A,l,t,hkb,hP,rfl,hb,hl,h0,h1⟩:=h
  refine ⟨A,_,hkb.h,rfl,t,rfl,hb,hl,fun hn => h0 hn,fun ep nu c x M hr hT => ?_⟩
  refine ⟨by rfl,fun b τ hτ => ?_⟩
  exact h1 _ _ _ _ hr b _ (hP.add hτ (rep_new _ _ _ _ _ _ hT)))
theorem valI_len (n : Int) : (valI n).length = 16:=by simp [valI]
theorem valI_byt (n : Int) : Byt (valI n):=fun c hc => by
  unfold valI at hc
  simp only [List.mem_cons,List.mem_append,List.mem_replicate,List.mem_singleton,List.not_mem_nil,or_false] at hc
  rcases hc with rfl | ⟨_,rfl⟩ | hc
  · rw [IntKind.wrap_u8]; omega
  · omega
  · subst hc; split <;> omega
theorem okValue : SpecOk Try.prog 12 SValue:=fun args kb K h => gvTidy_ok (specOk_of' X0_ok mixed (S:=fun a k K0 => ∃ T,runSpec Try.prog X0 T 12 a k K0) fun _ _ _ h => h) [.give 1] args kb K (by
  unfold SValue at h; split at h <;> try exact h.elim
  rename_i n
  refine ⟨_,vcValue n K ⟨by unfold NonN; omega,⟨by omega,by omega,by omega⟩,⟨by omega,by omega⟩,by omega,fun h1 => ⟨⟨by omega,by omega⟩,by omega,by omega,?_⟩,fun h1 => ⟨by omega,?_⟩⟩⟩
  · have h1 : n > 0:=by simpa using h1
    unfold valI at h; rw [if_pos h1] at h; exact h
  · have h1 : ¬ n > 0:=by simpa using h1
    unfold valI at h; rw [if_neg h1] at h; exact h)
def rpS : FuncId→Option Known
  | 7 => some ⟨[.pool],frzO [[.num],[.num]] (sbIn PNew)⟩
  | 12 => some ⟨[],nmIn SValue⟩
  | 8 => some ⟨[.pool],frzO [[],[.num,.num,.num,.sl 1,.sl 1]] (PM GView)⟩
  | 11 => some ⟨[.pool],frzO [[],[.num,.num,.num,.num,.sl 1]] (PM GStart)⟩
  | 16 => some ⟨[.pool],frzO [[],[.num]] (PM GHandle)⟩
  | 26 => some ⟨[.pool],PM GOut⟩
  | 14 => some ⟨[.pool],PM GDone⟩
  | 15 => some ⟨[.pool],PM GEpoch⟩
  | 13 => some ⟨[.pool],PM GSum⟩
  | 9 => some ⟨[.pool],PM GLeads⟩
  | 20 => some ⟨[.pool],PM GChanged⟩
  | 19 => some ⟨[.pool],PM GBytes⟩
  | 17 => some ⟨[.pool],PM GTick⟩
  | 18 => some ⟨[.pool],frzO [[.num],[.num]] PLoad⟩
  | _ => none
theorem rpS_ok : AllOk Try.prog rpS:=fun f k h => by
  unfold rpS at h
  split at h
  · cases h; exact frzO_ok (sbIn_ok okPNew) _
  · cases h; exact nmIn_ok okValue
  · cases h; exact frzO_ok okPView _
  · cases h; exact frzO_ok okPStart _
  · cases h; exact frzO_ok okPHandle _
  · cases h; exact okPOut
  · cases h; exact okPDone
  · cases h; exact okPEpoch
  · cases h; exact okPSum
  · cases h; exact okPLeads
  · cases h; exact okPChanged
  · cases h; exact okPBytes
  · cases h; exact okPTick
  · cases h; exact frzO_ok okPLoad _
  · cases h
noncomputable def XRp : CallT:=callS Try.prog rpS noT 10
theorem XRp_ok : CallOk Try.prog XRp:=callS_ok mixed rpS_ok noT 10
end Go.Proofs.Ytfcjngcnifdmnaa
namespace Go.Proofs.Ytfcjngcnifdmnaa
open Vc Go
set_option linter.unusedVariables false
set_option linter.unusedSimpArgs false
set_option maxRecDepth 100000
theorem vcAwake (n0_ : Nat) (K : V→KB→Prop) (hvc_ :
 ∃ (A : List (Sg × KB)),∃ (l : List (Nat × Rep)),InP [] A ∧
 Pool A l ∧
 ∀ (b : Nat) (A' : List (Sg × KB)),Pool A' (l ++ [(b,newR 3 1 false 0 0 z128 [])]) →
 (false = true →
 K (V.sb false) [KO.objs A']) ∧
 (false = false →
 1 ≤ 1 ∧
 ∃ (l : List (Nat × Rep)),∃ (i : Nat),∃ (b_1 : Nat),∃ (R : Rep),Pool A' l ∧
 l[i]? = some (b_1,R) ∧
 pv b = pv b_1 ∧
 ∃ (w : Vw),[V.agg [V.int IntKind.i64 1,V.int IntKind.i64 0,V.int IntKind.i64 1,V.dat (D.sl 1 [[D.val (Value.int IntKind.i64 3)]]),V.dat (D.sl 1 [])]] = [vwV w] ∧
 RepI R ∧
 w.mem.length + w.joi.length ≤ 1000 ∧
 R.out.length + (othA R.me w.mem w.joi).length ≤ 100000 ∧
 ∀ (A' : List (Sg × KB)),Pool A' (l.set i (b_1,viewR R w)) →
 ∃ (l : List (Nat × Rep)),∃ (i : Nat),∃ (b_2 : Nat),∃ (R : Rep),Pool A' l ∧
 l[i]? = some (b_2,R) ∧
 pv b = pv b_2 ∧
 ∃ (o : Op),[V.agg [V.int IntKind.i64 1,V.int IntKind.i64 1,V.int IntKind.i64 1,V.int IntKind.i64 2,V.dat (D.sl 1 [[D.val (Value.int IntKind.u8 9)],[D.val (Value.int IntKind.u8 0)],[D.val (Value.int IntKind.u8 0)],[D.val (Value.int IntKind.u8 0)],[D.val (Value.int IntKind.u8 0)],[D.val (Value.int IntKind.u8 0)],[D.val (Value.int IntKind.u8 0)],[D.val (Value.int IntKind.u8 0)],[D.val (Value.int IntKind.u8 0)],[D.val (Value.int IntKind.u8 0)],[D.val (Value.int IntKind.u8 0)],[D.val (Value.int IntKind.u8 0)],[D.val (Value.int IntKind.u8 0)],[D.val (Value.int IntKind.u8 0)],[D.val (Value.int IntKind.u8 0)],[D.val (Value.int IntKind.u8 7)]])]] = [opV o] ∧
 RepI R ∧
 R.out.length + (oths R).length ≤ 100000 ∧
 (∀ (c : Int),List.Mem c o.b →
 0 ≤ c ∧
 c < 256) ∧
 o.b.length ≤ 100000 ∧
 ∀ (A' : List (Sg × KB)),Pool A' (l.set i (b_2,(startR R o).snd)) →
 ∃ (l : List (Nat × Rep)),∃ (i : Nat),∃ (b_3 : Nat),∃ (R_1 : Rep),Pool A' l ∧
 l[i]? = some (b_3,R_1) ∧
 pv b = pv b_3 ∧
 NoA [] ∧
 RepI R_1 ∧
 ∀ (A' : List (Sg × KB)),Pool A' (l.set i (b_3,{ me:=R_1.me,id:=R_1.id,ep:=R_1.ep,nu:=R_1.nu,ce:=R_1.ce,ti:=R_1.ti,bl:=R_1.bl,lo:=R_1.lo,ch:=R_1.ch,c:=R_1.c,t:=R_1.t,v:=R_1.v,ld:=R_1.ld,out:=R_1.out,done:=[] })) →
 ∃ (l : List (Nat × Rep)),∃ (i : Nat),∃ (b_4 : Nat),∃ (R_2 : Rep),Pool A' l ∧
 l[i]? = some (b_4,R_2) ∧
 pv b = pv b_4 ∧
 NoA [] ∧
 RepI R_2 ∧
 ∀ (A' : List (Sg × KB)),Pool A' (l.set i (b_4,R_2)) →
 (((startR R o).fst == 0) = true →
 (((↑(List.map dnD R_1.done).length : Int) == 1) = true →
 NonN 0 ∧
 ∃ (e : List D),(List.map dnD R_1.done)[0]? = some e ∧
 ∃ (n : Int),e[5]? = some (D.val (Value.int IntKind.i64 n)) ∧
 ((n == 0) = true →
 ((R_2.ep == 1) = true →
 ((R_2.nu == 1) = true →
 ∃ (l : List (Nat × Rep)),∃ (i : Nat),∃ (b_5 : Nat),∃ (R : Rep),Pool A' l ∧
 l[i]? = some (b_5,R) ∧
 pv b = pv b_5 ∧
 NoA [] ∧
 RepI R ∧
 ∀ (A' : List (Sg × KB)),Pool A' (l.set i (b_5,{ me:=R.me,id:=R.id,ep:=R.ep,nu:=R.nu,ce:=R.ce,ti:=R.ti,bl:=R.bl,lo:=R.lo,ch:=false,c:=R.c,t:=R.t,v:=R.v,ld:=R.ld,out:=R.out,done:=R.done })) →
 K (V.sb R.ch) [KO.objs A']) ∧
 ((R_2.nu == 1) = false →
 K (V.sb false) [KO.objs A'])) ∧
 ((R_2.ep == 1) = false →
 K (V.sb false) [KO.objs A'])) ∧
 ((n == 0) = false →
 K (V.sb false) [KO.objs A'])) ∧
 (((↑(List.map dnD R_1.done).length : Int) == 1) = false →
 K (V.sb false) [KO.objs A'])) ∧
 (((startR R o).fst == 0) = false →
 K (V.sb false) [KO.objs A']))
 ) : runSpec Try.prog XRp (noT 6) 6 [] [] K:=by apply Eq.mp (a:=hvc_); kernel_rfl
def awR0 : Rep:=newR 3 1 false 0 0 z128 []
def awW : Vw:=⟨1,0,1,[3],[]⟩
def awR1 : Rep:=viewR awR0 awW
def awO : Op:=⟨1,1,1,2,valI 9⟩
def awR2 : Rep:=(startR awR1 awO).2
theorem aw0_i : RepI awR0:=new_i 3 1 false 0 (by omega) (by omega) rfl z128_byt okX_nil
theorem aw1_i : RepI awR1:=(view_i (w:=awW) aw0_i (by decide) (by decide) (by decide)).i
theorem aw1_o : (oths awR1).length = 0:=by kernel_rfl
theorem aw1_out : awR1.out.length = 0:=by kernel_rfl
theorem aw1_done : awR1.done.length = 0:=by kernel_rfl
theorem aw1_nu : awR1.nu = 0:=by kernel_rfl
theorem aw2_i : RepI awR2:=(start_i (o:=awO) aw1_i ⟨valI_byt 9,by show (valI 9).length ≤ _; rw [valI_len]; omega⟩ (by rw [aw1_nu]; omega) (by rw [aw1_o,aw1_out]; omega) (by rw [aw1_done]; omega)).i
theorem aw2_e : (startR awR1 awO).1 = 0:=by kernel_rfl
theorem aw2_d : awR2.done = [⟨awO,0,[]⟩]:=by kernel_rfl
theorem aw2_ep : awR2.ep = 1:=by kernel_rfl
theorem aw2_nu : awR2.nu = 1:=by kernel_rfl
theorem aw2_ch : awR2.ch = true:=by kernel_rfl
def SawakeR : FSpec:=fun args kb K => match args,kb with
  | [],[] => ∀ A,K (.sb true) [.objs A]
  | _,_ => False
def Sawake : FSpec:=fun args kb K => match args,kb with
  | [],[] => K (.sb true) []
  | [],[.objs A] => K (.sb true) [.objs A]
  | _,_ => False
theorem okAwakeR : SpecOk Try.prog 6 SawakeR:=specOk_of' XRp_ok mixed (fun args kb K h => by
  unfold SawakeR at h; split at h <;> try exact h.elim
  refine ⟨_,vcAwake 0 K ⟨[],[],⟨.inl ⟨rfl,rfl⟩⟩,pool_nil,fun b A1 p1 => ⟨fun q => (by cases q),fun _ => ⟨Nat.le_refl _,[(b,awR0)],0,b,awR0,p1,rfl,rfl,awW,rfl,aw0_i,by decide,by decide,fun A2 p2 => ?_⟩⟩⟩⟩
  refine ⟨[(b,awR1)],0,b,awR1,p2,rfl,rfl,awO,rfl,aw1_i,by rw [aw1_o,aw1_out]; omega,valI_byt 9,by show (valI 9).length ≤ _; rw [valI_len]; omega,fun A3 p3 => ?_⟩
  refine ⟨[(b,awR2)],0,b,awR2,p3,rfl,rfl,⟨rfl⟩,aw2_i,fun A4 p4 => ?_⟩
  refine ⟨[(b,{ awR2 with done:=[] })],0,b,_,p4,rfl,rfl,⟨rfl⟩,done0_i aw2_i,fun A5 p5 => ⟨fun _ => ⟨fun _ => ?_,fun q => ?_⟩,fun q => ?_⟩⟩
  · refine ⟨by unfold NonN; omega,dnD ⟨awO,0,[]⟩,by rw [aw2_d]; rfl,0,rfl,fun _ => ⟨fun _ => ⟨fun _ => ?_,fun q => ?_⟩,fun q => ?_⟩,fun q => (by cases q)⟩
    · refine ⟨[(b,{ awR2 with done:=[] })],0,b,_,p5,rfl,rfl,⟨rfl⟩,done0_i aw2_i,fun A6 p6 => ?_⟩
      show K (.sb awR2.ch) [.objs A6]
      rw [aw2_ch]; exact h A6
    · have q : (awR2.nu == 1) = false:=q
      rw [aw2_nu] at q; cases q
    · have q : (awR2.ep == 1) = false:=q
      rw [aw2_ep] at q; cases q
  · rw [aw2_d] at q; cases q
  · have q : ((startR awR1 awO).1 == 0) = false:=q
    rw [aw2_e] at q; cases q)
theorem okAwake : SpecOk Try.prog 6 Sawake:=fun args kb K h => boxS_ok okAwakeR args kb K (by
  unfold Sawake at h
  split at h <;> try exact h.elim
  · exact ⟨[],[],.inl ⟨rfl,rfl⟩,rfl,fun A => h⟩
  · exact ⟨_,[],.inr rfl,rfl,fun A => h⟩)
end Go.Proofs.Ytfcjngcnifdmnaa
namespace Go.Proofs.Ytfcjngcnifdmnaa
open Vc Go
set_option linter.unusedVariables false
set_option linter.unusedSimpArgs false
set_option maxRecDepth 100000
noncomputable def dlvR (fr : Int) (l : List Post) (R : Rep) : Rep:=l.foldl (fun r p => handleR r fr p.m) R
def noO (R : Rep) : Rep:={ R with out:=[] }
structure RR where
  a : Rep
  b : Rep
noncomputable def boS (p : RR) : RR:=⟨dlvR 1 (dlvR 0 p.a.out p.b).out (noO p.a),noO (dlvR 0 p.a.out p.b)⟩
noncomputable def boN : Nat→RR→RR
  | 0,p => p
  | n + 1,p => boS (boN n p)
structure RB where
  l : List (Nat × Rep)
  i : Nat
  j : Nat
  ba : Nat
  bb : Nat
def set2 (B : RB) (Ra Rb : Rep) : List (Nat × Rep):=(B.l.set B.i (B.ba,Ra)).set B.j (B.bb,Rb)
structure BoP where
  k : Nat
  A : List (Sg × KB)
structure BoI (n : Nat) (q : BoP) (l : List (Nat × Rep)) : Prop where
  le : q.k ≤ n
  p : Pool q.A l
noncomputable abbrev bo2LI (B : RB) (n : Nat) (a b : Rep) : LI where
  α:={q : BoP // BoI a.out.length q (set2 B (noO a) (dlvR 0 (a.out.take q.k) b))}
  live:=[0,1,4,5,6]
  st q:=([.any (pv B.ba),.any (pv B.bb),.int .i64 (n : Int),.dat (.sl 5 (a.out.map postD)),.int .i64 (q.1.k : Int)],[.objs q.1.A])
  μ q:=a.out.length - q.1.k
noncomputable abbrev bo3LI (B : RB) (n : Nat) (a b : Rep) : LI where
  α:={q : BoP // BoI b.out.length q (set2 B (dlvR 1 (b.out.take q.k) a) (noO b))}
  live:=[0,1,4,7,8]
  st q:=([.any (pv B.ba),.any (pv B.bb),.int .i64 (n : Int),.dat (.sl 5 (b.out.map postD)),.int .i64 (q.1.k : Int)],[.objs q.1.A])
  μ q:=b.out.length - q.1.k
noncomputable def boT2 (B : RB) (n : Nat) (p : RR) : Nat→Option LI
  | 5 => some (bo2LI B n p.a p.b)
  | 10 => some (bo3LI B n (noO p.a) (dlvR 0 p.a.out p.b))
  | _ => none
noncomputable abbrev bo1LI (B : RB) (p : RR) : LI where
  α:={q : BoP // BoI 20 q (set2 B (boN q.k p).a (boN q.k p).b)}
  live:=[0,1,4]
  st q:=([.any (pv B.ba),.any (pv B.bb),.int .i64 (q.1.k : Int)],[.objs q.1.A])
  μ q:=20 - q.1.k
  sub q:=boT2 B q.1.k (boN q.1.k p)
noncomputable def boT (B : RB) (p : RR) : Nat→Option LI
  | 1 => some (bo1LI B p)
  | _ => none
theorem vcBoth (B : RB) (p : RR) (A : List (Sg × KB)) (K : V→KB→Prop) (hvc_ :
 At (bo1LI B p) ([V.any (pv B.ba),V.any (pv B.bb),V.int IntKind.i64 0],[KO.objs A]) ∧
 ∀ (i : { q : BoP // BoI 20 q (set2 B (boN q.k p).a (boN q.k p).b) }),(decide ((↑i.val.k : Int) < 20) = true →
 ∃ (l : List (Nat × Rep)),∃ (i_1 : Nat),∃ (b : Nat),∃ (R : Rep),Pool i.val.A l ∧
 l[i_1]? = some (b,R) ∧
 pv B.ba = pv b ∧
 NoA [] ∧
 RepI R ∧
 ∀ (A' : List (Sg × KB)),Pool A' (l.set i_1 (b,{ me:=R.me,id:=R.id,ep:=R.ep,nu:=R.nu,ce:=R.ce,ti:=R.ti,bl:=R.bl,lo:=R.lo,ch:=R.ch,c:=R.c,t:=R.t,v:=R.v,ld:=R.ld,out:=[],done:=R.done })) →
 At (bo2LI B i.val.k (boN i.val.k p).a (boN i.val.k p).b) ([V.any (pv B.ba),V.any (pv B.bb),V.int IntKind.i64 (↑i.val.k : Int),V.dat (D.sl 5 (List.map postD R.out)),V.int IntKind.i64 0],[KO.objs A']) ∧
 ∀ (i_2 : { q : BoP // BoI (boN i.val.k p).a.out.length q (set2 B (noO (boN i.val.k p).a) (dlvR 0 (List.take q.k (boN i.val.k p).a.out) (boN i.val.k p).b)) }),(decide ((↑i_2.val.k : Int) < (↑(List.map postD (boN i.val.k p).a.out).length : Int)) = true →
 NonN (↑i_2.val.k : Int) ∧
 ∃ (e : List D),(List.map postD (boN i.val.k p).a.out)[(↑i_2.val.k : Int).toNat]? = some e ∧
 ∃ (n : Int),e[1]? = some (D.val (Value.int IntKind.i64 n)) ∧
 ∃ (l : List (List D)),e[2]? = some (D.sl 1 l) ∧
 ∃ (l_1 : List (List D)),e[3]? = some (D.sl 1 l_1) ∧
 ∃ (l_2 : List (List D)),e[4]? = some (D.sl 1 l_2) ∧
 ∃ (l_3 : List (Nat × Rep)),∃ (i_3 : Nat),∃ (b : Nat),∃ (R : Rep),Pool i_2.val.A l_3 ∧
 l_3[i_3]? = some (b,R) ∧
 pv B.bb = pv b ∧
 ∃ (fr : Int),∃ (m : Msg),[V.int IntKind.i64 0,V.agg [V.int IntKind.i64 n,V.dat (D.sl 1 l),V.dat (D.sl 1 l_1),V.dat (D.sl 1 l_2)]] = [V.int IntKind.i64 fr,msV m] ∧
 RepI R ∧
 MsgOk m ∧
 ∀ (A' : List (Sg × KB)),Pool A' (l_3.set i_3 (b,handleR R fr m)) →
 Nx (bo2LI B i.val.k (boN i.val.k p).a (boN i.val.k p).b) i_2 ([V.any (pv B.ba),V.any (pv B.bb),V.int IntKind.i64 (↑i.val.k : Int),V.dat (D.sl 5 (List.map postD (boN i.val.k p).a.out)),V.int IntKind.i64 (IntKind.i64.wrap ((↑i_2.val.k : Int) + 1))],[KO.objs A'])) ∧
 (decide ((↑i_2.val.k : Int) < (↑(List.map postD (boN i.val.k p).a.out).length : Int)) = false →
 ∃ (l : List (Nat × Rep)),∃ (i_3 : Nat),∃ (b : Nat),∃ (R : Rep),Pool i_2.val.A l ∧
 l[i_3]? = some (b,R) ∧
 pv B.bb = pv b ∧
 NoA [] ∧
 RepI R ∧
 ∀ (A' : List (Sg × KB)),Pool A' (l.set i_3 (b,{ me:=R.me,id:=R.id,ep:=R.ep,nu:=R.nu,ce:=R.ce,ti:=R.ti,bl:=R.bl,lo:=R.lo,ch:=R.ch,c:=R.c,t:=R.t,v:=R.v,ld:=R.ld,out:=[],done:=R.done })) →
 At (bo3LI B i.val.k (noO (boN i.val.k p).a) (dlvR 0 (boN i.val.k p).a.out (boN i.val.k p).b)) ([V.any (pv B.ba),V.any (pv B.bb),V.int IntKind.i64 (↑i.val.k : Int),V.dat (D.sl 5 (List.map postD R.out)),V.int IntKind.i64 0],[KO.objs A']) ∧
 ∀ (i_4 : { q : BoP // BoI (dlvR 0 (boN i.val.k p).a.out (boN i.val.k p).b).out.length q (set2 B (dlvR 1 (List.take q.k (dlvR 0 (boN i.val.k p).a.out (boN i.val.k p).b).out) (noO (boN i.val.k p).a)) (noO (dlvR 0 (boN i.val.k p).a.out (boN i.val.k p).b))) }),(decide ((↑i_4.val.k : Int) < (↑(List.map postD (dlvR 0 (boN i.val.k p).a.out (boN i.val.k p).b).out).length : Int)) = true →
 NonN (↑i_4.val.k : Int) ∧
 ∃ (e : List D),(List.map postD (dlvR 0 (boN i.val.k p).a.out (boN i.val.k p).b).out)[(↑i_4.val.k : Int).toNat]? = some e ∧
 ∃ (n : Int),e[1]? = some (D.val (Value.int IntKind.i64 n)) ∧
 ∃ (l : List (List D)),e[2]? = some (D.sl 1 l) ∧
 ∃ (l_1 : List (List D)),e[3]? = some (D.sl 1 l_1) ∧
 ∃ (l_2 : List (List D)),e[4]? = some (D.sl 1 l_2) ∧
 ∃ (l_3 : List (Nat × Rep)),∃ (i_5 : Nat),∃ (b : Nat),∃ (R : Rep),Pool i_4.val.A l_3 ∧
 l_3[i_5]? = some (b,R) ∧
 pv B.ba = pv b ∧
 ∃ (fr : Int),∃ (m : Msg),[V.int IntKind.i64 1,V.agg [V.int IntKind.i64 n,V.dat (D.sl 1 l),V.dat (D.sl 1 l_1),V.dat (D.sl 1 l_2)]] = [V.int IntKind.i64 fr,msV m] ∧
 RepI R ∧
 MsgOk m ∧
 ∀ (A' : List (Sg × KB)),Pool A' (l_3.set i_5 (b,handleR R fr m)) →
 Nx (bo3LI B i.val.k (noO (boN i.val.k p).a) (dlvR 0 (boN i.val.k p).a.out (boN i.val.k p).b)) i_4 ([V.any (pv B.ba),V.any (pv B.bb),V.int IntKind.i64 (↑i.val.k : Int),V.dat (D.sl 5 (List.map postD (dlvR 0 (boN i.val.k p).a.out (boN i.val.k p).b).out)),V.int IntKind.i64 (IntKind.i64.wrap ((↑i_4.val.k : Int) + 1))],[KO.objs A'])) ∧
 (decide ((↑i_4.val.k : Int) < (↑(List.map postD (dlvR 0 (boN i.val.k p).a.out (boN i.val.k p).b).out).length : Int)) = false →
 Nx (bo1LI B p) i ([V.any (pv B.ba),V.any (pv B.bb),V.int IntKind.i64 (IntKind.i64.wrap ((↑i.val.k : Int) + 1))],[KO.objs i_4.val.A])))) ∧
 (decide ((↑i.val.k : Int) < 20) = false →
 K (V.tup []) [KO.objs i.val.A])
 ) : runSpec Try.prog XRp (boT B p) 10 [.any (pv B.ba),.any (pv B.bb)] [.objs A] K:=by apply Eq.mp (a:=hvc_); kernel_rfl
structure RbI (B : RB) : Prop where
  i : B.i < B.l.length
  j : B.j < B.l.length
  ne : B.i ≠ B.j
theorem set2_i {B : RB} (h : RbI B) (Ra Rb : Rep) : (set2 B Ra Rb)[B.i]? = some (B.ba,Ra):=by
  unfold set2
  rw [List.getElem?_set_ne h.ne.symm,List.getElem?_set_self h.i]
theorem set2_j {B : RB} (h : RbI B) (Ra Rb : Rep) : (set2 B Ra Rb)[B.j]? = some (B.bb,Rb):=by
  unfold set2
  rw [List.getElem?_set_self (by rw [List.length_set]; exact h.j)]
theorem set2_seti {B : RB} (h : RbI B) (Ra Rb R : Rep) : (set2 B Ra Rb).set B.i (B.ba,R) = set2 B R Rb:=by
  unfold set2
  rw [List.set_comm _ _ h.ne.symm,List.set_set]
theorem set2_setj {B : RB} (Ra Rb R : Rep) : (set2 B Ra Rb).set B.j (B.bb,R) = set2 B Ra R:=by
  unfold set2
  rw [List.set_set]
structure DlI (fr : Int) (l : List Post) (R R2 : Rep) : Prop where
  i : RepI R2
  o : R2.out.length ≤ R.out.length + l.length
  d : R2.done.length ≤ R.done.length + l.length
  me : R2.me = R.me
  id : R2.id = R.id
  v : R2.v = R.v
theorem dlv_i (fr : Int) : ∀ (l : List Post) (R : Rep),RepI R→(∀ p ∈ l,MsgOk p.m)→R.out.length + l.length ≤ 100000→R.done.length + l.length ≤ 100000→DlI fr l R (dlvR fr l R)
  | [],R,h,_,_,_ => ⟨h,Nat.le_refl _,Nat.le_refl _,rfl,rfl,rfl⟩
  | q :: l,R,h,hm,ho,hd => by
    rw [List.length_cons] at ho hd
    have k:=handle_i h (by omega) (by omega) fr (hm q List.mem_cons_self)
    have ko:=k.o
    have kd:=k.d
    have r:=dlv_i fr l (handleR R fr q.m) k.i (fun x hx => hm x (List.mem_cons_of_mem _ hx)) (by omega) (by omega)
    refine ⟨r.i,?_,?_,r.me.trans k.me,r.id.trans k.id,r.v.trans k.v⟩
    · have:=r.o; rw [List.length_cons]; show (dlvR fr l (handleR R fr q.m)).out.length ≤ _; omega
    · have:=r.d; rw [List.length_cons]; show (dlvR fr l (handleR R fr q.m)).done.length ≤ _; omega
theorem dlv_snoc (fr : Int) {l : List Post} {R : Rep} {k : Nat} {q : Post} (h : l[k]? = some q) : dlvR fr (l.take (k + 1)) R = handleR (dlvR fr (l.take k) R) fr q.m:=by
  unfold dlvR
  rw [List.take_add_one,h,List.foldl_append]
  rfl
theorem dlv_take (fr : Int) {l : List Post} {R : Rep} (k : Nat) (h : RepI R) (hm : ∀ p ∈ l,MsgOk p.m) (ho : R.out.length + l.length ≤ 100000) (hd : R.done.length + l.length ≤ 100000) : RepI (dlvR fr (l.take k) R):=by
  have:=List.length_take (i:=k) (l:=l)
  exact (dlv_i fr (l.take k) R h (fun p hp => hm p (List.mem_of_mem_take hp)) (by omega) (by omega)).i
structure BoH (S D : Nat) (p : RR) : Prop where
  a : RepI p.a
  b : RepI p.b
  o : p.a.out.length + p.b.out.length ≤ S
  da : p.a.done.length ≤ D
  db : p.b.done.length ≤ D
theorem noO_i {R : Rep} (h : RepI R) : RepI (noO R):=out0_i h
theorem boS_h {S D : Nat} {p : RR} (h : BoH S D p) (hS : S ≤ 1000) (hD : D ≤ 90000) : BoH S (D + S) (boS p):=by
  have o:=h.o
  have da:=h.da
  have db:=h.db
  have k1:=dlv_i 0 p.a.out p.b h.b h.a.om (by omega) (by omega)
  have o1:=k1.o
  have d1:=k1.d
  have k2:=dlv_i 1 (dlvR 0 p.a.out p.b).out (noO p.a) (noO_i h.a) k1.i.om (by show 0 + _ ≤ _; omega) (by show p.a.done.length + _ ≤ _; omega)
  have o2 : _ ≤ 0 + _:=k2.o
  have d2 : _ ≤ p.a.done.length + _:=k2.d
  exact ⟨k2.i,noO_i k1.i,by show _ + 0 ≤ S; exact Nat.le_trans o2 (by omega),Nat.le_trans d2 (by omega),Nat.le_trans d1 (by omega)⟩
theorem boN_h {S D : Nat} {p : RR} (h : BoH S D p) (hS : S ≤ 1000) (hD : D + 20 * S ≤ 90000) : ∀ n,n ≤ 20→BoH S (D + n * S) (boN n p)
  | 0,_ => by show BoH S (D + 0 * S) p; rw [Nat.zero_mul,Nat.add_zero]; exact h
  | n + 1,hn => by
    have hm : n * S ≤ 20 * S:=Nat.mul_le_mul_right S (by omega)
    have:=boS_h (boN_h h hS hD n (by omega)) hS (by omega)
    rw [Nat.add_mul,Nat.one_mul,← Nat.add_assoc]
    exact this
def PBoth : FSpec:=fun args kb K => match args,kb with
  | [va,vb],[.objs A] => ∃ B p,va = .any (pv B.ba)∧vb = .any (pv B.bb)∧RbI B∧Pool A (set2 B p.a p.b)∧BoH 1000 10000 p∧∀ A',Pool A' (set2 B (boN 20 p).a (boN 20 p).b)→K (.tup []) [.objs A']
  | _,_ => False
theorem postD_get {l : List Post} {k : Nat} {q : Post} (h : l[k]? = some q) : (l.map postD)[((k : Nat) : Int).toNat]? = some (postD q):=by
  rw [Int.toNat_natCast,List.getElem?_map,h]; rfl
theorem okBoth : SpecOk Try.prog 10 PBoth:=specOk_of' XRp_ok mixed (fun args kb K h => by
  unfold PBoth at h; split at h <;> try exact h.elim
  rename_i va vb A
  obtain ⟨B,p,rfl,rfl,hB,hP,hH,hK⟩:=h
  have hN:=boN_h hH (by omega) (by omega)
  refine ⟨_,vcBoth B p A K ⟨At.mk' (⟨⟨0,A⟩,⟨Nat.zero_le _,hP⟩⟩ : {q : BoP // BoI 20 q (set2 B (boN q.k p).a (boN q.k p).b)}) rfl,?_⟩⟩
  rintro ⟨⟨n,A1⟩,hn,hA1⟩
  dsimp only at hn hA1 ⊢
  have hw : n < 20→IntKind.i64.wrap ((n : Int) + 1) = ((n + 1 : Nat) : Int):=fun h => by rw [w64 (by omega) (by omega)]; omega
  simp only [decide_eq_true_eq,decide_eq_false_iff_not]
  refine ⟨fun hlt => ?_,fun hge => ?_⟩
  · have hlt : n < 20:=by omega
    obtain ⟨ha,hb,ho,hda,hdb⟩:=hN n hn
    have hs : boN (n + 1) p = boS (boN n p):=rfl
    have hnn : n * 1000 ≤ 20 * 1000:=Nat.mul_le_mul_right 1000 (by omega)
    have hb1:=dlv_i 0 (boN n p).a.out (boN n p).b hb ha.om (by omega) (by omega)
    have o1:=hb1.o
    have d1:=hb1.d
    refine ⟨_,B.i,B.ba,(boN n p).a,hA1,set2_i hB _ _,rfl,⟨rfl⟩,ha,fun A2 p2 => ?_⟩
    have p2 : Pool A2 (set2 B (noO (boN n p).a) (boN n p).b):=by rw [set2_seti hB] at p2; exact p2
    refine ⟨At.mk' (⟨⟨0,A2⟩,⟨Nat.zero_le _,p2⟩⟩ : {x : BoP // BoI (boN n p).a.out.length x (set2 B (noO (boN n p).a) (dlvR 0 ((boN n p).a.out.take x.k) (boN n p).b))}) rfl,?_⟩
    rintro ⟨⟨k,A3⟩,hk,hA3⟩
    dsimp only at hk hA3 ⊢
    rw [List.length_map]
    refine ⟨fun hkl => ?_,fun hkl => ?_⟩
    · have hkl : k < (boN n p).a.out.length:=by omega
      have hq:=List.getElem?_eq_getElem hkl
      generalize (boN n p).a.out[k] = x at hq
      refine ⟨by unfold NonN; omega,postD x,postD_get hq,x.m.kd,rfl,ints .i64 x.m.n,rfl,ints .u8 x.m.b,rfl,lsD x.m.l,rfl,_,B.j,B.bb,_,hA3,set2_j hB _ _,rfl,0,x.m,rfl,dlv_take 0 k hb ha.om (by omega) (by omega),ha.om x (List.mem_of_getElem? hq),fun A4 p4 => ?_⟩
      rw [set2_setj,← dlv_snoc 0 hq] at p4
      refine Nx.mk' (⟨⟨k + 1,A4⟩,⟨hkl,p4⟩⟩ : {x : BoP // BoI (boN n p).a.out.length x (set2 B (noO (boN n p).a) (dlvR 0 ((boN n p).a.out.take x.k) (boN n p).b))}) ?_ ?_
      · rw [w64 (by omega) (by omega)]; rfl
      · show (boN n p).a.out.length - (k + 1) < (boN n p).a.out.length - k; omega
    · have e : k = (boN n p).a.out.length:=by omega
      subst e
      rw [List.take_length] at hA3
      have ho1:=noO_i ha
      refine ⟨_,B.j,B.bb,_,hA3,set2_j hB _ _,rfl,⟨rfl⟩,hb1.i,fun A4 p4 => ?_⟩
      rw [set2_setj] at p4
      have p4 : Pool A4 (set2 B (noO (boN n p).a) (noO (dlvR 0 (boN n p).a.out (boN n p).b))):=p4
      refine ⟨At.mk' (⟨⟨0,A4⟩,⟨Nat.zero_le _,p4⟩⟩ : {x : BoP // BoI (dlvR 0 (boN n p).a.out (boN n p).b).out.length x (set2 B (dlvR 1 ((dlvR 0 (boN n p).a.out (boN n p).b).out.take x.k) (noO (boN n p).a)) (noO (dlvR 0 (boN n p).a.out (boN n p).b)))}) rfl,?_⟩
      rintro ⟨⟨m,A5⟩,hm,hA5⟩
      dsimp only at hm hA5 ⊢
      rw [List.length_map]
      refine ⟨fun hml => ?_,fun hml => ?_⟩
      · have hml : m < (dlvR 0 (boN n p).a.out (boN n p).b).out.length:=by omega
        have hq:=List.getElem?_eq_getElem hml
        generalize (dlvR 0 (boN n p).a.out (boN n p).b).out[m] = x at hq
        refine ⟨by unfold NonN; omega,postD x,postD_get hq,x.m.kd,rfl,ints .i64 x.m.n,rfl,ints .u8 x.m.b,rfl,lsD x.m.l,rfl,_,B.i,B.ba,_,hA5,set2_i hB _ _,rfl,1,x.m,rfl,dlv_take 1 m ho1 hb1.i.om (by show 0 + _ ≤ _; omega) (by show (boN n p).a.done.length + _ ≤ _; omega),hb1.i.om x (List.mem_of_getElem? hq),fun A6 p6 => ?_⟩
        rw [set2_seti hB,← dlv_snoc 1 hq] at p6
        refine Nx.mk' (⟨⟨m + 1,A6⟩,⟨hml,p6⟩⟩ : {x : BoP // BoI (dlvR 0 (boN n p).a.out (boN n p).b).out.length x (set2 B (dlvR 1 ((dlvR 0 (boN n p).a.out (boN n p).b).out.take x.k) (noO (boN n p).a)) (noO (dlvR 0 (boN n p).a.out (boN n p).b)))}) ?_ ?_
        · rw [w64 (by omega) (by omega)]; rfl
        · show (dlvR 0 (boN n p).a.out (boN n p).b).out.length - (m + 1) < (dlvR 0 (boN n p).a.out (boN n p).b).out.length - m; omega
      · have e : m = (dlvR 0 (boN n p).a.out (boN n p).b).out.length:=by omega
        subst e
        rw [List.take_length] at hA5
        refine Nx.mk' (⟨⟨n + 1,A5⟩,⟨hlt,?_⟩⟩ : {q : BoP // BoI 20 q (set2 B (boN q.k p).a (boN q.k p).b)}) ?_ ?_
        · dsimp only
          rw [hs]; exact hA5
        · rw [hw hlt]
        · show 20 - (n + 1) < 20 - n; omega
  · have e : n = 20:=by omega
    subst e
    exact hK A1 hA1)
end Go.Proofs.Ytfcjngcnifdmnaa
set_option linter.unusedSimpArgs false
set_option linter.unusedVariables false
namespace Vc
open Go
mutual
def ConfDS (N : Nat) : SH→D→Prop
  | .int k,d => ∃ n,d = .val (.int k n)∧(Lit.int k n).wf = true
  | .bool,d => ∃ b,d = .val (.bool b)
  | .sl es,d => ∃ l,d = .sl es.length l∧l.length ≤ N∧∀ e ∈ l,ConfS N es e
def ConfS (N : Nat) : List SH→List D→Prop
  | [],ds => ds = []
  | s :: ss,ds => ∃ d ds',ds = d :: ds'∧ConfDS N s d∧ConfS N ss ds'
end
theorem ConfS.len {N : Nat} : ∀ {ks : List SH} {vs : List D},ConfS N ks vs→vs.length = ks.length
  | [],_,h => by simp only [ConfS] at h; simp [h]
  | k :: ks,_,h => by simp only [ConfS] at h; obtain ⟨v,vs',rfl,_,h2⟩:=h; simp [ConfS.len h2]
theorem ConfS.append {N : Nat} : ∀ {ks : List SH} {vs : List D},ConfS N ks vs→∀ {ls : List SH} {us : List D},ConfS N ls us→ConfS N (ks ++ ls) (vs ++ us)
  | [],_,h,_,_,k => by simp only [ConfS] at h; subst h; simpa using k
  | k :: ks,_,h,_,_,k' => by
    simp only [ConfS] at h
    obtain ⟨v,vs',rfl,h1,h2⟩:=h
    simp only [List.cons_append,ConfS]
    exact ⟨v,_,rfl,h1,h2.append k'⟩
def shapeS (P : Program) : Nat→TypeId→Option (List SH)
  | 0,_ => none
  | n + 1,t =>
    match P.underlying t with
    | some .bool => some [.bool]
    | some (.int k) => some [.int k]
    | some (.slice e) => match shapeS P n e with
      | some (s :: ss) => match Nat.beq (s :: ss).length (P.cellsOf e),Nat.ble 1 (P.bytesOf e) with
        | true,true => some [.sl (s :: ss)]
        | _,_ => none
      | _ => none
    | some (.struct fs) => fs.toList.foldl (fun acc f => match acc,shapeS P n f.type with
      | some ks,some l => match Nat.beq ks.length f.offset,Nat.beq l.length (P.cellsOf f.type) with
        | true,true => some (ks ++ l)
        | _,_ => none
      | _,_ => none) (some [])
    | some (.array m e) => match shapeS P n e with
      | some l => match Nat.beq l.length (P.cellsOf e) with
        | true => some (List.replicate m l).flatten
        | false => none
      | none => none
    | _ => none
section
variable {H : Type} {enc : TypeId × Value→H} {P : Program} {w : World} {base : Nat} {spare : Nat→Bool} {held : Bool}
theorem weights_all {e : TypeId} : ∀ {ds : List (DataW H)} {d : DataW H},d ∈ ds→∀ n ∈ d.weights P e,n ∈ DataW.weightsAll P e ds
  | d0 :: ds,d,hd,n,hn => by
    simp only [DataW.weightsAll,List.mem_append]
    rcases List.mem_cons.1 hd with rfl | hd
    · exact .inl hn
    · exact .inr (weights_all hd n hn)
  | [],_,hd,_,_ => by cases hd
def OpenS (w : World) (N : Nat) (ks : List SH) (cs : List Value) : Prop:=∃ ds,DenD (baseE w) ds cs∧ConfS N ks ds
theorem OpenS.append {N : Nat} {ks ls : List SH} {cs es : List Value} (h : OpenS w N ks cs) (k : OpenS w N ls es) : OpenS w N (ks ++ ls) (cs ++ es):=by
  obtain ⟨ds,h1,h2⟩:=h
  obtain ⟨us,k1,k2⟩:=k
  exact ⟨ds ++ us,h1.append k1,h2.append k2⟩
theorem OpenS.nil {N : Nat} : OpenS w N [] []:=⟨[],.nil,by simp [ConfS]⟩
theorem trod_confS (N : Nat) : ∀ (m fuel : Nat) (t : TypeId) (cs : List Value) (ks : List SH) (x : DataW H × List MemPlace),shapeS P m t = some ks→DataW.trod enc P w base spare held fuel t cs = some x→(∀ n ∈ x.1.weights P t,n ≤ N)→OpenS w N ks (cs.take ks.length)
  | 0,_,_,_,_,_,h,_,_ => by simp [shapeS] at h
  | m + 1,0,_,_,_,_,_,h,_ => by simp [DataW.trod] at h
  | m + 1,fuel + 1,t,cs,ks,x,hs,hx,hN => by
    simp only [shapeS] at hs
    unfold DataW.trod at hx
    split at hs
    · rename_i ht
      cases hs
      simp only [ht] at hx
      split at hx <;> try (simp at hx; done)
      all_goals rename_i heq; simp at heq
      exact ⟨[.val _],.cons (show RepD _ (.val _) _ from ⟨rfl,rfl⟩) .nil,by simp only [ConfS,ConfDS]; exact ⟨_,[],rfl,⟨_,rfl⟩,rfl⟩⟩
    · rename_i k ht
      cases hs
      simp only [ht] at hx
      split at hx <;> try (simp at hx; done)
      all_goals rename_i heq; simp at heq
      subst heq
      split at hx
      · rename_i hc
        obtain ⟨rfl,hw⟩:=hc
        exact ⟨[.val _],.cons (show RepD _ (.val _) _ from ⟨rfl,rfl⟩) .nil,by simp only [ConfS,ConfDS]; exact ⟨_,[],rfl,⟨_,rfl,hw⟩,rfl⟩⟩
      · cases hx
    · rename_i e ht
      split at hs <;> try (cases hs; done)
      rename_i s0 ss0 hes
      split at hs <;> try (cases hs; done)
      rename_i hb hby
      cases hs
      have hc:=(Nat.eq_of_beq_eq_true hb).symm
      have hby:=Nat.le_of_ble_eq_true hby
      obtain ⟨es,hes0⟩ : ∃ es,es = s0 :: ss0:=⟨_,rfl⟩
      rw [← hes0] at hes hc ⊢
      have hk : 0 < es.length:=by rw [hes0]; simp
      simp only [ht] at hx
      have wrap : ∀ {v : Value} {l : List (List D)},RepD (baseE w) (.sl es.length l) v→l.length ≤ N→(∀ e ∈ l,ConfS N es e)→OpenS w N [.sl es] [v]:=fun h1 h2 h3 =>
        ⟨[.sl es.length _],.cons h1 .nil,by simp only [ConfS,ConfDS]; exact ⟨_,[],rfl,⟨_,rfl,h2,h3⟩,rfl⟩⟩
      split at hx <;> try (simp at hx; done)
      all_goals try (rename_i heq; simp at heq; done)
      · exact wrap (l:=[]) (by simp only [RepD]; exact ⟨none,0,rfl,Nat.le_refl _,.inl rfl⟩) (by simp) (fun e he => by cases he)
      · rename_i a len cap heq
        simp only [Option.some.injEq,TypeDesc.slice.injEq] at heq
        subst heq
        simp only [List.length_cons,List.length_nil,List.take_succ_cons,List.take_zero]
        split at hx
        · rename_i hcnd
          obtain ⟨hb,hlc,hcm⟩:=hcnd
          simp only [Option.bind_eq_some_iff] at hx
          obtain ⟨elems,hel,hrest⟩:=hx
          obtain ⟨hell,hget⟩:=mapM_get hel
          simp only [Option.map_eq_some_iff] at hrest
          obtain ⟨rest,hrr,rfl⟩:=hrest
          simp only [DataW.weights,ht,List.mem_cons,List.mem_append] at hN
          have hlenN : len ≤ N:=by
            have h0:=hN _ (.inl rfl)
            simp only [List.length_map] at h0
            rw [hell,List.length_range] at h0
            have h1 : (len + rest.length) * 1 ≤ (len + rest.length) * P.bytesOf e:=Nat.mul_le_mul_left _ hby
            omega
          have hNe : ∀ b ∈ elems,∀ n ∈ b.1.weights P e,n ≤ N:=fun b hb n hn => hN n (.inr (.inl (weights_all (List.mem_map_of_mem hb) n hn)))
          have hex : ∀ i,i < len→∃ cs ds,w.cells? base (a.add (i * P.cellsOf e)) (P.cellsOf e) = some cs∧DenD (baseE w) ds cs∧ConfS N es ds:=by
            intro i hi
            obtain ⟨b,hb,hbm⟩:=hget i i (by simp [hi])
            have hbN:=hNe b (List.mem_of_getElem? hbm)
            simp only [Option.bind_eq_some_iff] at hb
            obtain ⟨cs,h1,h2⟩:=hb
            have h3:=trod_confS N m fuel e cs es _ hes h2 hbN
            rw [List.take_of_length_le (by rw [(cells?_at h1).1]; omega)] at h3
            obtain ⟨ds,h4,h5⟩:=h3
            exact ⟨cs,ds,h1,h4,h5⟩
          have hl : ∃ l : List (List D),l.length = len∧∀ i d,l[i]? = some d→∃ c,w.cells? base (a.add (i * P.cellsOf e)) (P.cellsOf e) = some c∧DenD (baseE w) d c∧ConfS N es d:=by
            clear hell hget hel hcm hlc hrr hlenN hNe hN
            induction len with
            | zero => exact ⟨[],rfl,by simp⟩
            | succ len ih =>
              obtain ⟨l,h1,h2⟩:=ih (fun i hi => hex i (by omega))
              obtain ⟨c,d,h3,h4,h5⟩:=hex len (by omega)
              refine ⟨l ++ [d],by simp [h1],fun i d' hd' => ?_⟩
              rcases Nat.lt_trichotomy i l.length with hi | hi | hi
              · rw [List.getElem?_append_left hi] at hd'
                exact h2 i d' hd'
              · subst hi
                simp at hd'
                subst hd'
                rw [h1]
                exact ⟨c,h3,h4,h5⟩
              · rw [List.getElem?_eq_none (by simp; omega)] at hd'; cases hd'
          obtain ⟨l,hll,hl⟩:=hl
          have hconf : ∀ x ∈ l,ConfS N es x:=fun x hx => by
            obtain ⟨i,hi⟩:=List.getElem?_of_mem hx
            obtain ⟨_,_,_,h⟩:=hl i x hi
            exact h
          have hw : wl es.length l:=fun x hx => (hconf x hx).len
          refine wrap (l:=l) ?_ (by omega) hconf
          simp only [RepD]
          refine ⟨some a,cap,by rw [hll],by omega,?_⟩
          by_cases h0 : len = 0
          · left; omega
          · right
            obtain ⟨c0,d0,k1,k2,k3⟩:=hex 0 (by omega)
            have hcl:=k2.len
            have hdl:=k3.len
            obtain ⟨x0,hx0⟩ : ∃ x,c0[0]? = some x:=⟨c0[0],List.getElem?_eq_getElem (by omega)⟩
            have hcell:=(cells?_at k1).2 0 x0 hx0
            simp only [Nat.zero_mul] at hcell
            have ha0 : (a.add 0).add 0 = a:=by simp [Addr.add]
            rw [ha0] at hcell
            have hspot:=World.cell?_spot hcell
            obtain ⟨ab,ao,sp⟩:=a
            simp only at hspot
            subst hspot
            refine ⟨ab,ao,rfl,RepL.of_flat hw (RepC.of_at fun j d hj => ?_)⟩
            have hjl : j < l.flatten.length:=(List.getElem?_eq_some_iff.1 hj).1
            rw [flat_len hw] at hjl
            have hq : j / es.length < l.length:=Nat.div_lt_of_lt_mul (by rw [Nat.mul_comm]; exact hjl)
            have hmod : j % es.length < es.length:=Nat.mod_lt _ hk
            have hdm : j / es.length * es.length + j % es.length = j:=Nat.div_add_mod' j es.length
            obtain ⟨c,q1,q2,q3⟩:=hl (j / es.length) _ (List.getElem?_eq_getElem hq)
            have q4:=q3.len
            have hd2:=flat_at hw (List.getElem?_eq_getElem hq) (List.getElem?_eq_getElem (l:=l[j / es.length]) (i:=j % es.length) (by omega))
            rw [hdm,hj] at hd2
            obtain ⟨y,hy1,hy2⟩:=q2.get (List.getElem?_eq_getElem (l:=l[j / es.length]) (i:=j % es.length) (by omega))
            rw [← Option.some.inj hd2] at hy2
            refine ⟨y,?_,hy2⟩
            have:=(cells?_at q1).2 (j % es.length) y hy1
            rw [Addr.add_lit,Addr.add_lit,hc,Nat.add_assoc,hdm] at this
            show EH.cell (baseE w) ab (ao + j) = some y
            rw [← this]
            unfold EH.cell baseE World.cell?
            cases w.heap[ab]? <;> rfl
        · cases hx
    · rename_i fs ht
      simp only [ht] at hx
      split at hx
      · simp only [Option.map_eq_some_iff] at hx
        obtain ⟨xs,hxs,rfl⟩:=hx
        obtain ⟨_,hget⟩:=mapM_get hxs
        simp only [DataW.weights,ht] at hN
        have key : ∀ (l : List Field) (acc ks : List SH),(∀ f ∈ l,∃ y,DataW.trod enc P w base spare held fuel f.type ((cs.drop f.offset).take (P.cellsOf f.type)) = some y∧∀ n ∈ y.1.weights P f.type,n ≤ N)→OpenS w N acc (cs.take acc.length) →
            l.foldl (fun acc f => match acc,shapeS P m f.type with
              | some ks,some l => match Nat.beq ks.length f.offset,Nat.beq l.length (P.cellsOf f.type) with
                | true,true => some (ks ++ l)
                | _,_ => none
              | _,_ => none) (some acc) = some ks→OpenS w N ks (cs.take ks.length):=by
          intro l
          induction l with
          | nil => intro acc ks _ hacc hf; simp only [List.foldl_nil,Option.some.injEq] at hf; subst hf; exact hacc
          | cons f l ih =>
            intro acc ks hall hacc hf
            simp only [List.foldl_cons] at hf
            have hnone : ∀ l : List Field,l.foldl (fun acc f => match acc,shapeS P m f.type with
              | some ks,some l => match Nat.beq ks.length f.offset,Nat.beq l.length (P.cellsOf f.type) with
                | true,true => some (ks ++ l)
                | _,_ => none
              | _,_ => none) (none : Option (List SH)) = none:=by
              intro l; induction l with
              | nil => rfl
              | cons a l ih => exact ih
            cases hsf : shapeS P m f.type with
            | none => rw [hsf] at hf; exact absurd (hf.symm.trans (hnone l)) (by simp)
            | some sl =>
              rw [hsf] at hf
              simp only [] at hf
              cases hb1 : Nat.beq acc.length f.offset with
              | false => simp only [hb1] at hf; exact absurd (hf.symm.trans (hnone l)) (by simp)
              | true =>
              cases hb2 : Nat.beq sl.length (P.cellsOf f.type) with
              | false => simp only [hb1,hb2] at hf; exact absurd (hf.symm.trans (hnone l)) (by simp)
              | true =>
                simp only [hb1,hb2] at hf
                have e1:=Nat.eq_of_beq_eq_true hb1
                have e2:=Nat.eq_of_beq_eq_true hb2
                obtain ⟨y,hy,hyN⟩:=hall f List.mem_cons_self
                have hc:=trod_confS N m fuel f.type _ sl y hsf hy hyN
                rw [← e2,List.take_take,Nat.min_self,← e1] at hc
                refine ih (acc ++ sl) ks (fun g hg => hall g (List.mem_cons_of_mem _ hg)) ?_ hf
                rw [List.length_append,List.take_add]
                exact hacc.append hc
        refine key fs.toList [] ks (fun f hf => ?_) (by simpa using OpenS.nil) hs
        obtain ⟨i,hi⟩:=List.getElem?_of_mem hf
        obtain ⟨b,hb,hbm⟩:=hget i f hi
        exact ⟨b,hb,fun n hn => hN n (DataW.weights_mem_each (j:=i) (t:=f.type) (by rw [List.getElem?_map,hi]; rfl) (by rw [List.getElem?_map,hbm]; rfl) n hn)⟩
      · cases hx
    · rename_i n e ht
      simp only [ht] at hx
      split at hx
      · simp only [Option.map_eq_some_iff] at hx
        obtain ⟨xs,hxs,rfl⟩:=hx
        obtain ⟨_,hget⟩:=mapM_get hxs
        simp only [DataW.weights,ht] at hN
        split at hs <;> try (cases hs; done)
        rename_i l hl
        split at hs <;> try (cases hs; done)
        rename_i hb
        cases hs
        have e2:=Nat.eq_of_beq_eq_true hb
        have key : ∀ k,k ≤ n→OpenS w N (List.replicate k l).flatten (cs.take (List.replicate k l).flatten.length):=by
          intro k
          induction k with
          | zero => intro _; simpa using OpenS.nil
          | succ k ih =>
            intro hk
            obtain ⟨y,hy,hym⟩:=hget k k (List.getElem?_range (by omega))
            have hc:=trod_confS N m fuel e _ l y hl hy (fun n hn => hN n (weights_all (List.mem_map_of_mem (List.mem_of_getElem? hym)) n hn))
            rw [← e2,List.take_take,Nat.min_self] at hc
            have hlen : (List.replicate k l).flatten.length = k * l.length:=by simp
            rw [List.replicate_succ',List.flatten_append,List.length_append,List.take_add,hlen]
            simp only [List.flatten_cons,List.flatten_nil,List.append_nil]
            rw [← hlen]
            refine (ih (by omega)).append ?_
            rw [hlen]
            exact hc
        exact key n (Nat.le_refl _)
      · cases hx
    · cases hs
theorem open_slS {N : Nat} {t : TypeId} {es : List SH} (hs : shapeS P 20 t = some [.sl es]) {v : Value} (hv : ∃ a len cap,v = .slice a len cap) {d : DataW H} {p : List MemPlace} (h : DataW.Trod enc P w base spare held t v d p) (hN : ∀ n ∈ d.weights P t,n ≤ N) :
    ∃ l,Den [] (baseE w) (.dat (.sl es.length l)) v∧l.length ≤ N∧∀ e ∈ l,ConfS N es e:=by
  obtain ⟨a,len,cap,rfl⟩:=hv
  obtain ⟨fuel,hf⟩:=h
  have:=trod_confS N 20 fuel t _ _ _ hs hf hN
  have e0 : (Value.slice a len cap).cells = #[.slice a len cap]:=rfl
  rw [e0] at this
  obtain ⟨ds,h1,h2⟩:=this
  simp only [List.length_cons,List.length_nil,List.take_succ_cons,List.take_zero] at h1
  simp only [ConfS,ConfDS] at h2
  obtain ⟨d,ds',rfl,⟨l,rfl,h3,h4⟩,rfl⟩:=h2
  simp only [DenD] at h1
  obtain ⟨x,xs',e,h4',rfl⟩:=h1
  cases e
  exact ⟨l,by simpa only [Den] using h4',h3,h4⟩
end
end Vc
namespace Go.Proofs.Ytfcjngcnifdmnaa
open Vc Go
set_option linter.unusedVariables false
set_option linter.unusedSimpArgs false
set_option maxRecDepth 100000
def lwS : FuncId→Option Known
  | 6 => some ⟨[.pool],Sawake⟩
  | 10 => some ⟨[.pool],PBoth⟩
  | f => rpS f
noncomputable def XLw : CallT:=callS Try.prog lwS noT 10
structure RawQ where
  k : Nat
  b : Nat
  e : Int
  R : Rep
  A : List (Sg × KB)
  rest : List (Nat × Rep)
def rawV : Vw:=⟨5,0,2,[1,0],[]⟩
structure RawI (k : Nat) (q : RawQ) : Prop where
  kk : q.k = k
  p : Pool q.A ((q.b,q.R) :: q.rest)
  i : RepI q.R
  me : q.R.me = 1
  id : q.R.id = 5
  v : q.R.v = rawV
  o : q.R.out.length ≤ 10 + 10 * k
  d : q.R.done.length ≤ 10 + 10 * k
  t0 : 0 ≤ q.R.ti
  t1 : q.R.ti ≤ k
  e0 : 0 ≤ q.R.ep
  e1 : q.R.ep ≤ 1099511627776
  nl : leadsR q.R = true→q.R.nu ≤ k
  nn : q.R.nu ≤ 1099511627776
  le : q.e ≤ q.R.ep
structure RawH (n : Nat) (q : RawQ) : Prop where
  le : q.k ≤ n
  e : q.e = q.R.ep
  i : RawI q.k q
abbrev rwC (l : List Msg) (fr : List Int) (k : Nat) : LI where
  α:={q : RawQ // RawI (k + 1) q}
  live:=[0,1,5,6,8]
  st q:=([.dat (.sl 4 (l.map msgD)),.dat (.sl 1 (ints .i64 fr)),.any (pv q.1.b),.int .i64 q.1.e,.int .i64 (k : Int)],[.objs q.1.A])
  μ _:=0
def rwT2 (l : List Msg) (fr : List Int) (k : Nat) : Nat→Option LI
  | 1017 => some (rwC l fr k)
  | _ => none
abbrev rwLI (l : List Msg) (fr : List Int) : LI where
  α:={q : RawQ // RawH l.length q}
  live:=[0,1,5,6,8]
  st q:=([.dat (.sl 4 (l.map msgD)),.dat (.sl 1 (ints .i64 fr)),.any (pv q.1.b),.int .i64 q.1.e,.int .i64 (q.1.k : Int)],[.objs q.1.A])
  μ q:=l.length - q.1.k
  sub q:=rwT2 l fr q.1.k
def rwT (l : List Msg) (fr : List Int) : Nat→Option LI
  | 9 => some (rwLI l fr)
  | _ => none
def lwT (l : List Msg) (fr : List Int) : FuncId→Nat→Option LI
  | 5 => rwT l fr
  | _ => fun _ => none
noncomputable def XR (l : List Msg) (fr : List Int) : CallT:=callS Try.prog lwS (lwT l fr) 10
theorem vcRaw (l : List Msg) (fr : List Int) (hvc_ :
 (decide ((↑(List.map msgD l).length : Int) > 60) = true →
 true = true) ∧
 (decide ((↑(List.map msgD l).length : Int) > 60) = false →
 (decide ((↑(ints IntKind.i64 fr).length : Int) < (↑(List.map msgD l).length : Int)) = true →
 true = true) ∧
 (decide ((↑(ints IntKind.i64 fr).length : Int) < (↑(List.map msgD l).length : Int)) = false →
 ∃ (A : List (Sg × KB)),∃ (l_1 : List (Nat × Rep)),InP [] A ∧
 Pool A l_1 ∧
 ∀ (b : Nat) (A' : List (Sg × KB)),Pool A' (l_1 ++ [(b,newR 1 5 false 0 0 z128 [])]) →
 (false = true →
 False) ∧
 (false = false →
 2 ≤ 2 ∧
 ∃ (l_2 : List (Nat × Rep)),∃ (i : Nat),∃ (b_1 : Nat),∃ (R : Rep),Pool A' l_2 ∧
 l_2[i]? = some (b_1,R) ∧
 pv b = pv b_1 ∧
 ∃ (w : Vw),[V.agg [V.int IntKind.i64 5,V.int IntKind.i64 0,V.int IntKind.i64 2,V.dat (D.sl 1 [[D.val (Value.int IntKind.i64 1)],[D.val (Value.int IntKind.i64 0)]]),V.dat (D.sl 1 [])]] = [vwV w] ∧
 RepI R ∧
 w.mem.length + w.joi.length ≤ 1000 ∧
 R.out.length + (othA R.me w.mem w.joi).length ≤ 100000 ∧
 ∀ (A' : List (Sg × KB)),Pool A' (l_2.set i (b_1,viewR R w)) →
 ∃ (l_3 : List (Nat × Rep)),∃ (i : Nat),∃ (b_2 : Nat),∃ (R : Rep),Pool A' l_3 ∧
 l_3[i]? = some (b_2,R) ∧
 pv b = pv b_2 ∧
 NoA [] ∧
 RepI R ∧
 ∀ (A' : List (Sg × KB)),Pool A' (l_3.set i (b_2,R)) →
 At (rwLI l fr) ([V.dat (D.sl 4 (List.map msgD l)),V.dat (D.sl 1 (ints IntKind.i64 fr)),V.any (pv b),V.int IntKind.i64 R.ep,V.int IntKind.i64 0],[KO.objs A']) ∧
 ∀ (i : { q : RawQ // RawH l.length q }),(decide ((↑i.val.k : Int) < (↑(List.map msgD l).length : Int)) = true →
 NonN (↑i.val.k : Int) ∧
 ∃ (e : List D),(List.map msgD l)[(↑i.val.k : Int).toNat]? = some e ∧
 ∃ (l_4 : List (List D)),e[2]? = some (D.sl 1 l_4) ∧
 (decide ((↑l_4.length : Int) > 300) = true →
 true = true) ∧
 (decide ((↑l_4.length : Int) > 300) = false →
 NonN (↑i.val.k : Int) ∧
 ∃ (e : List D),(List.map msgD l)[(↑i.val.k : Int).toNat]? = some e ∧
 ∃ (l_5 : List (List D)),e[3]? = some (D.sl 1 l_5) ∧
 (decide ((↑l_5.length : Int) > 5) = true →
 true = true) ∧
 (decide ((↑l_5.length : Int) > 5) = false →
 NonN (↑i.val.k : Int) ∧
 ∃ (e : List D),(ints IntKind.i64 fr)[(↑i.val.k : Int).toNat]? = some e ∧
 ∃ (n : Int),e[0]? = some (D.val (Value.int IntKind.i64 n)) ∧
 NonN (↑i.val.k : Int) ∧
 ∃ (e : List D),(List.map msgD l)[(↑i.val.k : Int).toNat]? = some e ∧
 ∃ (n_1 : Int),e[0]? = some (D.val (Value.int IntKind.i64 n_1)) ∧
 ∃ (l_6 : List (List D)),e[1]? = some (D.sl 1 l_6) ∧
 ∃ (l_7 : List (List D)),e[2]? = some (D.sl 1 l_7) ∧
 ∃ (l_8 : List (List D)),e[3]? = some (D.sl 1 l_8) ∧
 ∃ (l_9 : List (Nat × Rep)),∃ (i_1 : Nat),∃ (b : Nat),∃ (R : Rep),Pool i.val.A l_9 ∧
 l_9[i_1]? = some (b,R) ∧
 pv i.val.b = pv b ∧
 ∃ (fr_1 : Int),∃ (m : Msg),[V.int IntKind.i64 n,V.agg [V.int IntKind.i64 n_1,V.dat (D.sl 1 l_6),V.dat (D.sl 1 l_7),V.dat (D.sl 1 l_8)]] = [V.int IntKind.i64 fr_1,msV m] ∧
 RepI R ∧
 MsgOk m ∧
 ∀ (A' : List (Sg × KB)),Pool A' (l_9.set i_1 (b,handleR R fr_1 m)) →
 ((((↑i.val.k : Int).tmod 4 == 0) = true →
 ∃ (l_10 : List (Nat × Rep)),∃ (i_2 : Nat),∃ (b : Nat),∃ (R : Rep),Pool A' l_10 ∧
 l_10[i_2]? = some (b,R) ∧
 pv i.val.b = pv b ∧
 NoA [] ∧
 RepI R ∧
 0 ≤ R.ti ∧
 R.ti ≤ 2199023255552 ∧
 R.out.length + (oths R).length ≤ 100000 ∧
 ∀ (A' : List (Sg × KB)),Pool A' (l_10.set i_2 (b,tickR R)) →
 ∃ (l_11 : List (Nat × Rep)),∃ (i_3 : Nat),∃ (b : Nat),∃ (R : Rep),Pool A' l_11 ∧
 l_11[i_3]? = some (b,R) ∧
 pv i.val.b = pv b ∧
 ∃ (o : Op),[V.agg [V.int IntKind.i64 1,V.int IntKind.i64 (IntKind.i64.wrap (1 + (↑i.val.k : Int))),V.int IntKind.i64 2,V.int IntKind.i64 1,V.dat (D.sl 1 [])]] = [opV o] ∧
 RepI R ∧
 R.out.length + (oths R).length ≤ 100000 ∧
 (∀ (c : Int),List.Mem c o.b →
 0 ≤ c ∧
 c < 256) ∧
 o.b.length ≤ 100000 ∧
 ∀ (A' : List (Sg × KB)),Pool A' (l_11.set i_3 (b,(startR R o).snd)) →
 At (rwC l fr i.val.k) ([V.dat (D.sl 4 (List.map msgD l)),V.dat (D.sl 1 (ints IntKind.i64 fr)),V.any (pv i.val.b),V.int IntKind.i64 i.val.e,V.int IntKind.i64 (↑i.val.k : Int)],[KO.objs A'])) ∧
 (((↑i.val.k : Int).tmod 4 == 0) = false →
 At (rwC l fr i.val.k) ([V.dat (D.sl 4 (List.map msgD l)),V.dat (D.sl 1 (ints IntKind.i64 fr)),V.any (pv i.val.b),V.int IntKind.i64 i.val.e,V.int IntKind.i64 (↑i.val.k : Int)],[KO.objs A']))) ∧
 ∀ (i_2 : { q : RawQ // RawI (i.val.k + 1) q }),∃ (l_10 : List (Nat × Rep)),∃ (i_3 : Nat),∃ (b : Nat),∃ (R : Rep),Pool i_2.val.A l_10 ∧
 l_10[i_3]? = some (b,R) ∧
 pv i_2.val.b = pv b ∧
 NoA [] ∧
 RepI R ∧
 ∀ (A' : List (Sg × KB)),Pool A' (l_10.set i_3 (b,R)) →
 ∃ (l_11 : List (Nat × Rep)),∃ (i_4 : Nat),∃ (b : Nat),∃ (R_1 : Rep),Pool A' l_11 ∧
 l_11[i_4]? = some (b,R_1) ∧
 pv i_2.val.b = pv b ∧
 NoA [] ∧
 RepI R_1 ∧
 LeM R_1.ep ∧
 ∀ (A' : List (Sg × KB)),Pool A' (l_11.set i_4 (b,R_1)) →
 ∃ (A : List (Sg × KB)),∃ (l_12 : List (Nat × Rep)),∃ (t : List Int),InP [KO.objs A'] A ∧
 Pool A l_12 ∧
 ints IntKind.u8 (bytesR R_1) = ints IntKind.u8 t ∧
 (∀ (c : Int),List.Mem c t →
 0 ≤ c ∧
 c < 256) ∧
 t.length ≤ 900000 ∧
 (((∃ (ep : Int),∃ (nu : Int),∃ (c : List Int),∃ (x : List L3),IsRep t ep nu c x) →
 False) →
 (decide (R.ep < i_2.val.e) = true →
 False) ∧
 (decide (R.ep < i_2.val.e) = false →
 (true = true →
 False) ∧
 (true = false →
 ∃ (l_13 : List (Nat × Rep)),∃ (i_5 : Nat),∃ (b : Nat),∃ (R_2 : Rep),Pool A' l_13 ∧
 l_13[i_5]? = some (b,R_2) ∧
 Value.pointer none = pv b ∧
 NoA [] ∧
 RepI R_2 ∧
 ∀ (A' : List (Sg × KB)),Pool A' (l_13.set i_5 (b,R_2)) →
 ∃ (l_14 : List (Nat × Rep)),∃ (i_6 : Nat),∃ (b : Nat),∃ (R_3 : Rep),Pool A' l_14 ∧
 l_14[i_6]? = some (b,R_3) ∧
 pv i_2.val.b = pv b ∧
 NoA [] ∧
 RepI R_3 ∧
 ∀ (A' : List (Sg × KB)),Pool A' (l_14.set i_6 (b,R_3)) →
 ((crcI R_2.c != crcI R_3.c) = true →
 False) ∧
 ((crcI R_2.c != crcI R_3.c) = false →
 Nx (rwLI l fr) i ([V.dat (D.sl 4 (List.map msgD l)),V.dat (D.sl 1 (ints IntKind.i64 fr)),V.any (pv i_2.val.b),V.int IntKind.i64 R.ep,V.int IntKind.i64 (IntKind.i64.wrap ((↑i.val.k : Int) + 1))],[KO.objs A']))))) ∧
 ∀ (ep nu : Int) (c : List Int) (x : List L3),IsRep t ep nu c x →
 ∀ (b : Nat) (A' : List (Sg × KB)),Pool A' (l_12 ++ [(b,newR 1 5 false ep nu c x)]) →
 (decide (R.ep < i_2.val.e) = true →
 False) ∧
 (decide (R.ep < i_2.val.e) = false →
 (false = true →
 False) ∧
 (false = false →
 ∃ (l_13 : List (Nat × Rep)),∃ (i_5 : Nat),∃ (b_3 : Nat),∃ (R_2 : Rep),Pool A' l_13 ∧
 l_13[i_5]? = some (b_3,R_2) ∧
 pv b = pv b_3 ∧
 NoA [] ∧
 RepI R_2 ∧
 ∀ (A' : List (Sg × KB)),Pool A' (l_13.set i_5 (b_3,R_2)) →
 ∃ (l_14 : List (Nat × Rep)),∃ (i_6 : Nat),∃ (b : Nat),∃ (R_3 : Rep),Pool A' l_14 ∧
 l_14[i_6]? = some (b,R_3) ∧
 pv i_2.val.b = pv b ∧
 NoA [] ∧
 RepI R_3 ∧
 ∀ (A' : List (Sg × KB)),Pool A' (l_14.set i_6 (b,R_3)) →
 ((crcI R_2.c != crcI R_3.c) = true →
 False) ∧
 ((crcI R_2.c != crcI R_3.c) = false →
 Nx (rwLI l fr) i ([V.dat (D.sl 4 (List.map msgD l)),V.dat (D.sl 1 (ints IntKind.i64 fr)),V.any (pv i_2.val.b),V.int IntKind.i64 R.ep,V.int IntKind.i64 (IntKind.i64.wrap ((↑i.val.k : Int) + 1))],[KO.objs A']))))))) ∧
 (decide ((↑i.val.k : Int) < (↑(List.map msgD l).length : Int)) = false →
 true = true))))
 ) : XR l fr 5 [.dat (.sl 4 (l.map msgD)),.dat (.sl 1 (ints .i64 fr))] [] KT:=by apply Eq.mp (a:=hvc_); kernel_rfl
structure EpS (k : Nat) (R R2 : Rep) : Prop where
  up : R.ep ≤ R2.ep
  e1 : R2.ep ≤ 1099511627776
  nl : leadsR R2 = true→R2.nu ≤ k
  nn : R2.nu ≤ 1099511627776
structure EpI (k : Nat) (R : Rep) : Prop where
  e0 : 0 ≤ R.ep
  e1 : R.ep ≤ 1099511627776
  nl : leadsR R = true→R.nu ≤ k
  nn : R.nu ≤ 1099511627776
theorem eps_of {k : Nat} {R R2 : Rep} (h : EpI k R) (e : R2.ep = R.ep) (n : R2.nu = R.nu) (l : leadsR R2 = true→leadsR R = true) : EpS k R R2:=⟨by rw [e]; exact Int.le_refl _,by rw [e]; exact h.e1,fun q => by rw [n]; exact h.nl (l q),by rw [n]; exact h.nn⟩
theorem finish_ep (R : Rep) : (finishR R).ep = R.ep∧(finishR R).nu = R.nu∧(leadsR (finishR R) = true→leadsR R = true)∧(finishR R).v = R.v:=by
  unfold finishR
  split
  · rename_i L hl
    have hld : leadsR R = true:=by unfold leadsR; rw [hl]; rfl
    split
    · split
      · exact ⟨rfl,rfl,fun _ => hld,rfl⟩
      · exact ⟨rfl,rfl,fun h => h,rfl⟩
    · exact ⟨rfl,rfl,fun h => h,rfl⟩
  · exact ⟨rfl,rfl,fun h => h,rfl⟩
theorem handle_ep {k : Nat} {R : Rep} (h : EpI k R) (fr : Int) (m : Msg) : EpS k R (handleR R fr m):=by
  have same : EpS k R R:=eps_of h rfl rfl fun q => q
  unfold handleR
  split
  · exact same
  · rename_i hg
    have hw:=go_wrong (by simpa using hg)
    have n1:=wrong_ok hw (i:=1)
    have n2:=wrong_ok hw (i:=2)
    have n1 : 0 ≤ mAt m 1∧mAt m 1 ≤ 1099511627776:=n1
    have n2 : 0 ≤ mAt m 2∧mAt m 2 ≤ 1099511627776:=n2
    split
    · unfold syncR
      split
      · exact eps_of h rfl rfl fun q => q
      · rename_i hs
        split
        · refine ⟨?_,n1.2,fun q => by simp [leadsR,sendR,yieldR] at q,n2.2⟩
          show R.ep ≤ mAt m 1
          omega
        · exact same
    · split
      · unfold syncOkR
        split
        · exact same
        · rename_i L hl
          have hld : leadsR R = true:=by unfold leadsR; rw [hl]; rfl
          split
          · exact same
          · split
            · exact eps_of h rfl rfl fun _ => hld
            · exact eps_of h (finish_ep _).1 (finish_ep _).2.1 fun _ => hld
      · split
        · unfold opR
          split
          · exact eps_of h rfl rfl fun q => q
          · split
            · rename_i hs
              obtain ⟨_,k2,k3,_⟩:=hs
              refine ⟨Int.le_refl _,h.e1,fun q => ?_,?_⟩
              · have q : leadsR R = true:=q
                rw [k3] at q; cases q
              · show R.nu + 1 ≤ _; omega
            · exact eps_of h rfl rfl fun q => q
        · split
          · unfold opOkR
            split
            · exact same
            · rename_i L hl
              have hld : leadsR R = true:=by unfold leadsR; rw [hl]; rfl
              split
              · exact same
              · split
                · exact eps_of h (finish_ep _).1 (finish_ep _).2.1 fun _ => hld
                · exact same
          · unfold refusedR
            split
            · exact same
            · rename_i L hl
              have hld : leadsR R = true:=by unfold leadsR; rw [hl]; rfl
              split
              · exact eps_of h rfl rfl fun _ => hld
              · split
                · exact eps_of h rfl rfl fun _ => hld
                · exact eps_of h rfl rfl fun _ => hld
theorem tick_ep {k : Nat} {R : Rep} (h : EpI k R) : EpS k R (tickR R)∧(tickR R).v = R.v∧(tickR R).ti = R.ti + 1∧(tickR R).me = R.me∧(tickR R).id = R.id∧(tickR R).done = R.done:=by
  unfold tickR
  split
  · exact ⟨eps_of h rfl rfl fun q => q,rfl,rfl,rfl,rfl,rfl⟩
  · split
    · exact ⟨eps_of h rfl rfl fun q => q,rfl,rfl,rfl,rfl,rfl⟩
    · exact ⟨eps_of h rfl rfl fun q => q,rfl,rfl,rfl,rfl,rfl⟩
theorem begin_ep (R : Rep) (L : Lead) (o : Op) : (beginR R L o).ep = R.ep∧(beginR R L o).nu = R.nu + 1∧(beginR R L o).v = R.v:=by
  obtain ⟨B,hB⟩ : ∃ B : Rep,B = { doR R o with ld:=some { L with acks:=fun _ => false,cur:=some o } }:=⟨_,rfl⟩
  have e9 : beginR R L o = finishR ((oths B).foldl (fun r k => handR r o k) B):=by subst hB; rfl
  rw [e9,hands_fold]
  obtain ⟨k1,k2,_,k4⟩:=finish_ep { B with out:=B.out ++ (oths B).map (handP B o) }
  rw [k1,k2,k4]
  subst hB
  exact ⟨rfl,rfl,rfl⟩
theorem start_ep {k : Nat} {R : Rep} (h : EpI k R) (hk : k < 1000) (o : Op) : EpS (k + 1) R (startR R o).2∧(startR R o).2.v = R.v:=by
  have same : EpS (k + 1) R R:=⟨Int.le_refl _,h.e1,fun q => by have:=h.nl q; omega,h.nn⟩
  unfold startR
  split
  · exact ⟨same,rfl⟩
  · split
    · exact ⟨same,rfl⟩
    · rename_i L hl
      have hld : leadsR R = true:=by unfold leadsR; rw [hl]; rfl
      have hn:=h.nl hld
      split
      · exact ⟨same,rfl⟩
      · split
        · exact ⟨same,rfl⟩
        · split
          · rename_i e R1 hk
            split at hk
            · unfold knownR at hk
              split at hk
              · cases hk
                exact ⟨⟨same.up,same.e1,same.nl,same.nn⟩,rfl⟩
              · split at hk
                · cases hk; exact ⟨same,rfl⟩
                · split at hk
                  · cases hk
                  · cases hk; exact ⟨same,rfl⟩
            · cases hk
          · obtain ⟨k1,k2,k3⟩:=begin_ep R L o
            refine ⟨⟨?_,?_,fun _ => ?_,?_⟩,k3⟩
            · rw [k1]; exact Int.le_refl _
            · rw [k1]; exact h.e1
            · rw [k2]; omega
            · rw [k2]; omega
theorem isRep_inj {l : List Int} (hb : Byt l) (hl : l.length ≤ 900000) {ep nu ep' nu' : Int} {c c' : List Int} {x x' : List L3} (h : IsRep l ep nu c x) (h' : IsRep l ep' nu' c' x') : ep = ep'∧nu = nu'∧c = c'∧tabW x = tabW x':=by
  have F:=prsA (l:=l) hb hl (Prod.ext rfl (Prod.ext rfl rfl)) (Prod.ext rfl (Prod.ext rfl rfl)) (Prod.ext rfl (Prod.ext rfl rfl)) (Prod.ext rfl (Prod.ext rfl rfl)) rfl
  obtain ⟨a1,a2,a3,a4,_⟩:=F.fwd _ _ _ _ h
  obtain ⟨b1,b2,b3,b4,_⟩:=F.fwd _ _ _ _ h'
  refine ⟨a1.symm.trans b1,a2.symm.trans b2,?_,a4.symm.trans b4⟩
  have e:=congrArg openI (a3.symm.trans b3)
  rw [openI_seal,openI_seal] at e
  exact Option.some.inj e
theorem isRep_of {R : Rep} (h : RepI R) (he : EpI 1000 R) : IsRep (bytesR R) R.ep R.nu R.c (tabR R)∧Byt (bytesR R)∧(bytesR R).length ≤ 900000:=by
  have hx : OkX (tabR R):=h.tx
  refine ⟨⟨rfl,he.e0,he.e1,h.ok.n0,he.nn,h.ok.cl,hx⟩,repW_byt (by have:=he.e1; omega) (by have:=he.nn; omega) h.ok.cl h.ok.cb hx,?_⟩
  have:=repW_len R.ep R.nu h.ok.cl hx.len
  unfold bytesR; omega
structure MsS (m : Msg) : Prop where
  b : Byt m.b
  ls : ∀ y ∈ m.l,Byt y∧y.length ≤ 140737488355328
theorem RawI.ep {k : Nat} {q : RawQ} (h : RawI k q) : EpI k q.R:=⟨h.e0,h.e1,h.nl,h.nn⟩
theorem EpI.mono {k k' : Nat} {R : Rep} (h : EpI k R) (hk : k ≤ k') : EpI k' R:=⟨h.e0,h.e1,fun q => by have:=h.nl q; omega,h.nn⟩
theorem EpS.i {k : Nat} {R R2 : Rep} (h : EpI k R) (s : EpS k R R2) : EpI k R2:=⟨Int.le_trans h.e0 s.up,s.e1,s.nl,s.nn⟩
def rawR : Rep:=viewR (newR 1 5 false 0 0 z128 []) rawV
theorem raw0_i : RepI (newR 1 5 false 0 0 z128 []):=new_i 1 5 false 0 (by omega) (by omega) rfl z128_byt okX_nil
theorem raw1_t : RepT 1 (newR 1 5 false 0 0 z128 []) rawR:=view_i (w:=rawV) raw0_i (by decide) (by decide) (by decide)
theorem raw1_i : RepI rawR:=raw1_t.i
theorem raw_eq : rawR.ep = 2∧rawR.nu = 0∧rawR.v = rawV∧rawR.ti = 0∧rawR.me = 1∧rawR.id = 5∧rawR.done = []:=by
  refine ⟨?_,?_,?_,?_,?_,?_,?_⟩ <;> kernel_rfl
theorem raw_oths {R : Rep} (h1 : R.me = 1) (h2 : R.v = rawV) : (oths R).length = 1:=by unfold oths; rw [h1,h2]; rfl
theorem rawXR_ok (l : List Msg) (fr : List Int) (h : AllOk Try.prog lwS) : CallOk Try.prog (XR l fr):=callS_ok mixed h _ 10
theorem lwS_ok : AllOk Try.prog lwS:=fun f k h => by
  unfold lwS at h
  split at h
  · cases h; exact okAwake
  · cases h; exact okBoth
  · exact rpS_ok _ _ h
theorem XR_ok (l : List Msg) (fr : List Int) : CallOk Try.prog (XR l fr):=callS_ok mixed lwS_ok _ 10
theorem lawRaw (l : List Msg) (fr : List Int) (hm : ∀ m ∈ l,MsS m) (hl : l.length ≤ 9223372036854775807) : XR l fr 5 [.dat (.sl 4 (l.map msgD)),.dat (.sl 1 (ints .i64 fr))] [] KT:=by
  apply vcRaw l fr
  rw [List.length_map,ints_len]
  refine ⟨fun _ => by trivial,fun q1 => ⟨fun _ => by trivial,fun q2 => ⟨[],[],⟨.inl ⟨rfl,rfl⟩⟩,pool_nil,fun b A1 p1 => ⟨fun q => (by cases q),fun _ => ⟨Nat.le_refl _,[(b,newR 1 5 false 0 0 z128 [])],0,b,_,p1,rfl,rfl,rawV,rfl,raw0_i,by decide,by decide,fun A2 p2 => ?_⟩⟩⟩⟩⟩
  have hl60 : l.length ≤ 60:=by simp only [gt_iff_lt,decide_eq_false_iff_not] at q1; omega
  have hfr : l.length ≤ fr.length:=by simp only [decide_eq_false_iff_not] at q2; omega
  refine ⟨[(b,rawR)],0,b,rawR,p2,rfl,rfl,⟨rfl⟩,raw1_i,fun A3 p3 => ?_⟩
  obtain ⟨r1,r2,r3,r4,r5,r6,r7⟩:=raw_eq
  have ro:=raw1_t.o
  refine ⟨At.mk' (⟨⟨0,b,rawR.ep,rawR,A3,[]⟩,⟨Nat.zero_le _,rfl,⟨rfl,p3,raw1_i,r5,r6,r3,Nat.le_trans ro (Nat.le_trans (show 0 + 1 ≤ 10 by decide) (Nat.le_add_right _ _)),by rw [r7]; exact Nat.zero_le _,by rw [r4]; exact Int.le_refl _,by rw [r4]; exact Int.le_refl _,by rw [r1]; omega,by rw [r1]; omega,fun _ => by rw [r2]; exact Int.le_refl _,by rw [r2]; omega,Int.le_refl _⟩⟩⟩ : {q : RawQ // RawH l.length q}) ?_,?_⟩
  · rfl
  rintro ⟨⟨k,bb,e,R,A4,rest⟩,hk,he,hI⟩
  dsimp only at hk he hI ⊢
  simp only [decide_eq_true_eq,decide_eq_false_iff_not]
  refine ⟨fun hlt => ?_,fun _ => by trivial⟩
  have hlt : k < l.length:=by omega
  have hge:=List.getElem?_eq_getElem hlt
  have hmm:=hm _ (List.mem_of_getElem? hge)
  generalize l[k] = m at hge hmm
  have hgd : (l.map msgD)[((k : Nat) : Int).toNat]? = some (msgD m):=by rw [Int.toNat_natCast,List.getElem?_map,hge]; rfl
  have hfl : k < fr.length:=by omega
  have hgf:=List.getElem?_eq_getElem hfl
  generalize fr[k] = f at hgf
  have hgfd : (ints .i64 fr)[((k : Nat) : Int).toNat]? = some [dn .i64 f]:=by rw [Int.toNat_natCast,ints_getElem?,hgf]; rfl
  have hnn : NonN ((k : Nat) : Int):=by unfold NonN; omega
  refine ⟨hnn,_,hgd,ints .u8 m.b,rfl,fun _ => by trivial,fun q3 => ⟨hnn,_,hgd,lsD m.l,rfl,fun _ => by trivial,fun q4 => ?_⟩⟩
  have hb3 : m.b.length ≤ 300:=by rw [ints_len] at q3; omega
  obtain ⟨_,iP,iR,ime,iid,iv,io,idn,it0,it1,ie0,ie1,inl,inn,ile⟩:=hI
  dsimp only at iP iR ime iid iv io idn it0 it1 ie0 ie1 inl inn ile
  have hep : EpI k R:=⟨ie0,ie1,inl,inn⟩
  have hk60 : k < 60:=by omega
  refine ⟨hnn,_,hgfd,f,rfl,hnn,_,hgd,m.kd,rfl,ints .i64 m.n,rfl,ints .u8 m.b,rfl,lsD m.l,rfl,_,0,bb,R,iP,rfl,rfl,f,m,rfl,iR,⟨hmm.b,by omega,hmm.ls⟩,fun A5 p5 => ?_⟩
  have hS:=handle_i iR (by omega) (by omega) f (m:=m) ⟨hmm.b,by omega,hmm.ls⟩
  have hE:=handle_ep hep f m
  have hEI:=hE.i hep
  have p5 : Pool A5 ((bb,handleR R f m) :: rest):=p5
  have so:=hS.o
  have sd:=hS.d
  have sme:=hS.me
  have sid:=hS.id
  have sv:=hS.v
  have sti:=hS.ti
  have si:=hS.i
  have hup:=hE.up
  generalize handleR R f m = R1 at *
  refine ⟨⟨fun _ => ?_,fun _ => ?_⟩,?_⟩
  · refine ⟨_,0,bb,R1,p5,rfl,rfl,⟨rfl⟩,si,by omega,by omega,by rw [raw_oths (sme.trans ime) (sv.trans iv)]; omega,fun A6 p6 => ?_⟩
    have hT:=tick_i si (by rw [raw_oths (sme.trans ime) (sv.trans iv)]; omega)
    rw [raw_oths (sme.trans ime) (sv.trans iv)] at hT
    obtain ⟨t1,t2,t3,t4,t5,t6⟩:=tick_ep hEI
    have p6 : Pool A6 ((bb,tickR R1) :: rest):=p6
    obtain ⟨ti,to⟩:=hT
    have t1i:=t1.i hEI
    have t1u:=t1.up
    generalize tickR R1 = R2 at *
    have o2:=raw_oths (R:=R2) (by rw [t4,sme,ime]) (by rw [t2,sv,iv])
    refine ⟨_,0,bb,R2,p6,rfl,rfl,⟨1,1 + (k : Int),2,1,[]⟩,by rw [w64 (by omega) (by omega)]; rfl,ti,by rw [o2]; omega,fun c hc => (by cases hc),Nat.zero_le _,fun A7 p7 => ?_⟩
    have hSt:=start_i ti (o:=⟨1,1 + (k : Int),2,1,[]⟩) ⟨fun c hc => (by cases hc),Nat.zero_le _⟩ (by have:=t1i.nn; omega) (by rw [o2]; omega) (by rw [t6]; omega)
    obtain ⟨u1,u2⟩:=start_ep t1i (by omega) ⟨1,1 + (k : Int),2,1,[]⟩
    have p7 : Pool A7 ((bb,(startR R2 ⟨1,1 + (k : Int),2,1,[]⟩).2) :: rest):=p7
    have wo:=hSt.o
    have wd:=hSt.d
    rw [o2] at wo
    rw [t6] at wd
    have wti:=hSt.ti
    refine At.mk' (⟨⟨k + 1,bb,e,(startR R2 ⟨1,1 + (k : Int),2,1,[]⟩).2,A7,rest⟩,?_⟩ : {q : RawQ // RawI (k + 1) q}) rfl
    exact ⟨rfl,p7,hSt.i,by rw [hSt.me,t4,sme,ime],by rw [hSt.id,t5,sid,iid],by rw [u2,t2,sv,iv],by dsimp only; omega,by dsimp only; omega,by dsimp only; omega,by dsimp only; omega,Int.le_trans t1i.e0 u1.up,u1.e1,u1.nl,u1.nn,by have:=u1.up; dsimp only at this ⊢; omega⟩
  · refine At.mk' (⟨⟨k + 1,bb,e,R1,A5,rest⟩,?_⟩ : {q : RawQ // RawI (k + 1) q}) rfl
    exact ⟨rfl,p5,si,by rw [sme,ime],by rw [sid,iid],by rw [sv,iv],by dsimp only; omega,by dsimp only; omega,by dsimp only; omega,by dsimp only; omega,hEI.e0,hEI.e1,(hEI.mono (Nat.le_succ k)).nl,hEI.nn,by dsimp only; omega⟩
  · rintro ⟨⟨k2,b2,e2,R2,A6,rest2⟩,hI⟩
    have hI0:=hI
    obtain ⟨_,jP,jR,_,_,_,_,_,_,_,j0,j1,jl,jn,jle⟩:=hI
    dsimp only at jP jR j0 j1 jl jn jle ⊢
    have jE : EpI 1000 R2:=EpI.mono (k:=k + 1) ⟨j0,j1,jl,jn⟩ (by omega)
    obtain ⟨w1,w2,w3⟩:=isRep_of jR jE
    refine ⟨_,0,b2,R2,jP,rfl,rfl,⟨rfl⟩,jR,fun A7 p7 => ?_⟩
    refine ⟨_,0,b2,R2,p7,rfl,rfl,⟨rfl⟩,jR,⟨by omega⟩,fun A8 p8 => ?_⟩
    have p8 : Pool A8 ((b2,R2) :: rest2):=p8
    refine ⟨A8,_,bytesR R2,⟨.inr rfl⟩,p8,rfl,w2,w3,fun hno => absurd ⟨_,_,_,_,w1⟩ hno,fun ep nu c x hr b3 A9 p9 => ?_⟩
    obtain ⟨_,_,rfl,_⟩:=isRep_inj w2 w3 hr w1
    refine ⟨fun q => absurd q (by omega),fun _ => ⟨fun q => (by cases q),fun _ => ?_⟩⟩
    have hN : RepI (newR 1 5 false ep nu R2.c x):=new_i 1 5 false ep hr.n0 (by have:=hr.n1; omega) jR.ok.cl jR.ok.cb hr.x
    refine ⟨_,rest2.length + 1,b3,_,p9,by simp,rfl,⟨rfl⟩,hN,fun A10 p10 => ?_⟩
    have p10 : Pool A10 ((b2,R2) :: (rest2 ++ [(b3,newR 1 5 false ep nu R2.c x)]).set rest2.length (b3,newR 1 5 false ep nu R2.c x)):=p10
    refine ⟨_,0,b2,R2,p10,rfl,rfl,⟨rfl⟩,jR,fun A11 p11 => ⟨fun q => ?_,fun _ => ?_⟩⟩
    · have q : (crcI R2.c != crcI R2.c) = true:=q
      simp at q
    · refine Nx.mk' (⟨⟨k + 1,b2,R2.ep,R2,A11,_⟩,⟨hlt,rfl,⟨rfl,p11,jR,hI0.me,hI0.id,hI0.v,hI0.o,hI0.d,hI0.t0,hI0.t1,j0,j1,jl,jn,Int.le_refl _⟩⟩⟩ : {q : RawQ // RawH l.length q}) ?_ ?_
      · rw [w64 (by omega) (by omega)]; rfl
      · show l.length - (k + 1) < l.length - k; omega
theorem intsS {N : Nat} {k : IntKind} : ∀ {l : List (List D)},(∀ x ∈ l,ConfS N [.int k] x)→∃ zs,l = ints k zs∧∀ n ∈ zs,(Lit.int k n).wf = true
  | [],_ => ⟨[],rfl,fun n h => by cases h⟩
  | x :: l,h => by
    obtain ⟨zs,rfl,hz⟩:=intsS (l:=l) (fun y hy => h y (List.mem_cons_of_mem _ hy))
    have h0:=h x List.mem_cons_self
    simp only [ConfS,ConfDS] at h0
    obtain ⟨_,_,rfl,⟨n,rfl,hn⟩,rfl⟩:=h0
    exact ⟨n :: zs,rfl,fun m hm => by
      rcases List.mem_cons.1 hm with rfl | hm
      · exact hn
      · exact hz m hm⟩
theorem bytS {l : List Int} (h : ∀ n ∈ l,(Lit.int .u8 n).wf = true) : Byt l:=fun c hc => by have:=bounds_u8 (h c hc); omega
theorem lsS : ∀ {l : List (List D)},(∀ x ∈ l,ConfS 140737488355328 [.sl [.int .u8]] x)→∃ zs,l = lsD zs∧∀ y ∈ zs,Byt y∧y.length ≤ 140737488355328
  | [],_ => ⟨[],rfl,fun n h => by cases h⟩
  | x :: l,h => by
    obtain ⟨zs,rfl,hz⟩:=lsS (l:=l) (fun y hy => h y (List.mem_cons_of_mem _ hy))
    have h0:=h x List.mem_cons_self
    simp only [ConfS,ConfDS] at h0
    obtain ⟨_,_,rfl,⟨y,rfl,hy,hc⟩,rfl⟩:=h0
    obtain ⟨b,rfl,hb⟩:=intsS (N:=140737488355328) hc
    rw [ints_len] at hy
    exact ⟨b :: zs,rfl,fun m hm => by
      rcases List.mem_cons.1 hm with rfl | hm
      · exact ⟨bytS hb,hy⟩
      · exact hz m hm⟩
theorem msgsS : ∀ {l : List (List D)},(∀ x ∈ l,ConfS 140737488355328 [.int .i64,.sl [.int .i64],.sl [.int .u8],.sl [.sl [.int .u8]]] x)→∃ ms : List Msg,l = ms.map msgD∧∀ m ∈ ms,MsS m
  | [],_ => ⟨[],rfl,fun n h => by cases h⟩
  | x :: l,h => by
    obtain ⟨zs,rfl,hz⟩:=msgsS (l:=l) (fun y hy => h y (List.mem_cons_of_mem _ hy))
    have h0:=h x List.mem_cons_self
    simp only [ConfS,ConfDS] at h0
    obtain ⟨_,_,rfl,⟨k,rfl,_⟩,_,_,rfl,⟨n,rfl,_,hn⟩,_,_,rfl,⟨b,rfl,_,hb⟩,_,_,rfl,⟨ls,rfl,_,hls⟩,rfl⟩:=h0
    obtain ⟨n,rfl,_⟩:=intsS (N:=140737488355328) hn
    obtain ⟨b,rfl,hb2⟩:=intsS (N:=140737488355328) hb
    obtain ⟨ls,rfl,hls2⟩:=lsS (fun x hx => by simpa only [ConfS,ConfDS] using hls x hx)
    exact ⟨⟨k,n,b,ls⟩ :: zs,rfl,fun m hm => by
      rcases List.mem_cons.1 hm with rfl | hm
      · exact ⟨bytS hb2,hls2⟩
      · exact hz m hm⟩
end Go.Proofs.Ytfcjngcnifdmnaa
namespace Go.Proofs.Ytfcjngcnifdmnaa
open Vc Go
set_option linter.unusedVariables false
set_option linter.unusedSimpArgs false
set_option maxRecDepth 100000
theorem boN_s : ∀ (n : Nat) (p : RR),boN (n + 1) p = boN n (boS p)
  | 0,p => rfl
  | n + 1,p => by show boS (boN (n + 1) p) = boS (boN n (boS p)); rw [boN_s n p]
theorem noO_id {R : Rep} (h : R.out = []) : noO R = R:=by
  cases R; simp only [noO] at h ⊢; rw [h]
theorem boS_id {p : RR} (ha : p.a.out = []) (hb : p.b.out = []) : boS p = p:=by
  obtain ⟨a,b⟩:=p
  dsimp only at ha hb
  unfold boS
  have e1 : dlvR 0 a.out b = b:=by rw [ha]; rfl
  dsimp only
  rw [e1,hb,noO_id ha,noO_id hb]
  rfl
theorem boN_id {p : RR} (ha : p.a.out = []) (hb : p.b.out = []) : ∀ n,boN n p = p
  | 0 => rfl
  | n + 1 => by show boS (boN n p) = p; rw [boN_id ha hb n,boS_id ha hb]
structure AB (E n : Int) (c : List Int) (t : List L3) (p : RR) : Prop where
  a : RepI p.a
  b : RepI p.b
  ame : p.a.me = 0
  bme : p.b.me = 1
  aid : p.a.id = 5
  bid : p.b.id = 5
  aep : p.a.ep = E
  bep : p.b.ep = E
  anu : p.a.nu = n
  bnu : p.b.nu = n
  ac : p.a.c = c
  bc : p.b.c = c
  at' : p.a.t = t
  bt : p.b.t = t
  ao : p.a.out = []
  bo : p.b.out = []
  av : othA 0 p.a.v.mem p.a.v.joi = [1]
  bl : p.b.ld = none
  al : ∃ L,p.a.ld = some L∧L.ins 1 = true∧L.cur = none
theorem msgGo_of {R : Rep} {fr : Int} {m : Msg} (h1 : 10 ≤ m.kd) (h2 : m.kd ≤ 14) (h3 : m.n.length = cntM m.kd) (h4 : mAt m 0 = R.id) (h5 : fr ≠ R.me) (h6 : ∀ x ∈ m.n,0 ≤ x∧x ≤ 1099511627776) : msgGo R fr m = true:=by
  unfold msgGo
  rw [Bool.and_eq_true]
  refine ⟨by simp only [decide_eq_true_eq]; exact ⟨h1,h2,h3,h4,h5⟩,?_⟩
  rw [Bool.not_eq_true',List.any_eq_false]
  intro x hx
  have:=h6 x hx
  simp only [isWrong,decide_eq_true_eq]
  omega
theorem mem8 {P : Int→Prop} {a b c d e f g h : Int} (h1 : P a) (h2 : P b) (h3 : P c) (h4 : P d) (h5 : P e) (h6 : P f) (h7 : P g) (h8 : P h) : ∀ x ∈ [a,b,c,d,e,f,g,h],P x:=by
  intro x hx
  simp only [List.mem_cons,List.not_mem_nil,or_false] at hx
  rcases hx with rfl | rfl | rfl | rfl | rfl | rfl | rfl | rfl <;> assumption
theorem mem3 {P : Int→Prop} {a b c : Int} (h1 : P a) (h2 : P b) (h3 : P c) : ∀ x ∈ [a,b,c],P x:=by
  intro x hx
  simp only [List.mem_cons,List.not_mem_nil,or_false] at hx
  rcases hx with rfl | rfl | rfl <;> assumption
theorem crc_rg (l : List Int) : 0 ≤ crcI l∧crcI l ≤ 1099511627776:=by
  have:=crcI_range l
  omega
theorem op_next {b : Rep} {o : Op} {c : List Int} {E n : Int} (hid : b.id = 5) (hme : b.me = 1) (hep : b.ep = E) (hnu : b.nu = n) (hld : b.ld = none) (hc : b.c = c) (hr : rtOp o = true) (hE : 0 ≤ E∧E ≤ 1099511627776) (hn : 0 ≤ n∧n < 1000000) :
    handleR b 0 ⟨12,[5,E,n + 1,o.cl,o.nm,o.kd,o.bk,crcI (doC c o.kd o.bk o.b)],o.b,[]⟩ = sendR (doR b o) 0 13 [n + 1] [] []:=by
  have hb:=rt_of hr
  have hg : msgGo b 0 ⟨12,[5,E,n + 1,o.cl,o.nm,o.kd,o.bk,crcI (doC c o.kd o.bk o.b)],o.b,[]⟩ = true :=
    msgGo_of (by show (10 : Int) ≤ 12; omega) (by show (12 : Int) ≤ 14; omega) rfl hid.symm (by rw [hme]; omega) (mem8 (P:=fun x => 0 ≤ x∧x ≤ 1099511627776) ⟨by omega,by omega⟩ hE ⟨by omega,by omega⟩ ⟨by omega,by omega⟩ ⟨by omega,by omega⟩ ⟨by omega,by omega⟩ ⟨by omega,by omega⟩ (crc_rg _))
  rw [handleR_12 hg]
  have h7 : opOf ⟨12,[5,E,n + 1,o.cl,o.nm,o.kd,o.bk,crcI (doC c o.kd o.bk o.b)],o.b,[]⟩ = o:=rfl
  have hlead : leadsR b = false:=by unfold leadsR; rw [hld]; rfl
  have h5 : o.kd ≠ 4∨crcI b.c = crcI (doC c o.kd o.bk o.b):=by
    by_cases hk : o.kd = 4
    · right; rw [hk,doCn (by omega) (by omega),hc]
    · exact .inl hk
  unfold opR
  rw [if_neg (fun h => by have h2 : n + 1 = b.nu:=h.2.1; omega),if_pos ⟨hep.symm,by show n + 1 = b.nu + 1; omega,hlead,by rw [h7]; exact hr,h5⟩,h7,hnu]
theorem opOk_last {a : Rep} {o : Op} {f g : Int→Bool} {E n : Int} (hid : a.id = 5) (hme : a.me = 0) (hep : a.ep = E) (hnu : a.nu = n) (hld : a.ld = some ⟨f,g,some o⟩) (ho : oths a = [1]) (hE : 0 ≤ E∧E ≤ 1099511627776) (hn : 0 ≤ n∧n < 10000000) :
    handleR a 1 ⟨13,[5,E,n],[],[]⟩ = { a with ld:=some ⟨f,mark g 1 true,none⟩,done:=a.done ++ [⟨o,0,rdX a.c o⟩] }:=by
  have hg : msgGo a 1 ⟨13,[5,E,n],[],[]⟩ = true :=
    msgGo_of (by show (10 : Int) ≤ 13; omega) (by show (13 : Int) ≤ 14; omega) rfl hid.symm (by rw [hme]; omega) (mem3 (P:=fun x => 0 ≤ x∧x ≤ 1099511627776) ⟨by omega,by omega⟩ hE ⟨by omega,by omega⟩)
  rw [handleR_13 hg]
  unfold opOkR
  rw [hld]
  dsimp only
  rw [if_pos ⟨hep.symm,hnu.symm⟩]
  unfold finishR
  dsimp only
  have ho2 : oths { a with ld:=some ⟨f,mark g 1 true,some o⟩ } = [1]:=ho
  rw [ho2,if_pos (by simp [mark])]
theorem ab_step {E n : Int} {c : List Int} {t : List L3} {p : RR} (h : AB E n c t p) {o : Op} (hr : rtOp o = true) (ho : OpI o) (hE : 0 ≤ E∧E ≤ 1099511627776) (hn : 0 ≤ n∧n < 1000000) (hk : chgOp o = true→chkK t o.cl o.nm = 0∧putE t o.cl o.nm 0 = 0) (hd : p.a.done.length < 1000∧p.b.done.length < 1000) :
    (startR p.a o).1 = 0∧∃ q,boN 20 ⟨(startR p.a o).2,p.b⟩ = q∧AB E (n + 1) (doC c o.kd o.bk o.b) (doT t o) q∧q.a.done = p.a.done ++ [⟨o,0,rdX (doC c o.kd o.bk o.b) o⟩]∧q.b.done = p.b.done∧q.b.v = p.b.v∧q.a.v = p.a.v∧q.b.lo = p.b.lo∧q.b.bl = p.b.bl:=by
  obtain ⟨L,hL,hins,hcur⟩:=h.al
  have hoth : oths p.a = [1]:=by unfold oths; rw [h.ame]; exact h.av
  have hready : readyR p.a = true:=by unfold readyR; rw [hL]; simp [hoth,hins]
  have hbusy : busyR p.a = false:=by unfold busyR curR; rw [hL]; simp [hcur]
  have hkn : chgOp o = true→knownR p.a o = none:=fun hc => by
    obtain ⟨k1,k2⟩:=hk hc
    have e : tabR p.a = t:=by unfold tabR; rw [h.at']
    unfold knownR
    rw [e,k1,k2]; rfl
  have hst:=startR_go (R:=p.a) hr hL hready hbusy hkn
  have hb:=beginR_wait (R:=p.a) (L:=L) (o:=o) (by rw [hoth]; simp)
  have hSi:=start_i h.a ho (by rw [h.anu]; omega) (by rw [h.ao,hoth]; show 0 + 1 ≤ _; omega) (by have:=hd.1; omega)
  rw [hst] at hSi ⊢
  refine ⟨rfl,?_⟩
  dsimp only at hSi ⊢
  obtain ⟨A,hA⟩ : ∃ A,A = beginR p.a L o:=⟨_,rfl⟩
  rw [← hA] at hSi hb ⊢
  have hmsg : A.out = [⟨1,⟨12,[5,E,n + 1,o.cl,o.nm,o.kd,o.bk,crcI (doC c o.kd o.bk o.b)],o.b,[]⟩⟩]:=by
    rw [hb]
    show p.a.out ++ (oths p.a).map (handP (doR p.a o) o) = _
    rw [h.ao,hoth]
    show [handP (doR p.a o) o 1] = _
    unfold handP doR
    dsimp only
    rw [h.aid,h.aep,h.anu,h.ac]
  have e1 : dlvR 0 A.out p.b = sendR (doR p.b o) 0 13 [n + 1] [] []:=by
    rw [hmsg]
    exact op_next h.bid h.bme h.bep h.bnu h.bl h.bc hr hE hn
  have hbI : RepI (dlvR 0 A.out p.b):=(dlv_i 0 A.out p.b h.b hSi.i.om (by rw [h.bo,hmsg]; show 0 + 1 ≤ _; omega) (by rw [hmsg]; show _ + 1 ≤ _; omega)).i
  have hbo : (sendR (doR p.b o) 0 13 [n + 1] [] []).out = [⟨0,⟨13,[5,E,n + 1],[],[]⟩⟩]:=by
    show p.b.out ++ [⟨0,⟨13,[p.b.id,p.b.ep,n + 1],[],[]⟩⟩] = _
    rw [h.bo,h.bid,h.bep]; rfl
  have hAc : A.c = doC c o.kd o.bk o.b:=by rw [hb,← h.ac]
  have hAd : A.done = p.a.done:=by rw [hb]
  have hAnu : A.nu = n + 1:=by rw [hb,← h.anu]
  have hAep : A.ep = E:=by rw [hb,← h.aep]
  have hAv : A.v = p.a.v:=by rw [hb]
  have hAme : A.me = 0:=by rw [hb]; exact h.ame
  have hAid : A.id = 5:=by rw [hb]; exact h.aid
  have hAt : A.t = doT t o:=by rw [hb,← h.at']
  have hAl : A.ld = some ⟨L.ins,fun _ => false,some o⟩:=by rw [hb]
  have hAo : oths (noO A) = [1]:=by
    show othA A.me A.v.mem A.v.joi = [1]
    rw [hAme,hAv]; exact h.av
  have e2 : dlvR 1 (dlvR 0 A.out p.b).out (noO A) = { noO A with ld:=some ⟨L.ins,mark (fun _ => false) 1 true,none⟩,done:=A.done ++ [⟨o,0,rdX A.c o⟩] }:=by
    rw [e1,hbo]
    exact opOk_last (a:=noO A) hAid hAme hAep hAnu hAl hAo hE ⟨by omega,by omega⟩
  have haI : RepI (dlvR 1 (dlvR 0 A.out p.b).out (noO A)):=(dlv_i 1 _ (noO A) (noO_i hSi.i) hbI.om (by rw [e1,hbo]; show 0 + 1 ≤ _; omega) (by rw [e1,hbo]; show A.done.length + 1 ≤ _; rw [hAd]; omega)).i
  have es : boS ⟨A,p.b⟩ = ⟨{ noO A with ld:=some ⟨L.ins,mark (fun _ => false) 1 true,none⟩,done:=A.done ++ [⟨o,0,rdX A.c o⟩] },noO (sendR (doR p.b o) 0 13 [n + 1] [] [])⟩:=by
    unfold boS
    dsimp only
    rw [e2,e1]
  refine ⟨_,rfl,?_⟩
  rw [boN_s 19,es,boN_id rfl rfl]
  rw [e2] at haI
  rw [e1] at hbI
  refine ⟨⟨haI,noO_i hbI,hAme,h.bme,hAid,h.bid,hAep,h.bep,hAnu,by show p.b.nu + 1 = _; rw [h.bnu],hAc,by show doC p.b.c _ _ _ = _; rw [h.bc],hAt,by show doT p.b.t o = _; rw [h.bt],rfl,rfl,by show othA 0 A.v.mem A.v.joi = _; rw [hAv]; exact h.av,h.bl,⟨_,rfl,hins,rfl⟩⟩,?_,rfl,rfl,hAv,rfl,rfl⟩
  show A.done ++ [⟨o,0,rdX A.c o⟩] = _
  rw [hAd,hAc]
theorem sync_first {b : Rep} {c : List Int} {E n : Int} (hid : b.id = 5) (hme : b.me = 1) (hep : b.ep < E) (hld : b.ld = none) (hc : c.length = 128) (hE : 0 ≤ E∧E ≤ 1099511627776) (hn : 0 ≤ n∧n < 1000000) :
    handleR b 0 ⟨10,[5,E,n],sealI c,[tabW []]⟩ = sendR { b with ep:=E,nu:=n,c:=c,t:=[],ch:=true } 0 11 [n] [] []:=by
  have hg : msgGo b 0 ⟨10,[5,E,n],sealI c,[tabW []]⟩ = true :=
    msgGo_of (by show (10 : Int) ≤ 10; omega) (by show (10 : Int) ≤ 14; omega) rfl hid.symm (by rw [hme]; omega) (mem3 (P:=fun x => 0 ≤ x∧x ≤ 1099511627776) ⟨by omega,by omega⟩ hE ⟨by omega,by omega⟩)
  rw [handleR_10 hg]
  have hnk : ¬ syNk b E n [tabW []]:=by
    unfold syNk
    rintro (h | ⟨h,_⟩ | h)
    · omega
    · omega
    · exact h rfl
  have hlc : loadC (sealI c) = some c:=by
    unfold loadC; rw [openI_seal]; dsimp only; rw [if_pos hc]
  rw [syncR_ok hnk hlc (t:=[]) (loadT_of okX_nil rfl)]
  unfold sendR yieldR curR
  rw [hld]
  simp only [Option.bind_none,List.append_nil,hid]
theorem syncOk_last {a : Rep} {f g : Int→Bool} {E n : Int} (hid : a.id = 5) (hme : a.me = 0) (hep : a.ep = E) (hnu : a.nu = n) (hld : a.ld = some ⟨f,g,none⟩) (hE : 0 ≤ E∧E ≤ 1099511627776) (hn : 0 ≤ n∧n < 10000000) :
    handleR a 1 ⟨11,[5,E,n],[],[]⟩ = { a with ld:=some ⟨mark f 1 true,g,none⟩ }:=by
  have hg : msgGo a 1 ⟨11,[5,E,n],[],[]⟩ = true :=
    msgGo_of (by show (10 : Int) ≤ 11; omega) (by show (11 : Int) ≤ 14; omega) rfl hid.symm (by rw [hme]; omega) (mem3 (P:=fun x => 0 ≤ x∧x ≤ 1099511627776) ⟨by omega,by omega⟩ hE ⟨by omega,by omega⟩)
  rw [handleR_11 hg]
  unfold syncOkR
  rw [hld]
  dsimp only
  rw [if_neg (by
    rintro (h | h)
    · exact h hep.symm
    · exact h hnu.symm)]
theorem ab_first {E n : Int} {p : RR} {f g : Int→Bool} (ha : RepI p.a) (hb : RepI p.b) (ame : p.a.me = 0) (bme : p.b.me = 1) (aid : p.a.id = 5) (bid : p.b.id = 5) (aep : p.a.ep = E) (anu : p.a.nu = n) (at' : p.a.t = []) (av : othA 0 p.a.v.mem p.a.v.joi = [1]) (ald : p.a.ld = some ⟨f,g,none⟩)
    (ao : p.a.out = [⟨1,⟨10,[5,E,n],sealI p.a.c,[tabW []]⟩⟩]) (bep : p.b.ep < E) (bld : p.b.ld = none) (bo : p.b.out = []) (hE : 0 ≤ E∧E ≤ 1099511627776) (hn : 0 ≤ n∧n < 1000000) (hd : p.a.done.length < 1000∧p.b.done.length < 1000) :
    ∃ q,boN 20 p = q∧AB E n p.a.c [] q∧q.a.done = p.a.done∧q.b.done = p.b.done∧q.b.v = p.b.v∧q.a.v = p.a.v∧q.b.lo = p.b.lo∧q.b.bl = p.b.bl:=by
  have e1 : dlvR 0 p.a.out p.b = sendR { p.b with ep:=E,nu:=n,c:=p.a.c,t:=[],ch:=true } 0 11 [n] [] []:=by
    rw [ao]
    exact sync_first bid bme bep bld ha.ok.cl hE hn
  have hbI : RepI (dlvR 0 p.a.out p.b):=(dlv_i 0 p.a.out p.b hb ha.om (by rw [bo,ao]; show 0 + 1 ≤ _; omega) (by rw [ao]; show _ + 1 ≤ _; omega)).i
  have hbo : (sendR { p.b with ep:=E,nu:=n,c:=p.a.c,t:=[],ch:=true } 0 11 [n] [] []).out = [⟨0,⟨11,[5,E,n],[],[]⟩⟩]:=by
    show p.b.out ++ [⟨0,⟨11,[p.b.id,E,n],[],[]⟩⟩] = _
    rw [bo,bid]; rfl
  have e2 : dlvR 1 (dlvR 0 p.a.out p.b).out (noO p.a) = { noO p.a with ld:=some ⟨mark f 1 true,g,none⟩ }:=by
    rw [e1,hbo]
    exact syncOk_last (a:=noO p.a) aid ame aep anu ald hE ⟨by omega,by omega⟩
  have haI : RepI (dlvR 1 (dlvR 0 p.a.out p.b).out (noO p.a)):=(dlv_i 1 _ (noO p.a) (noO_i ha) hbI.om (by rw [e1,hbo]; show 0 + 1 ≤ _; omega) (by rw [e1,hbo]; show p.a.done.length + 1 ≤ _; omega)).i
  have es : boS p = ⟨{ noO p.a with ld:=some ⟨mark f 1 true,g,none⟩ },noO (sendR { p.b with ep:=E,nu:=n,c:=p.a.c,t:=[],ch:=true } 0 11 [n] [] [])⟩:=by
    unfold boS
    rw [e2,e1]
  refine ⟨_,rfl,?_⟩
  rw [boN_s 19,es,boN_id rfl rfl]
  rw [e2] at haI
  rw [e1] at hbI
  exact ⟨⟨haI,noO_i hbI,ame,bme,aid,bid,aep,rfl,anu,rfl,rfl,rfl,at',rfl,rfl,rfl,av,bld,⟨_,rfl,by simp [mark],rfl⟩⟩,rfl,rfl,rfl,rfl,rfl,rfl⟩
end Go.Proofs.Ytfcjngcnifdmnaa
namespace Go.Proofs.Ytfcjngcnifdmnaa
open Vc Go
set_option linter.unusedVariables false
set_option linter.unusedSimpArgs false
set_option maxRecDepth 100000
def tabB (k : Nat) : List L3:=if k = 0 then [] else [(1,(k : Int),0)]
structure BlQ where
  k : Nat
  ba : Nat
  bb : Nat
  A : List (Sg × KB)
  p : RR
  c : List Int
structure BlI (E : Int) (va vb : Vw) (n : Nat) (q : BlQ) : Prop where
  le : q.k ≤ n
  p : Pool q.A [(q.ba,q.p.a),(q.bb,q.p.b)]
  h : AB E (q.k : Int) q.c (tabB q.k) q.p
  da : q.p.a.done.length = q.k
  db : q.p.b.done = []
  va : q.p.a.v = va
  vb : q.p.b.v = vb
  lo : q.p.b.lo = false
def blV1 : Vw:=⟨5,0,1,[1],[]⟩
def blV2 : Vw:=⟨5,0,2,[0],[1]⟩
def blV3 : Vw:=⟨5,0,3,[1],[]⟩
def scV : Vw:=⟨5,0,1,[0,1],[]⟩
def blA0 : Rep:=newR 0 5 false 0 0 z128 []
def blB0 : Rep:=newR 1 5 true 0 0 z128 []
def scB0 : Rep:=newR 1 5 false 0 0 z128 []
def blB1 : Rep:=viewR blB0 blV1
def blA1 : Rep:=viewR blA0 blV2
def scA1 : Rep:=viewR blA0 scV
abbrev blLI (l : List Int) : LI where
  α:={q : BlQ // BlI 2 blV2 blV1 l.length q}
  live:=[0,3,4,5,8]
  st q:=([.dat (.sl 1 (ints .u8 l)),.any (pv q.1.ba),.any (pv q.1.bb),.sb false,.int .i64 (q.1.k : Int)],[.objs q.1.A])
  μ q:=l.length - q.1.k
abbrev scLI (l : List Int) (at' : Int) : LI where
  α:={q : BlQ // BlI 1 scV ⟨0,0,0,[],[]⟩ l.length q}
  live:=[0,1,5,6,7]
  st q:=([.dat (.sl 1 (ints .u8 l)),.int .u8 at',.any (pv q.1.ba),.any (pv q.1.bb),.int .i64 (q.1.k : Int)],[.objs q.1.A])
  μ q:=l.length - q.1.k
def blT (l : List Int) (at' : Int) : FuncId→Nat→Option LI
  | 3,11 => some (blLI l)
  | 4,9 => some (scLI l at')
  | _,_ => none
noncomputable def XB2 (l : List Int) (at' : Int) : CallT:=callS Try.prog lwS (blT l at') 10
theorem vcBlank (l : List Int) (hvc_ :
 let z1_:=V.dat (D.sl 1 [[D.val (Value.int IntKind.i64 1)]]); (decide ((↑(ints IntKind.u8 l).length : Int) > 8) = true →
 true = true) ∧
 (decide ((↑(ints IntKind.u8 l).length : Int) > 8) = false →
 ∃ (A : List (Sg × KB)),∃ (l_1 : List (Nat × Rep)),InP [] A ∧
 Pool A l_1 ∧
 ∀ (b : Nat) (A' : List (Sg × KB)),Pool A' (l_1 ++ [(b,newR 0 5 false 0 0 z128 [])]) →
 ∃ (A : List (Sg × KB)),∃ (l_2 : List (Nat × Rep)),InP [KO.objs A'] A ∧
 Pool A l_2 ∧
 ∀ (b_1 : Nat) (A' : List (Sg × KB)),Pool A' (l_2 ++ [(b_1,newR 1 5 true 0 0 z128 [])]) →
 (false = true →
 False) ∧
 (false = false →
 (false = true →
 False) ∧
 (false = false →
 1 ≤ 1 ∧
 ∃ (l_3 : List (Nat × Rep)),∃ (i : Nat),∃ (b_2 : Nat),∃ (R : Rep),Pool A' l_3 ∧
 l_3[i]? = some (b_2,R) ∧
 pv b_1 = pv b_2 ∧
 ∃ (w : Vw),[V.agg [V.int IntKind.i64 5,V.int IntKind.i64 0,V.int IntKind.i64 1,z1_,V.dat (D.sl 1 [])]] = [vwV w] ∧
 RepI R ∧
 w.mem.length + w.joi.length ≤ 1000 ∧
 R.out.length + (othA R.me w.mem w.joi).length ≤ 100000 ∧
 ∀ (A' : List (Sg × KB)),Pool A' (l_3.set i (b_2,viewR R w)) →
 ∃ (l_4 : List (Nat × Rep)),∃ (i : Nat),∃ (b_3 : Nat),∃ (R : Rep),Pool A' l_4 ∧
 l_4[i]? = some (b_3,R) ∧
 pv b_1 = pv b_3 ∧
 NoA [] ∧
 RepI R ∧
 ∀ (A' : List (Sg × KB)),Pool A' (l_4.set i (b_3,R)) →
 1 ≤ 1 ∧
 1 ≤ 1 ∧
 ∃ (l_5 : List (Nat × Rep)),∃ (i : Nat),∃ (b_4 : Nat),∃ (R_1 : Rep),Pool A' l_5 ∧
 l_5[i]? = some (b_4,R_1) ∧
 pv b = pv b_4 ∧
 ∃ (w : Vw),[V.agg [V.int IntKind.i64 5,V.int IntKind.i64 0,V.int IntKind.i64 2,V.dat (D.sl 1 [[D.val (Value.int IntKind.i64 0)]]),z1_]] = [vwV w] ∧
 RepI R_1 ∧
 w.mem.length + w.joi.length ≤ 1000 ∧
 R_1.out.length + (othA R_1.me w.mem w.joi).length ≤ 100000 ∧
 ∀ (A' : List (Sg × KB)),Pool A' (l_5.set i (b_4,viewR R_1 w)) →
 ∃ (B : RB),∃ (p : RR),V.any (pv b) = V.any (pv B.ba) ∧
 V.any (pv b_1) = V.any (pv B.bb) ∧
 RbI B ∧
 Pool A' (set2 B p.a p.b) ∧
 BoH 1000 10000 p ∧
 ∀ (A' : List (Sg × KB)),Pool A' (set2 B (boN 20 p).a (boN 20 p).b) →
 At (blLI l) ([V.dat (D.sl 1 (ints IntKind.u8 l)),V.any (pv b),V.any (pv b_1),V.sb (leadsR R),V.int IntKind.i64 0],[KO.objs A']) ∧
 ∀ (i : { q : BlQ // BlI 2 blV2 blV1 l.length q }),(decide ((↑i.val.k : Int) < (↑(ints IntKind.u8 l).length : Int)) = true →
 NonN (↑i.val.k : Int) ∧
 ∃ (e : List D),(ints IntKind.u8 l)[(↑i.val.k : Int).toNat]? = some e ∧
 ∃ (n : Int),e[0]? = some (D.val (Value.int IntKind.u8 n)) ∧
 ∃ (l_6 : List (Nat × Rep)),∃ (i_1 : Nat),∃ (b : Nat),∃ (R : Rep),Pool i.val.A l_6 ∧
 l_6[i_1]? = some (b,R) ∧
 pv i.val.ba = pv b ∧
 ∃ (o : Op),[V.agg [V.int IntKind.i64 1,V.int IntKind.i64 (IntKind.i64.wrap (1 + (↑i.val.k : Int))),V.int IntKind.i64 1,V.int IntKind.i64 (↑i.val.k : Int),V.dat (D.sl 1 [[D.val (Value.int IntKind.u8 (IntKind.u8.wrap (IntKind.i64.wrap n)))],[D.val (Value.int IntKind.u8 0)],[D.val (Value.int IntKind.u8 0)],[D.val (Value.int IntKind.u8 0)],[D.val (Value.int IntKind.u8 0)],[D.val (Value.int IntKind.u8 0)],[D.val (Value.int IntKind.u8 0)],[D.val (Value.int IntKind.u8 0)],[D.val (Value.int IntKind.u8 0)],[D.val (Value.int IntKind.u8 0)],[D.val (Value.int IntKind.u8 0)],[D.val (Value.int IntKind.u8 0)],[D.val (Value.int IntKind.u8 0)],[D.val (Value.int IntKind.u8 0)],[D.val (Value.int IntKind.u8 0)],[D.val (Value.int IntKind.u8 (if IntKind.i64.wrap n > 0 then 7 else 0))]])]] = [opV o] ∧
 RepI R ∧
 R.out.length + (oths R).length ≤ 100000 ∧
 (∀ (c : Int),List.Mem c o.b →
 0 ≤ c ∧
 c < 256) ∧
 o.b.length ≤ 100000 ∧
 ∀ (A' : List (Sg × KB)),Pool A' (l_6.set i_1 (b,(startR R o).snd)) →
 (((startR R o).fst != 0) = true →
 False) ∧
 (((startR R o).fst != 0) = false →
 ∃ (B : RB),∃ (p : RR),V.any (pv i.val.ba) = V.any (pv B.ba) ∧
 V.any (pv i.val.bb) = V.any (pv B.bb) ∧
 RbI B ∧
 Pool A' (set2 B p.a p.b) ∧
 BoH 1000 10000 p ∧
 ∀ (A' : List (Sg × KB)),Pool A' (set2 B (boN 20 p).a (boN 20 p).b) →
 Nx (blLI l) i ([V.dat (D.sl 1 (ints IntKind.u8 l)),V.any (pv i.val.ba),V.any (pv i.val.bb),V.sb false,V.int IntKind.i64 (IntKind.i64.wrap ((↑i.val.k : Int) + 1))],[KO.objs A']))) ∧
 (decide ((↑i.val.k : Int) < (↑(ints IntKind.u8 l).length : Int)) = false →
 1 ≤ 1 ∧
 ∃ (l_6 : List (Nat × Rep)),∃ (i_1 : Nat),∃ (b : Nat),∃ (R : Rep),Pool i.val.A l_6 ∧
 l_6[i_1]? = some (b,R) ∧
 pv i.val.bb = pv b ∧
 ∃ (w : Vw),[V.agg [V.int IntKind.i64 5,V.int IntKind.i64 0,V.int IntKind.i64 3,z1_,V.dat (D.sl 1 [])]] = [vwV w] ∧
 RepI R ∧
 w.mem.length + w.joi.length ≤ 1000 ∧
 R.out.length + (othA R.me w.mem w.joi).length ≤ 100000 ∧
 ∀ (A' : List (Sg × KB)),Pool A' (l_6.set i_1 (b,viewR R w)) →
 ∃ (l_7 : List (Nat × Rep)),∃ (i_2 : Nat),∃ (b : Nat),∃ (R : Rep),Pool A' l_7 ∧
 l_7[i_2]? = some (b,R) ∧
 pv i.val.bb = pv b ∧
 NoA [] ∧
 RepI R ∧
 ∀ (A' : List (Sg × KB)),Pool A' (l_7.set i_2 (b,R)) →
 (true = true →
 (leadsR R = true →
 (readyR R = true →
 ∃ (l_8 : List (Nat × Rep)),∃ (i_3 : Nat),∃ (b : Nat),∃ (R : Rep),Pool A' l_8 ∧
 l_8[i_3]? = some (b,R) ∧
 pv i.val.ba = pv b ∧
 NoA [] ∧
 RepI R ∧
 ∀ (A' : List (Sg × KB)),Pool A' (l_8.set i_3 (b,R)) →
 ∃ (l_9 : List (Nat × Rep)),∃ (i_4 : Nat),∃ (b : Nat),∃ (R_2 : Rep),Pool A' l_9 ∧
 l_9[i_4]? = some (b,R_2) ∧
 pv i.val.bb = pv b ∧
 NoA [] ∧
 RepI R_2 ∧
 ∀ (A' : List (Sg × KB)),Pool A' (l_9.set i_4 (b,R_2)) →
 ((crcI R.c == crcI R_2.c) = true →
 ∃ (l_10 : List (Nat × Rep)),∃ (i_5 : Nat),∃ (b : Nat),∃ (R : Rep),Pool A' l_10 ∧
 l_10[i_5]? = some (b,R) ∧
 pv i.val.bb = pv b ∧
 ∃ (o : Op),[V.agg [V.int IntKind.i64 2,V.int IntKind.i64 1,V.int IntKind.i64 2,V.int IntKind.i64 9,V.dat (D.sl 1 [])]] = [opV o] ∧
 RepI R ∧
 R.out.length + (oths R).length ≤ 100000 ∧
 (∀ (c : Int),List.Mem c o.b →
 0 ≤ c ∧
 c < 256) ∧
 o.b.length ≤ 100000 ∧
 ∀ (A' : List (Sg × KB)),Pool A' (l_10.set i_5 (b,(startR R o).snd)) →
 (((startR R o).fst == 1) = true →
 true = true) ∧
 (((startR R o).fst == 1) = false →
 False)) ∧
 ((crcI R.c == crcI R_2.c) = false →
 False)) ∧
 (readyR R = false →
 False)) ∧
 (leadsR R = false →
 False)) ∧
 (true = false →
 False)))))
 ) : XB2 l 0 3 [.dat (.sl 1 (ints .u8 l))] [] KT:=by apply Eq.mp (a:=hvc_); kernel_rfl
theorem vcScrubs (l : List Int) (at' : Int) (hvc_ :
 (decide ((↑(ints IntKind.u8 l).length : Int) > 8) = true →
 true = true) ∧
 (decide ((↑(ints IntKind.u8 l).length : Int) > 8) = false →
 ∃ (A : List (Sg × KB)),∃ (l_1 : List (Nat × Rep)),InP [] A ∧
 Pool A l_1 ∧
 ∀ (b : Nat) (A' : List (Sg × KB)),Pool A' (l_1 ++ [(b,newR 0 5 false 0 0 z128 [])]) →
 ∃ (A : List (Sg × KB)),∃ (l_2 : List (Nat × Rep)),InP [KO.objs A'] A ∧
 Pool A l_2 ∧
 ∀ (b_1 : Nat) (A' : List (Sg × KB)),Pool A' (l_2 ++ [(b_1,newR 1 5 false 0 0 z128 [])]) →
 (false = true →
 False) ∧
 (false = false →
 (false = true →
 False) ∧
 (false = false →
 2 ≤ 2 ∧
 ∃ (l_3 : List (Nat × Rep)),∃ (i : Nat),∃ (b_2 : Nat),∃ (R : Rep),Pool A' l_3 ∧
 l_3[i]? = some (b_2,R) ∧
 pv b = pv b_2 ∧
 ∃ (w : Vw),[V.agg [V.int IntKind.i64 5,V.int IntKind.i64 0,V.int IntKind.i64 1,V.dat (D.sl 1 [[D.val (Value.int IntKind.i64 0)],[D.val (Value.int IntKind.i64 1)]]),V.dat (D.sl 1 [])]] = [vwV w] ∧
 RepI R ∧
 w.mem.length + w.joi.length ≤ 1000 ∧
 R.out.length + (othA R.me w.mem w.joi).length ≤ 100000 ∧
 ∀ (A' : List (Sg × KB)),Pool A' (l_3.set i (b_2,viewR R w)) →
 ∃ (B : RB),∃ (p : RR),V.any (pv b) = V.any (pv B.ba) ∧
 V.any (pv b_1) = V.any (pv B.bb) ∧
 RbI B ∧
 Pool A' (set2 B p.a p.b) ∧
 BoH 1000 10000 p ∧
 ∀ (A' : List (Sg × KB)),Pool A' (set2 B (boN 20 p).a (boN 20 p).b) →
 At (scLI l at') ([V.dat (D.sl 1 (ints IntKind.u8 l)),V.int IntKind.u8 at',V.any (pv b),V.any (pv b_1),V.int IntKind.i64 0],[KO.objs A']) ∧
 ∀ (i : { q : BlQ // BlI 1 scV { vi:=0,vv:=0,ve:=0,mem:=[],joi:=[] } l.length q }),(decide ((↑i.val.k : Int) < (↑(ints IntKind.u8 l).length : Int)) = true →
 NonN (↑i.val.k : Int) ∧
 ∃ (e : List D),(ints IntKind.u8 l)[(↑i.val.k : Int).toNat]? = some e ∧
 ∃ (n : Int),e[0]? = some (D.val (Value.int IntKind.u8 n)) ∧
 ∃ (l_4 : List (Nat × Rep)),∃ (i_1 : Nat),∃ (b : Nat),∃ (R : Rep),Pool i.val.A l_4 ∧
 l_4[i_1]? = some (b,R) ∧
 pv i.val.ba = pv b ∧
 ∃ (o : Op),[V.agg [V.int IntKind.i64 1,V.int IntKind.i64 (IntKind.i64.wrap (1 + (↑i.val.k : Int))),V.int IntKind.i64 1,V.int IntKind.i64 (↑i.val.k : Int),V.dat (D.sl 1 [[D.val (Value.int IntKind.u8 (IntKind.u8.wrap (IntKind.i64.wrap n)))],[D.val (Value.int IntKind.u8 0)],[D.val (Value.int IntKind.u8 0)],[D.val (Value.int IntKind.u8 0)],[D.val (Value.int IntKind.u8 0)],[D.val (Value.int IntKind.u8 0)],[D.val (Value.int IntKind.u8 0)],[D.val (Value.int IntKind.u8 0)],[D.val (Value.int IntKind.u8 0)],[D.val (Value.int IntKind.u8 0)],[D.val (Value.int IntKind.u8 0)],[D.val (Value.int IntKind.u8 0)],[D.val (Value.int IntKind.u8 0)],[D.val (Value.int IntKind.u8 0)],[D.val (Value.int IntKind.u8 0)],[D.val (Value.int IntKind.u8 (if IntKind.i64.wrap n > 0 then 7 else 0))]])]] = [opV o] ∧
 RepI R ∧
 R.out.length + (oths R).length ≤ 100000 ∧
 (∀ (c : Int),List.Mem c o.b →
 0 ≤ c ∧
 c < 256) ∧
 o.b.length ≤ 100000 ∧
 ∀ (A' : List (Sg × KB)),Pool A' (l_4.set i_1 (b,(startR R o).snd)) →
 (((startR R o).fst != 0) = true →
 False) ∧
 (((startR R o).fst != 0) = false →
 ∃ (B : RB),∃ (p : RR),V.any (pv i.val.ba) = V.any (pv B.ba) ∧
 V.any (pv i.val.bb) = V.any (pv B.bb) ∧
 RbI B ∧
 Pool A' (set2 B p.a p.b) ∧
 BoH 1000 10000 p ∧
 ∀ (A' : List (Sg × KB)),Pool A' (set2 B (boN 20 p).a (boN 20 p).b) →
 Nx (scLI l at') i ([V.dat (D.sl 1 (ints IntKind.u8 l)),V.int IntKind.u8 at',V.any (pv i.val.ba),V.any (pv i.val.bb),V.int IntKind.i64 (IntKind.i64.wrap ((↑i.val.k : Int) + 1))],[KO.objs A']))) ∧
 (decide ((↑i.val.k : Int) < (↑(ints IntKind.u8 l).length : Int)) = false →
 ∃ (l_4 : List (Nat × Rep)),∃ (i_1 : Nat),∃ (b : Nat),∃ (R : Rep),Pool i.val.A l_4 ∧
 l_4[i_1]? = some (b,R) ∧
 pv i.val.ba = pv b ∧
 NoA [] ∧
 RepI R ∧
 ∀ (A' : List (Sg × KB)),Pool A' (l_4.set i_1 (b,R)) →
 ∃ (l_5 : List (Nat × Rep)),∃ (i_2 : Nat),∃ (b : Nat),∃ (R_1 : Rep),Pool A' l_5 ∧
 l_5[i_2]? = some (b,R_1) ∧
 pv i.val.ba = pv b ∧
 NoA [] ∧
 RepI R_1 ∧
 ∀ (A' : List (Sg × KB)),Pool A' (l_5.set i_2 (b,{ me:=R_1.me,id:=R_1.id,ep:=R_1.ep,nu:=R_1.nu,ce:=R_1.ce,ti:=R_1.ti,bl:=R_1.bl,lo:=R_1.lo,ch:=R_1.ch,c:=R_1.c,t:=R_1.t,v:=R_1.v,ld:=R_1.ld,out:=R_1.out,done:=[] })) →
 ∃ (l_6 : List (Nat × Rep)),∃ (i_3 : Nat),∃ (b : Nat),∃ (R_2 : Rep),Pool A' l_6 ∧
 l_6[i_3]? = some (b,R_2) ∧
 pv i.val.ba = pv b ∧
 ∃ (o : Op),[V.agg [V.int IntKind.i64 255,V.int IntKind.i64 1,V.int IntKind.i64 4,V.int IntKind.i64 ((IntKind.i64.wrap at').tmod 8),V.dat (D.sl 1 [])]] = [opV o] ∧
 RepI R_2 ∧
 R_2.out.length + (oths R_2).length ≤ 100000 ∧
 (∀ (c : Int),List.Mem c o.b →
 0 ≤ c ∧
 c < 256) ∧
 o.b.length ≤ 100000 ∧
 ∀ (A' : List (Sg × KB)),Pool A' (l_6.set i_3 (b,(startR R_2 o).snd)) →
 ∃ (B : RB),∃ (p : RR),V.any (pv i.val.ba) = V.any (pv B.ba) ∧
 V.any (pv i.val.bb) = V.any (pv B.bb) ∧
 RbI B ∧
 Pool A' (set2 B p.a p.b) ∧
 BoH 1000 10000 p ∧
 ∀ (A' : List (Sg × KB)),Pool A' (set2 B (boN 20 p).a (boN 20 p).b) →
 ∃ (l_7 : List (Nat × Rep)),∃ (i_4 : Nat),∃ (b : Nat),∃ (R_3 : Rep),Pool A' l_7 ∧
 l_7[i_4]? = some (b,R_3) ∧
 pv i.val.ba = pv b ∧
 NoA [] ∧
 RepI R_3 ∧
 ∀ (A' : List (Sg × KB)),Pool A' (l_7.set i_4 (b,{ me:=R_3.me,id:=R_3.id,ep:=R_3.ep,nu:=R_3.nu,ce:=R_3.ce,ti:=R_3.ti,bl:=R_3.bl,lo:=R_3.lo,ch:=R_3.ch,c:=R_3.c,t:=R_3.t,v:=R_3.v,ld:=R_3.ld,out:=R_3.out,done:=[] })) →
 ∃ (l_8 : List (Nat × Rep)),∃ (i_5 : Nat),∃ (b : Nat),∃ (R_4 : Rep),Pool A' l_8 ∧
 l_8[i_5]? = some (b,R_4) ∧
 pv i.val.ba = pv b ∧
 NoA [] ∧
 RepI R_4 ∧
 ∀ (A' : List (Sg × KB)),Pool A' (l_8.set i_5 (b,R_4)) →
 ∃ (l_9 : List (Nat × Rep)),∃ (i_6 : Nat),∃ (b : Nat),∃ (R_5 : Rep),Pool A' l_9 ∧
 l_9[i_6]? = some (b,R_5) ∧
 pv i.val.bb = pv b ∧
 NoA [] ∧
 RepI R_5 ∧
 ∀ (A' : List (Sg × KB)),Pool A' (l_9.set i_6 (b,R_5)) →
 (((startR R_2 o).fst == 0) = true →
 (((↑(List.map dnD R_3.done).length : Int) == 1) = true →
 NonN 0 ∧
 ∃ (e : List D),(List.map dnD R_3.done)[0]? = some e ∧
 ∃ (n : Int),e[5]? = some (D.val (Value.int IntKind.i64 n)) ∧
 ((n == 0) = true →
 NonN 0 ∧
 ∃ (e : List D),(List.map dnD R_3.done)[0]? = some e ∧
 ∃ (l_10 : List (List D)),e[6]? = some (D.sl 1 l_10) ∧
 (((↑l_10.length : Int) == 0) = true →
 ∃ (l_11 : List (Nat × Rep)),∃ (i_7 : Nat),∃ (b : Nat),∃ (R_6 : Rep),Pool A' l_11 ∧
 l_11[i_7]? = some (b,R_6) ∧
 pv i.val.ba = pv b ∧
 NoA [] ∧
 RepI R_6 ∧
 ∀ (A' : List (Sg × KB)),Pool A' (l_11.set i_7 (b,R_6)) →
 ((crcI R_6.c == crcI R.c) = true →
 ∃ (l_12 : List (Nat × Rep)),∃ (i_8 : Nat),∃ (b : Nat),∃ (R_7 : Rep),Pool A' l_12 ∧
 l_12[i_8]? = some (b,R_7) ∧
 pv i.val.bb = pv b ∧
 NoA [] ∧
 RepI R_7 ∧
 ∀ (A' : List (Sg × KB)),Pool A' (l_12.set i_8 (b,R_7)) →
 ((crcI R_7.c == crcI R.c) = true →
 ((R_4.nu == IntKind.i64.wrap ((↑(ints IntKind.u8 l).length : Int) + 1)) = true →
 ((R_5.nu == R_4.nu) = true →
 true = true) ∧
 ((R_5.nu == R_4.nu) = false →
 False)) ∧
 ((R_4.nu == IntKind.i64.wrap ((↑(ints IntKind.u8 l).length : Int) + 1)) = false →
 False)) ∧
 ((crcI R_7.c == crcI R.c) = false →
 False)) ∧
 ((crcI R_6.c == crcI R.c) = false →
 False)) ∧
 (((↑l_10.length : Int) == 0) = false →
 False)) ∧
 ((n == 0) = false →
 False)) ∧
 (((↑(List.map dnD R_3.done).length : Int) == 1) = false →
 False)) ∧
 (((startR R_2 o).fst == 0) = false →
 False)))))
 ) : XB2 l at' 4 [.dat (.sl 1 (ints .u8 l)),.int .u8 at'] [] KT:=by apply Eq.mp (a:=hvc_); kernel_rfl
theorem XB2_ok (l : List Int) (at' : Int) : CallOk Try.prog (XB2 l at'):=callS_ok mixed lwS_ok _ 10
theorem tabB_ok (k : Nat) (hk : k < 100) (n : Int) : chkK (tabB k) 1 (1 + (k : Int)) = 0∧putE (tabB k) 1 (1 + (k : Int)) 0 = 0∧doT (tabB k) ⟨1,1 + (k : Int),1,k,valI n⟩ = tabB (k + 1):=by
  have e1 : chgOp ⟨1,1 + (k : Int),1,k,valI n⟩ = true:=rfl
  by_cases h0 : k = 0
  · subst h0
    refine ⟨rfl,rfl,rfl⟩
  · have et : tabB k = [(1,(k : Int),0)]:=if_neg h0
    have en : numA [(1,(k : Int),0)] 1 = some ((k : Int),0):=rfl
    have hp : putE [(1,(k : Int),0)] 1 (1 + (k : Int)) 0 = 0:=by
      unfold putE
      rw [en]
      simp only [List.length_singleton]
      repeat' split
      all_goals omega
    refine ⟨?_,?_,?_⟩
    · rw [et]
      show chkK [(1,(k : Int),0)] 1 (1 + (k : Int)) = 0
      unfold chkK
      rw [en]
      dsimp only
      repeat' split
      all_goals omega
    · rw [et]; exact hp
    · unfold doT
      rw [et]
      rw [if_pos ⟨e1,hp⟩]
      unfold putL tabB
      rw [if_neg (by omega)]
      simp
      omega
theorem wr_rt {k : Nat} (hk : k < 8) (n : Int) : rtOp ⟨1,1 + (k : Int),1,k,valI n⟩ = true:=by
  unfold rtOp rightO
  rw [valI_len]
  dsimp only
  rw [decide_eq_true_eq]
  exact ⟨by omega,by omega,by omega,by omega,by omega,by omega,by omega,by omega,fun _ => rfl⟩
theorem wr_op (k : Nat) (n : Int) : OpI ⟨1,1 + (k : Int),1,k,valI n⟩:=⟨valI_byt n,by show (valI n).length ≤ _; rw [valI_len]; omega⟩
abbrev rb2 (ba bb : Nat) (x y : Rep) : RB:=⟨[(ba,x),(bb,y)],0,1,ba,bb⟩
theorem rb2_i (ba bb : Nat) (x y : Rep) : RbI (rb2 ba bb x y):=⟨by show 0 < 2; decide,by show 1 < 2; decide,by show 0 ≠ 1; decide⟩
theorem bo_h {a b : Rep} (ha : RepI a) (hb : RepI b) (h1 : a.out.length ≤ 100) (h2 : b.out.length ≤ 100) (h3 : a.done.length ≤ 1000) (h4 : b.done.length ≤ 1000) : BoH 1000 10000 ⟨a,b⟩:=⟨ha,hb,by show a.out.length + b.out.length ≤ _; omega,by show a.done.length ≤ _; omega,by show b.done.length ≤ _; omega⟩
theorem blA0_i : RepI blA0:=new_i 0 5 false 0 (by omega) (by omega) rfl z128_byt okX_nil
theorem blB0_i : RepI blB0:=new_i 1 5 true 0 (by omega) (by omega) rfl z128_byt okX_nil
theorem scB0_i : RepI scB0:=new_i 1 5 false 0 (by omega) (by omega) rfl z128_byt okX_nil
theorem blB1_i : RepI blB1:=(view_i (w:=blV1) blB0_i (by decide) (by decide) (by decide)).i
theorem blA1_i : RepI blA1:=(view_i (w:=blV2) blA0_i (by decide) (by decide) (by decide)).i
theorem scA1_i : RepI scA1:=(view_i (w:=scV) blA0_i (by decide) (by decide) (by decide)).i
theorem blB1_eq : leadsR blB1 = false∧blB1.me = 1∧blB1.id = 5∧blB1.ep = 0∧blB1.out = []∧blB1.done = []∧blB1.v = blV1∧blB1.lo = false:=by
  refine ⟨?_,?_,?_,?_,?_,?_,?_,?_⟩ <;> kernel_rfl
theorem blB1_ld : blB1.ld = none:=by
  have:=blB1_eq.1
  unfold leadsR at this
  simpa using this
theorem blA1_eq : blA1.me = 0∧blA1.id = 5∧blA1.ep = 2∧blA1.nu = 0∧blA1.t = []∧blA1.v = blV2∧blA1.done = []:=by
  refine ⟨?_,?_,?_,?_,?_,?_,?_⟩ <;> kernel_rfl
theorem blA1_ld : blA1.ld = some ⟨fun _ => false,fun _ => false,none⟩:=by kernel_rfl
theorem blA1_out : blA1.out = [⟨1,⟨10,[5,2,0],sealI blA1.c,[tabW []]⟩⟩]:=by kernel_rfl
theorem scA1_eq : scA1.me = 0∧scA1.id = 5∧scA1.ep = 1∧scA1.nu = 0∧scA1.t = []∧scA1.v = scV∧scA1.done = []:=by
  refine ⟨?_,?_,?_,?_,?_,?_,?_⟩ <;> kernel_rfl
theorem scA1_ld : scA1.ld = some ⟨fun _ => false,fun _ => false,none⟩:=by kernel_rfl
theorem scA1_out : scA1.out = [⟨1,⟨10,[5,1,0],sealI scA1.c,[tabW []]⟩⟩]:=by kernel_rfl
theorem bl_step {E : Int} {va vb : Vw} {n : Nat} {q : BlQ} (h : BlI E va vb n q) (hlt : q.k < n) (h8 : n ≤ 8) (hE : 0 ≤ E∧E ≤ 1000) (x : Int) : (startR q.p.a ⟨1,1 + (q.k : Int),1,q.k,valI x⟩).1 = 0∧RepI (startR q.p.a ⟨1,1 + (q.k : Int),1,q.k,valI x⟩).2∧(oths q.p.a).length = 1∧BoH 1000 10000 ⟨(startR q.p.a ⟨1,1 + (q.k : Int),1,q.k,valI x⟩).2,q.p.b⟩ ∧
    ∀ A',Pool A' [(q.ba,(boN 20 ⟨(startR q.p.a ⟨1,1 + (q.k : Int),1,q.k,valI x⟩).2,q.p.b⟩).a),(q.bb,(boN 20 ⟨(startR q.p.a ⟨1,1 + (q.k : Int),1,q.k,valI x⟩).2,q.p.b⟩).b)] →
      ∃ c',BlI E va vb n ⟨q.k + 1,q.ba,q.bb,A',boN 20 ⟨(startR q.p.a ⟨1,1 + (q.k : Int),1,q.k,valI x⟩).2,q.p.b⟩,c'⟩:=by
  obtain ⟨k1,k2,k3⟩:=tabB_ok q.k (by omega) x
  have hoth : oths q.p.a = [1]:=by unfold oths; rw [h.h.ame]; exact h.h.av
  have hda:=h.da
  have hdb : q.p.b.done.length = 0:=by rw [h.db]; rfl
  have hao : q.p.a.out.length = 0:=by rw [h.h.ao]; rfl
  have hbo : q.p.b.out.length = 0:=by rw [h.h.bo]; rfl
  have hs:=start_i h.h.a (wr_op q.k x) (by rw [h.h.anu]; omega) (by rw [hoth,hao]; show 0 + 1 ≤ _; omega) (by omega)
  have so:=hs.o
  have sd:=hs.d
  rw [hoth] at so
  obtain ⟨g1,q2,g2,g3,g4,g5,g6,g7,g8,g9⟩:=ab_step h.h (wr_rt (by omega) x) (wr_op q.k x) ⟨hE.1,by omega⟩ ⟨by omega,by omega⟩ (fun _ => ⟨k1,k2⟩) ⟨by omega,by omega⟩
  refine ⟨g1,hs.i,by rw [hoth]; rfl,bo_h hs.i h.h.b (by show _ ≤ 100; simp only [List.length_singleton] at so; omega) (by omega) (by omega) (by omega),fun A' hA => ⟨doC q.c 1 (q.k : Int) (valI x),?_⟩⟩
  rw [g2] at hA ⊢
  rw [k3] at g3
  exact ⟨hlt,hA,by rw [show (((⟨q.k + 1,q.ba,q.bb,A',q2,doC q.c 1 (q.k : Int) (valI x)⟩ : BlQ).k : Nat) : Int) = (q.k : Int) + 1 from by show ((q.k + 1 : Nat) : Int) = _; omega]; exact g3,by show q2.a.done.length = q.k + 1; rw [g4,List.length_append,hda]; rfl,by show q2.b.done = []; rw [g5]; exact h.db,g7.trans h.va,g6.trans h.vb,g8.trans h.lo⟩
theorem lawBlank (l : List Int) : XB2 l 0 3 [.dat (.sl 1 (ints .u8 l))] [] KT:=by
  apply vcBlank l
  rw [ints_len]
  refine ⟨fun _ => by trivial,fun q1 => ?_⟩
  have hl8 : l.length ≤ 8:=by simp only [gt_iff_lt,decide_eq_false_iff_not] at q1; omega
  refine ⟨[],[],⟨.inl ⟨rfl,rfl⟩⟩,pool_nil,fun ba A1 p1 => ⟨A1,[(ba,blA0)],⟨.inr rfl⟩,p1,fun bb A2 p2 => ⟨fun q => (by cases q),fun _ => ⟨fun q => (by cases q),fun _ => ⟨Nat.le_refl _,?_⟩⟩⟩⟩⟩
  refine ⟨[(ba,blA0),(bb,blB0)],1,bb,blB0,p2,rfl,rfl,blV1,rfl,blB0_i,by decide,by decide,fun A3 p3 => ?_⟩
  obtain ⟨e1,e2,e3,e4,e5,e6,e7,e8⟩:=blB1_eq
  obtain ⟨f1,f2,f3,f4,f5,f6,f7⟩:=blA1_eq
  refine ⟨[(ba,blA0),(bb,blB1)],1,bb,blB1,p3,rfl,rfl,⟨rfl⟩,blB1_i,fun A4 p4 => ⟨Nat.le_refl _,Nat.le_refl _,?_⟩⟩
  refine ⟨[(ba,blA0),(bb,blB1)],0,ba,blA0,p4,rfl,rfl,blV2,rfl,blA0_i,by decide,by decide,fun A5 p5 => ?_⟩
  have p5 : Pool A5 (set2 (rb2 ba bb blA0 blB0) blA1 blB1):=p5
  obtain ⟨q,g1,g2,g3,g4,g5,g6,g7,g8⟩:=ab_first (p:=⟨blA1,blB1⟩) blA1_i blB1_i f1 e2 f2 e3 f3 f4 f5 (by show othA 0 blA1.v.mem blA1.v.joi = _; rw [f6]; rfl) blA1_ld blA1_out (by show blB1.ep < 2; rw [e4]; omega) blB1_ld e5 ⟨by omega,by omega⟩ ⟨by omega,by omega⟩ ⟨by show blA1.done.length < _; rw [f7]; decide,by show blB1.done.length < _; rw [e6]; decide⟩
  refine ⟨rb2 ba bb blA0 blB0,⟨blA1,blB1⟩,rfl,rfl,rb2_i _ _ _ _,p5,bo_h blA1_i blB1_i (by rw [blA1_out]; decide) (by rw [e5]; decide) (by rw [f7]; decide) (by rw [e6]; decide),fun A6 p6 => ?_⟩
  rw [g1] at p6
  have p6 : Pool A6 [(ba,q.a),(bb,q.b)]:=p6
  rw [e1]
  refine ⟨At.mk' (⟨⟨0,ba,bb,A6,q,blA1.c⟩,⟨Nat.zero_le _,p6,g2,by rw [g3,f7]; rfl,by rw [g4,e6],by rw [g6]; exact f6,by rw [g5]; exact e7,by rw [g7]; exact e8⟩⟩ : {q : BlQ // BlI 2 blV2 blV1 l.length q}) rfl,?_⟩
  clear g1 g2 g3 g4 g5 g6 g7 g8 p6 p5 p4 p3 p2 p1
  rintro ⟨Q,hQ⟩
  dsimp only
  simp only [decide_eq_true_eq,decide_eq_false_iff_not]
  refine ⟨fun hlt => ?_,fun hge => ?_⟩
  · have hlt : Q.k < l.length:=by omega
    have hge:=List.getElem?_eq_getElem hlt
    generalize l[Q.k] = x at hge
    obtain ⟨s1,s2,s3,s4,s5⟩:=bl_step hQ hlt hl8 ⟨by omega,by omega⟩ (IntKind.i64.wrap x)
    refine ⟨by unfold NonN; omega,[dn .u8 x],by rw [Int.toNat_natCast,ints_getElem?,hge]; rfl,x,rfl,_,0,Q.ba,Q.p.a,hQ.p,rfl,rfl,⟨1,1 + (Q.k : Int),1,Q.k,valI (IntKind.i64.wrap x)⟩,by rw [w64 (by omega) (by omega)]; rfl,hQ.h.a,by rw [hQ.h.ao,s3]; show 0 + 1 ≤ _; omega,valI_byt _,by show (valI _).length ≤ _; rw [valI_len]; omega,fun A7 p7 => ⟨fun q => ?_,fun _ => ?_⟩⟩
    · rw [s1] at q; cases q
    · have p7 : Pool A7 (set2 (rb2 Q.ba Q.bb blA0 blB0) (startR Q.p.a ⟨1,1 + (Q.k : Int),1,Q.k,valI (IntKind.i64.wrap x)⟩).2 Q.p.b):=p7
      refine ⟨rb2 Q.ba Q.bb blA0 blB0,⟨_,Q.p.b⟩,rfl,rfl,rb2_i _ _ _ _,p7,s4,fun A8 p8 => ?_⟩
      obtain ⟨c',hN⟩:=s5 A8 p8
      refine Nx.mk' (⟨_,hN⟩ : {q : BlQ // BlI 2 blV2 blV1 l.length q}) ?_ ?_
      · rw [w64 (by omega) (by omega)]; rfl
      · show l.length - (Q.k + 1) < l.length - Q.k; omega
  · have hk : Q.k = l.length:=by have:=hQ.le; omega
    have hb:=hQ.h.b
    have hvi:=view_i (w:=blV3) hb (by decide) (by rw [hQ.h.bo,hQ.h.bme]; decide) (by rw [hQ.db]; decide)
    have hgo : viewGo Q.p.b blV3 = true:=by
      have hl0 : leadsR Q.p.b = false:=by unfold leadsR; rw [hQ.h.bl]; rfl
      have hf : firstV Q.p.b blV3 = true:=by show (1 == Q.p.b.me) = true; rw [hQ.h.bme]; rfl
      unfold viewGo
      rw [hQ.h.bid,hQ.vb,hQ.h.bep,hl0,hf]
      decide
    have hld : leadGo Q.p.b blV3 = true:=by
      have hf : firstV Q.p.b blV3 = true:=by show (1 == Q.p.b.me) = true; rw [hQ.h.bme]; rfl
      unfold leadGo
      rw [hf,hQ.lo,hQ.h.bep]
      rfl
    have hv:=viewL_lead hgo hld
    have ho : othA Q.p.b.me blV3.mem blV3.joi = []:=by rw [hQ.h.bme]; rfl
    refine ⟨Nat.le_refl _,_,1,Q.bb,Q.p.b,hQ.p,rfl,rfl,blV3,rfl,hb,by decide,by rw [hQ.h.bo,ho]; decide,fun A7 p7 => ?_⟩
    have hvI:=hvi.i
    have e1 : leadsR (viewR Q.p.b blV3) = true:=by rw [hv]; rfl
    have e2 : readyR (viewR Q.p.b blV3) = true:=by
      rw [hv]
      show (othA Q.p.b.me blV3.mem blV3.joi).all _ = true
      rw [ho]; rfl
    have e3 : (viewR Q.p.b blV3).c = Q.p.b.c:=by rw [hv]; rfl
    have e4 : (viewR Q.p.b blV3).out = []:=by
      rw [hv]
      show Q.p.b.out ++ (othA Q.p.b.me blV3.mem blV3.joi).map _ = []
      rw [ho,hQ.h.bo]; rfl
    have e5 : (oths (viewR Q.p.b blV3)).length = 0:=by
      rw [hv]
      show (othA Q.p.b.me blV3.mem blV3.joi).length = 0
      rw [ho]; rfl
    have p7 : Pool A7 [(Q.ba,Q.p.a),(Q.bb,viewR Q.p.b blV3)]:=p7
    generalize viewR Q.p.b blV3 = B at *
    refine ⟨_,1,Q.bb,B,p7,rfl,rfl,⟨rfl⟩,hvI,fun A8 p8 => ⟨fun _ => ⟨fun _ => ⟨fun _ => ?_,fun q => ?_⟩,fun q => ?_⟩,fun q => (by cases q)⟩⟩
    · have p8 : Pool A8 [(Q.ba,Q.p.a),(Q.bb,B)]:=p8
      refine ⟨_,0,Q.ba,Q.p.a,p8,rfl,rfl,⟨rfl⟩,hQ.h.a,fun A9 p9 => ?_⟩
      have p9 : Pool A9 [(Q.ba,Q.p.a),(Q.bb,B)]:=p9
      refine ⟨_,1,Q.bb,B,p9,rfl,rfl,⟨rfl⟩,hvI,fun A10 p10 => ⟨fun _ => ?_,fun q => ?_⟩⟩
      · have p10 : Pool A10 [(Q.ba,Q.p.a),(Q.bb,B)]:=p10
        refine ⟨_,1,Q.bb,B,p10,rfl,rfl,⟨2,1,2,9,[]⟩,rfl,hvI,by rw [e4,e5]; decide,fun c hc => (by cases hc),Nat.zero_le _,fun A11 p11 => ⟨fun _ => (by trivial),fun q => ?_⟩⟩
        rw [startR_bad (by rfl)] at q; cases q
      · rw [e3,hQ.h.ac,hQ.h.bc] at q
        simp at q
    · rw [e2] at q; cases q
    · rw [e1] at q; cases q
end Go.Proofs.Ytfcjngcnifdmnaa
namespace Go.Proofs.Ytfcjngcnifdmnaa
open Vc Go
set_option linter.unusedVariables false
set_option linter.unusedSimpArgs false
set_option maxRecDepth 100000
theorem noDone_ab {E n : Int} {c : List Int} {t : List L3} {p : RR} (h : AB E n c t p) : AB E n c t ⟨{ p.a with done:=[] },p.b⟩ :=
  ⟨done0_i h.a,h.b,h.ame,h.bme,h.aid,h.bid,h.aep,h.bep,h.anu,h.bnu,h.ac,h.bc,h.at',h.bt,h.ao,h.bo,h.av,h.bl,h.al⟩
theorem lawScrubs (l : List Int) (at' : Int) (hat : 0 ≤ at'∧at' < 256) : XB2 l at' 4 [.dat (.sl 1 (ints .u8 l)),.int .u8 at'] [] KT:=by
  apply vcScrubs l at'
  rw [ints_len]
  refine ⟨fun _ => by trivial,fun q1 => ?_⟩
  have hl8 : l.length ≤ 8:=by simp only [gt_iff_lt,decide_eq_false_iff_not] at q1; omega
  refine ⟨[],[],⟨.inl ⟨rfl,rfl⟩⟩,pool_nil,fun ba A1 p1 => ⟨A1,[(ba,blA0)],⟨.inr rfl⟩,p1,fun bb A2 p2 => ⟨fun q => (by cases q),fun _ => ⟨fun q => (by cases q),fun _ => ⟨Nat.le_refl _,?_⟩⟩⟩⟩⟩
  refine ⟨[(ba,blA0),(bb,scB0)],0,ba,blA0,p2,rfl,rfl,scV,rfl,blA0_i,by decide,by decide,fun A3 p3 => ?_⟩
  obtain ⟨f1,f2,f3,f4,f5,f6,f7⟩:=scA1_eq
  have p3 : Pool A3 (set2 (rb2 ba bb blA0 scB0) scA1 scB0):=p3
  obtain ⟨q,g1,g2,g3,g4,g5,g6,g7,g8⟩:=ab_first (p:=⟨scA1,scB0⟩) scA1_i scB0_i f1 rfl f2 rfl f3 f4 f5 (by show othA 0 scA1.v.mem scA1.v.joi = _; rw [f6]; rfl) scA1_ld scA1_out (by show (0 : Int) < 1; omega) rfl rfl ⟨by omega,by omega⟩ ⟨by omega,by omega⟩ ⟨by show scA1.done.length < _; rw [f7]; decide,by decide⟩
  refine ⟨rb2 ba bb blA0 scB0,⟨scA1,scB0⟩,rfl,rfl,rb2_i _ _ _ _,p3,bo_h scA1_i scB0_i (by rw [scA1_out]; decide) (by decide) (by rw [f7]; decide) (by decide),fun A6 p6 => ?_⟩
  rw [g1] at p6
  have p6 : Pool A6 [(ba,q.a),(bb,q.b)]:=p6
  refine ⟨At.mk' (⟨⟨0,ba,bb,A6,q,scA1.c⟩,⟨Nat.zero_le _,p6,g2,by rw [g3,f7]; rfl,by rw [g4]; rfl,by rw [g6]; exact f6,by rw [g5]; rfl,by rw [g7]; rfl⟩⟩ : {q : BlQ // BlI 1 scV ⟨0,0,0,[],[]⟩ l.length q}) rfl,?_⟩
  clear g1 g2 g3 g4 g5 g6 g7 g8 p6 p3 p2 p1
  rintro ⟨Q,hQ⟩
  dsimp only
  simp only [decide_eq_true_eq,decide_eq_false_iff_not]
  refine ⟨fun hlt => ?_,fun hge => ?_⟩
  · have hlt : Q.k < l.length:=by omega
    have hge:=List.getElem?_eq_getElem hlt
    generalize l[Q.k] = x at hge
    obtain ⟨s1,s2,s3,s4,s5⟩:=bl_step hQ hlt hl8 ⟨by omega,by omega⟩ (IntKind.i64.wrap x)
    refine ⟨by unfold NonN; omega,[dn .u8 x],by rw [Int.toNat_natCast,ints_getElem?,hge]; rfl,x,rfl,_,0,Q.ba,Q.p.a,hQ.p,rfl,rfl,⟨1,1 + (Q.k : Int),1,Q.k,valI (IntKind.i64.wrap x)⟩,by rw [w64 (by omega) (by omega)]; rfl,hQ.h.a,by rw [hQ.h.ao,s3]; show 0 + 1 ≤ _; omega,valI_byt _,by show (valI _).length ≤ _; rw [valI_len]; omega,fun A7 p7 => ⟨fun q => ?_,fun _ => ?_⟩⟩
    · rw [s1] at q; cases q
    · have p7 : Pool A7 (set2 (rb2 Q.ba Q.bb blA0 blB0) (startR Q.p.a ⟨1,1 + (Q.k : Int),1,Q.k,valI (IntKind.i64.wrap x)⟩).2 Q.p.b):=p7
      refine ⟨rb2 Q.ba Q.bb blA0 blB0,⟨_,Q.p.b⟩,rfl,rfl,rb2_i _ _ _ _,p7,s4,fun A8 p8 => ?_⟩
      obtain ⟨c',hN⟩:=s5 A8 p8
      refine Nx.mk' (⟨_,hN⟩ : {q : BlQ // BlI 1 scV ⟨0,0,0,[],[]⟩ l.length q}) ?_ ?_
      · rw [w64 (by omega) (by omega)]; rfl
      · show l.length - (Q.k + 1) < l.length - Q.k; omega
  · have hk : Q.k = l.length:=by have:=hQ.le; omega
    have hS:=noDone_ab hQ.h
    have hbk : 0 ≤ (IntKind.i64.wrap at').tmod 8∧(IntKind.i64.wrap at').tmod 8 < 8:=by
      rw [w64 (n:=at') (by omega) (by omega),Int.tmod_eq_emod_of_nonneg (by omega)]; omega
    generalize (IntKind.i64.wrap at').tmod 8 = bk at *
    have hrt : rtOp ⟨255,1,4,bk,[]⟩ = true:=by
      unfold rtOp rightO
      dsimp only
      rw [decide_eq_true_eq]
      exact ⟨by omega,by omega,by omega,by omega,by omega,by omega,by omega,by omega,fun h => absurd h (by omega)⟩
    have hoi : OpI ⟨255,1,4,bk,[]⟩:=⟨fun c hc => (by cases hc),Nat.zero_le _⟩
    have hoth : oths Q.p.a = [1]:=by unfold oths; rw [hQ.h.ame]; exact hQ.h.av
    have hdb : Q.p.b.done.length = 0:=by rw [hQ.db]; rfl
    have hs:=start_i hS.a hoi (by rw [hS.anu]; omega) (by show Q.p.a.out.length + (oths Q.p.a).length ≤ _; rw [hQ.h.ao,hoth]; decide) (by show 0 < _; omega)
    have so:=hs.o
    have sd:=hs.d
    have so : (startR { Q.p.a with done:=[] } ⟨255,1,4,bk,[]⟩).2.out.length ≤ Q.p.a.out.length + (oths Q.p.a).length:=so
    rw [hQ.h.ao,hoth] at so
    have sd : (startR { Q.p.a with done:=[] } ⟨255,1,4,bk,[]⟩).2.done.length ≤ 0 + 1:=sd
    obtain ⟨g1,q2,g2,g3,g4,g5,g6,g7,g8,g9⟩:=ab_step hS hrt hoi ⟨by omega,by omega⟩ ⟨by omega,by omega⟩ (fun h => (by cases h)) ⟨by show 0 < _; omega,by show Q.p.b.done.length < _; omega⟩
    have hc : doC Q.c 4 bk [] = Q.c:=doCn (by omega) (by omega)
    have g3c:=g3.ac
    have g3d:=g3.bc
    have g3c : q2.a.c = Q.c:=g3c.trans hc
    have g3d : q2.b.c = Q.c:=g3d.trans hc
    have g4 : q2.a.done = [⟨⟨255,1,4,bk,[]⟩,0,[]⟩]:=g4
    refine ⟨_,0,Q.ba,Q.p.a,hQ.p,rfl,rfl,⟨rfl⟩,hQ.h.a,fun A7 p7 => ?_⟩
    have p7 : Pool A7 [(Q.ba,Q.p.a),(Q.bb,Q.p.b)]:=p7
    refine ⟨_,0,Q.ba,Q.p.a,p7,rfl,rfl,⟨rfl⟩,hQ.h.a,fun A8 p8 => ?_⟩
    have p8 : Pool A8 [(Q.ba,{ Q.p.a with done:=[] }),(Q.bb,Q.p.b)]:=p8
    refine ⟨_,0,Q.ba,_,p8,rfl,rfl,⟨255,1,4,bk,[]⟩,rfl,hS.a,by show Q.p.a.out.length + (oths Q.p.a).length ≤ _; rw [hQ.h.ao,hoth]; decide,fun c hc => (by cases hc),Nat.zero_le _,fun A9 p9 => ?_⟩
    have p9 : Pool A9 (set2 (rb2 Q.ba Q.bb blA0 blB0) (startR { Q.p.a with done:=[] } ⟨255,1,4,bk,[]⟩).2 Q.p.b):=p9
    refine ⟨rb2 Q.ba Q.bb blA0 blB0,⟨_,Q.p.b⟩,rfl,rfl,rb2_i _ _ _ _,p9,bo_h hs.i hQ.h.b (Nat.le_trans so (by decide)) (by rw [hQ.h.bo]; decide) (Nat.le_trans sd (by decide)) (by omega),fun A10 p10 => ?_⟩
    have g2 : boN 20 ⟨(startR { Q.p.a with done:=[] } ⟨255,1,4,bk,[]⟩).2,Q.p.b⟩ = q2:=g2
    rw [g2] at p10
    have p10 : Pool A10 [(Q.ba,q2.a),(Q.bb,q2.b)]:=p10
    refine ⟨_,0,Q.ba,q2.a,p10,rfl,rfl,⟨rfl⟩,g3.a,fun A11 p11 => ?_⟩
    have hD:=done0_i g3.a
    have p11 : Pool A11 [(Q.ba,{ q2.a with done:=[] }),(Q.bb,q2.b)]:=p11
    refine ⟨_,0,Q.ba,_,p11,rfl,rfl,⟨rfl⟩,hD,fun A12 p12 => ?_⟩
    have p12 : Pool A12 [(Q.ba,{ q2.a with done:=[] }),(Q.bb,q2.b)]:=p12
    refine ⟨_,1,Q.bb,q2.b,p12,rfl,rfl,⟨rfl⟩,g3.b,fun A13 p13 => ?_⟩
    have p13 : Pool A13 [(Q.ba,{ q2.a with done:=[] }),(Q.bb,q2.b)]:=p13
    have eD : q2.a.done.map dnD = [dnD ⟨⟨255,1,4,bk,[]⟩,0,[]⟩]:=by rw [g4]; rfl
    have eN : (l.length : Int) + 1 = q2.a.nu:=by rw [g3.anu,← hk]
    have eM : q2.b.nu = q2.a.nu:=by rw [g3.anu,g3.bnu]
    have hw : IntKind.i64.wrap ((l.length : Int) + 1) = q2.a.nu:=by rw [w64 (by omega) (by omega)]; exact eN
    refine ⟨fun _ => ⟨fun _ => ⟨by unfold NonN; omega,_,by rw [eD]; rfl,0,rfl,fun _ => ⟨by unfold NonN; omega,_,by rw [eD]; rfl,[],rfl,fun _ => ?_,fun q => (by cases q)⟩,fun q => (by cases q)⟩,fun q => ?_⟩,fun q => ?_⟩
    · refine ⟨_,0,Q.ba,_,p13,rfl,rfl,⟨rfl⟩,hD,fun A14 p14 => ⟨fun _ => ?_,fun q => ?_⟩⟩
      · have p14 : Pool A14 [(Q.ba,{ q2.a with done:=[] }),(Q.bb,q2.b)]:=p14
        refine ⟨_,1,Q.bb,q2.b,p14,rfl,rfl,⟨rfl⟩,g3.b,fun A15 p15 => ⟨fun _ => ⟨fun _ => ⟨fun _ => (by trivial),fun q => ?_⟩,fun q => ?_⟩,fun q => ?_⟩⟩
        · have q : (q2.b.nu == q2.a.nu) = false:=q
          rw [eM] at q; simp at q
        · have q : (q2.a.nu == IntKind.i64.wrap ((l.length : Int) + 1)) = false:=q
          rw [hw] at q; simp at q
        · rw [g3d,hQ.h.ac] at q; simp at q
      · have q : (crcI q2.a.c == crcI Q.p.a.c) = false:=q
        rw [g3c,hQ.h.ac] at q; simp at q
    · rw [eD] at q; cases q
    · have q : ((startR { Q.p.a with done:=[] } ⟨255,1,4,bk,[]⟩).1 == 0) = false:=q
      have g1 : (startR { Q.p.a with done:=[] } ⟨255,1,4,bk,[]⟩).1 = 0:=g1
      rw [g1] at q; cases q
end Go.Proofs.Ytfcjngcnifdmnaa
