import Derived.Test.YtfcjngcnifdmnaaQe
import Derived.KernelRfl
namespace Go.Proofs.Ytfcjngcnifdmnaa
open Vc Go
set_option linter.unusedVariables false
set_option linter.unusedSimpArgs false
set_option maxRecDepth 100000
def Sall2 : FSpec:=fun args kb K => match args,kb with
  | [.ptr 0 0,.mp 1],[.cells [.int .i64 me,.any a1,.any a2,.any a3,.any a4,.any a5,.arr 128 C,.any a7,.any a8,.any a9,.any a10,.dat (.sl 1 M),.dat (.sl 1 J),.any a13,.any a14,.any a15,.any a16,.any a17,.any a18,.any a19,.any a20,.any a21],.mp [.i64] false false 1 (Q)] => ∃ m j,M = ints .i64 m∧J = ints .i64 j∧Len5 (m.length + j.length)∧BoolM Q∧K (.sb (!(othA me m j).any (isNot Q))) [.cells [.int .i64 me,.any a1,.any a2,.any a3,.any a4,.any a5,.arr 128 C,.any a7,.any a8,.any a9,.any a10,.dat (.sl 1 M),.dat (.sl 1 J),.any a13,.any a14,.any a15,.any a16,.any a17,.any a18,.any a19,.any a20,.any a21],.mp [.i64] false false 1 (Q)]
  | _,_ => False
def alS : FuncId→Option Known
  | 23 => some ⟨[],hideIn [false,true,true,true,true,true,false,true,true,true,true,false,false,true,true,true,true,true,true,true,true,true] Sothers⟩
  | 41 => some ⟨[],ScontF⟩
  | _ => none
noncomputable def XAl : CallT:=callS Try.prog alS noT 10
def allI (me : Int) (m j : List Int) (Q : ML) : Bool:=!(othA me m j).any (isNot Q)
def Sleads : FSpec:=fun args kb K => match args,kb with
  | [.ptr 0 0],[.cells [.any a0,.any a1,.any a2,.any a3,.any a4,.any a5,.arr 128 C,.any a7,.any a8,.any a9,.any a10,.any a11,.any a12,.sb ld,.any a14,.any a15,.ipo o,.any a17,.any a18,.any a19,.any a20,.any a21]] => ld = false∧K (.tup [.sb false,.sb false,.sb (!o.isNone)]) [.cells [.any a0,.any a1,.any a2,.any a3,.any a4,.any a5,.arr 128 C,.any a7,.any a8,.any a9,.any a10,.any a11,.any a12,.sb ld,.any a14,.any a15,.ipo o,.any a17,.any a18,.any a19,.any a20,.any a21]]
  | [.ptr 0 0],[.cells [.int .i64 me,.any a1,.any a2,.any a3,.any a4,.any a5,.arr 128 C,.any a7,.any a8,.any a9,.any a10,.dat (.sl 1 M),.dat (.sl 1 J),.sb ld,.mp 1,.any a15,.ipo o,.any a17,.any a18,.any a19,.any a20,.any a21],.mp [.i64] false false 1 (Q)] => ∃ m j,M = ints .i64 m∧J = ints .i64 j∧Len5 (m.length + j.length)∧BoolM Q∧ld = true∧K (.tup [.sb true,.sb (allI me m j Q),.sb (!o.isNone)]) [.cells [.int .i64 me,.any a1,.any a2,.any a3,.any a4,.any a5,.arr 128 C,.any a7,.any a8,.any a9,.any a10,.dat (.sl 1 M),.dat (.sl 1 J),.sb ld,.mp 1,.any a15,.ipo o,.any a17,.any a18,.any a19,.any a20,.any a21],.mp [.i64] false false 1 (Q)]
  | _,_ => False
def ldS : FuncId→Option Known
  | 25 => some ⟨[],hideIn [false,true,true,true,true,true,false,true,true,true,true,false,false,true,true,true,true,true,true,true,true,true] Sall2⟩
  | _ => none
noncomputable def XLd : CallT:=callS Try.prog ldS noT 10
def rightO (cl nm kd bk : Int) (b : Nat) : Bool:=decide (1 ≤ kd∧kd ≤ 4∧0 ≤ bk∧bk < 8∧0 ≤ cl∧cl ≤ 255∧1 ≤ nm∧nm ≤ 1099511627776∧(kd = 1→b = 16))
def isChg (kd : Int) : Bool:=decide (kd = 1∨kd = 2)
def SisRight : FSpec:=fun args kb K => match args,kb with
  | [.agg [.int .i64 cl,.int .i64 nm,.int .i64 kd,.int .i64 bk,.dat (.sl 1 B)]],[] => K (.sb (rightO cl nm kd bk B.length)) []
  | _,_ => False
def SisChange : FSpec:=fun args kb K => match args,kb with
  | [.agg [.int .i64 cl,.int .i64 nm,.int .i64 kd,.int .i64 bk,.dat (.sl 1 B)]],[] => K (.sb (isChg kd)) []
  | _,_ => False
def finX (c : List Int) (kd bk : Int) : List (List D):=if kd = 3 then ints .u8 ((c.drop (bk.toNat * 16)).take 16) else []
def Sfinish : FSpec:=fun args kb K => match args,kb with
  | [.ptr 0 0],[.cells [.int .i64 me,.any a1,.any a2,.any a3,.any a4,.any a5,.arr 128 C,.any a7,.any a8,.any a9,.any a10,.dat (.sl 1 M),.dat (.sl 1 J),.any a13,.any a14,.mp 1,.ipo o,.any a17,.any a18,.any a19,.any a20,.sl 2 0 n],.mp [.i64] false false 1 (Q),.row 46 7 (A)] => n = A.length∧LenR n∧∃ m j c p,Cnt C c∧M = ints .i64 m∧J = ints .i64 j∧Len5 (m.length + j.length)∧BoolM Q∧o = some (opD p)∧okI p.bk ∧
      (allI me m j Q = false→K (.tup []) [.cells [.int .i64 me,.any a1,.any a2,.any a3,.any a4,.any a5,.arr 128 C,.any a7,.any a8,.any a9,.any a10,.dat (.sl 1 M),.dat (.sl 1 J),.any a13,.any a14,.mp 1,.ipo o,.any a17,.any a18,.any a19,.any a20,.sl 2 0 n],.mp [.i64] false false 1 (Q),.row 46 7 (A)]) ∧
      (allI me m j Q = true→K (.tup []) [.cells [.int .i64 me,.any a1,.any a2,.any a3,.any a4,.any a5,.arr 128 (dns .u8 c),.any a7,.any a8,.any a9,.any a10,.dat (.sl 1 M),.dat (.sl 1 J),.any a13,.any a14,.mp 1,.ipo none,.any a17,.any a18,.any a19,.any a20,.sl 3 0 (n + 1)],.mp [.i64] false false 1 (Q),.dead,.row 46 7 (A ++ [dnE p 0 (finX c p.kd p.bk)])])
  | _,_ => False
def fiS : FuncId→Option Known
  | 25 => some ⟨[],hideIn [false,true,true,true,true,true,false,true,true,true,true,false,false,true,true,true,true,true,true,true,true,true] Sall2⟩
  | 62 => some ⟨[],hideIn [true,true,true,true,true,true,false,true,true,true,true,true,true,true,true,true,true,true,true,true,true,true] SbRead⟩
  | _ => none
noncomputable def XFi : CallT:=callS Try.prog fiS noT 10
def doC (c : List Int) (kd bk : Int) (b : List Int) : List Int:=if kd = 1 then splice c (bk.toNat * 16) b else if kd = 2 then splice c (bk.toNat * 16) (List.replicate 16 0) else c
structure RgN (n : Int) : Prop where
  lo : 0 ≤ n
  hi : n ≤ 4398046511104
structure NoCh (kd : Int) : Prop where
  h : isChg kd = false
structure Chg (kd : Int) : Prop where
  h : isChg kd = true
structure RtO (cl nm kd bk : Int) (b : Nat) : Prop where
  h : rightO cl nm kd bk b = true
def Sdo : FSpec:=fun args kb K => match args,kb with
  | [.ptr 0 0,.agg [.int .i64 cl,.int .i64 nm,.int .i64 kd,.int .i64 bk,.dat (.sl 1 B)]],[.cells [.any a0,.any a1,.any a2,.any a3,.any a4,.int .i64 nu,.arr 128 C,.imp [.i64] false true 2 T,.any a8,.any a9,.any a10,.any a11,.any a12,.any a13,.any a14,.any a15,.any a16,.any a17,.sb ch,.any a19,.any a20,.any a21]] => ∃ c b x,Cnt C c∧B = ints .u8 b∧Tab T x∧RgN nu∧RtO cl nm kd bk b.length ∧
      (NoCh kd→K (.tup []) [.cells [.any a0,.any a1,.any a2,.any a3,.any a4,.int .i64 (nu + 1),.arr 128 (dns .u8 (doC c kd bk b)),tbV T,.any a8,.any a9,.any a10,.any a11,.any a12,.any a13,.any a14,.any a15,.any a16,.any a17,.sb true,.any a19,.any a20,.any a21]]) ∧
      (Chg kd→(NeZ (putE x cl nm 0)→K (.tup []) [.cells [.any a0,.any a1,.any a2,.any a3,.any a4,.int .i64 (nu + 1),.arr 128 (dns .u8 (doC c kd bk b)),tbV T,.any a8,.any a9,.any a10,.any a11,.any a12,.any a13,.any a14,.any a15,.any a16,.any a17,.sb true,.any a19,.any a20,.any a21]])∧(EqZ (putE x cl nm 0)→K (.tup []) [.cells [.any a0,.any a1,.any a2,.any a3,.any a4,.int .i64 (nu + 1),.arr 128 (dns .u8 (doC c kd bk b)),tbV (mset T [cl] [dn .i64 nm,dn .i64 0]),.any a8,.any a9,.any a10,.any a11,.any a12,.any a13,.any a14,.any a15,.any a16,.any a17,.sb true,.any a19,.any a20,.any a21]]))
  | _,_ => False
def doS : FuncId→Option Known
  | 60 => some ⟨[],hideIn [true,true,true,true,true,true,false,true,true,true,true,true,true,true,true,true,true,true,true,true,true,true] Swrite⟩
  | 61 => some ⟨[],hideIn [true,true,true,true,true,true,false,true,true,true,true,true,true,true,true,true,true,true,true,true,true,true] Strim⟩
  | 59 => some ⟨[],hideIn [true,true,true,true,true,true,false,false,true,true,true,true,true,true,true,true,true,true,true,true,true,true] SputR⟩
  | _ => none
noncomputable def XDo : CallT:=callS Try.prog doS noT 10
structure EqI2 (a b : Int) : Prop where
  h : a = b
def Sknown : FSpec:=fun args kb K => match args,kb with
  | [.ptr 0 0,.agg [.int .i64 cl,.int .i64 nm,.int .i64 kd,.int .i64 bk,.dat (.sl 1 B)]],[.cells [.any a0,.any a1,.any a2,.any a3,.any a4,.any a5,.arr 128 C,.imp [.i64] false true 2 T,.any a8,.any a9,.any a10,.any a11,.any a12,.any a13,.any a14,.any a15,.any a16,.any a17,.any a18,.any a19,.any a20,.sl 1 0 n],.row 46 7 (A)] => n = A.length∧LenR n∧∃ x,Tab T x ∧
      (EqI2 (chkK x cl nm) 1→K (.tup [.int .i64 0,.sb true]) [.cells [.any a0,.any a1,.any a2,.any a3,.any a4,.any a5,.arr 128 C,tbV T,.any a8,.any a9,.any a10,.any a11,.any a12,.any a13,.any a14,.any a15,.any a16,.any a17,.any a18,.any a19,.any a20,.sl 2 0 (n + 1)],.dead,.row 46 7 (A ++ [[dn .i64 cl,dn .i64 nm,dn .i64 kd,dn .i64 bk,.sl 1 B,dn .i64 (chkE x cl nm),.sl 1 []]])]) ∧
      (EqI2 (chkK x cl nm) 2→K (.tup [.int .i64 13,.sb true]) [.cells [.any a0,.any a1,.any a2,.any a3,.any a4,.any a5,.arr 128 C,.imp [.i64] false true 2 T,.any a8,.any a9,.any a10,.any a11,.any a12,.any a13,.any a14,.any a15,.any a16,.any a17,.any a18,.any a19,.any a20,.sl 1 0 n],.row 46 7 (A)]) ∧
      (EqI2 (chkK x cl nm) 0→(NeZ (putE x cl nm 0)→K (.tup [.int .i64 (putE x cl nm 0),.sb true]) [.cells [.any a0,.any a1,.any a2,.any a3,.any a4,.any a5,.arr 128 C,.imp [.i64] false true 2 T,.any a8,.any a9,.any a10,.any a11,.any a12,.any a13,.any a14,.any a15,.any a16,.any a17,.any a18,.any a19,.any a20,.sl 1 0 n],.row 46 7 (A)])∧(EqZ (putE x cl nm 0)→K (.tup [.int .i64 0,.sb false]) [.cells [.any a0,.any a1,.any a2,.any a3,.any a4,.any a5,.arr 128 C,.imp [.i64] false true 2 T,.any a8,.any a9,.any a10,.any a11,.any a12,.any a13,.any a14,.any a15,.any a16,.any a17,.any a18,.any a19,.any a20,.sl 1 0 n],.row 46 7 (A)]))
  | _,_ => False
def knS : FuncId→Option Known
  | 58 => some ⟨[],hideIn [true,true,true,true,true,true,false,false,true,true,true,true,true,true,true,true,true,true,true,true,true,true] ScheckR⟩
  | 59 => some ⟨[],Sput⟩
  | _ => none
noncomputable def XKn : CallT:=callS Try.prog knS noT 10
theorem vcAll2 (a1 a2 a3 a4 a5 a7 a8 a9 a10 a13 a14 a15 a16 a17 a18 a19 a20 a21 : Value) (C : List D) (me : Int) (M J : List (List D)) (Q : ML) (K : V→KB→Prop) (hvc_ :
 ∀ (y1 : Nat →
 Value),∃ (y2 : List Int),∃ (y3 : List Int),M = ints IntKind.i64 y2 ∧
 J = ints IntKind.i64 y3 ∧
 Len5 (y2.length + y3.length) ∧
 SmF y1 [1,2,3,4,5,7,8,9,10,13,14,15,16,17,18,19,20,21] ∧
 ∃ (y4 : List Int),ints IntKind.i64 (othZ me y2 y3) = ints IntKind.i64 y4 ∧
 (othA me y2 y3).length ≤ y4.length ∧
 Len5 y4.length ∧
 BoolM Q ∧
 K (V.sb !(List.take (othA me y2 y3).length y4).any (isNot Q)) [KO.cells [V.int IntKind.i64 me,V.any a1,V.any a2,V.any a3,V.any a4,V.any a5,V.arr 128 C,V.any a7,V.any a8,V.any a9,V.any a10,V.dat (D.sl 1 M),V.dat (D.sl 1 J),V.any a13,V.any a14,V.any a15,V.any a16,V.any a17,V.any a18,V.any a19,V.any a20,V.any a21],KO.mp [IntKind.i64] false false 1 Q]
 ) : runSpec Try.prog XAl (noT 25) 25 [.ptr 0 0,.mp 1] [.cells [.int .i64 me,.any a1,.any a2,.any a3,.any a4,.any a5,.arr 128 C,.any a7,.any a8,.any a9,.any a10,.dat (.sl 1 M),.dat (.sl 1 J),.any a13,.any a14,.any a15,.any a16,.any a17,.any a18,.any a19,.any a20,.any a21],.mp [.i64] false false 1 (Q)] (tidyRes 2 K):=by apply Eq.mp (a:=hvc_); kernel_rfl
theorem vcIsRight (cl nm kd bk : Int) (B : List (List D)) (K : V→KB→Prop) (hvc_ :
 (decide (kd ≥ 1) = true →
 (decide (kd ≤ 4) = true →
 (decide (bk ≥ 0) = true →
 (decide (bk < 8) = true →
 (decide (cl ≥ 0) = true →
 (decide (cl ≤ 255) = true →
 (decide (nm ≥ 1) = true →
 (decide (nm ≤ 1099511627776) = true →
 ((kd != 1) = true →
 K (V.sb true) []) ∧
 ((kd != 1) = false →
 K (V.sb ((↑B.length : Int) == 16)) [])) ∧
 (decide (nm ≤ 1099511627776) = false →
 K (V.sb false) [])) ∧
 (decide (nm ≥ 1) = false →
 K (V.sb false) [])) ∧
 (decide (cl ≤ 255) = false →
 K (V.sb false) [])) ∧
 (decide (cl ≥ 0) = false →
 K (V.sb false) [])) ∧
 (decide (bk < 8) = false →
 K (V.sb false) [])) ∧
 (decide (bk ≥ 0) = false →
 K (V.sb false) [])) ∧
 (decide (kd ≤ 4) = false →
 K (V.sb false) [])) ∧
 (decide (kd ≥ 1) = false →
 K (V.sb false) [])
 ) : runSpec Try.prog X0 (noT 27) 27 [.agg [.int .i64 cl,.int .i64 nm,.int .i64 kd,.int .i64 bk,.dat (.sl 1 B)]] [] (tidyRes 0 K):=by apply Eq.mp (a:=hvc_); kernel_rfl
theorem vcIsChange (cl nm kd bk : Int) (B : List (List D)) (K : V→KB→Prop) (hvc_ :
 ((kd == 1) = true →
 K (V.sb true) []) ∧
 ((kd == 1) = false →
 K (V.sb (kd == 2)) [])
 ) : runSpec Try.prog X0 (noT 28) 28 [.agg [.int .i64 cl,.int .i64 nm,.int .i64 kd,.int .i64 bk,.dat (.sl 1 B)]] [] (tidyRes 0 K):=by apply Eq.mp (a:=hvc_); kernel_rfl
theorem vcLeads0 (a0 a1 a2 a3 a4 a5 a7 a8 a9 a10 a11 a12 a14 a15 a17 a18 a19 a20 a21 : Value) (C : List D) (ld : Bool) (o : Option (List D)) (K : V→KB→Prop) (hvc_ :
 let z1_ : KB:=[KO.cells [V.any a0,V.any a1,V.any a2,V.any a3,V.any a4,V.any a5,V.arr 128 C,V.any a7,V.any a8,V.any a9,V.any a10,V.any a11,V.any a12,V.sb ld,V.any a14,V.any a15,V.ipo o,V.any a17,V.any a18,V.any a19,V.any a20,V.any a21]]; (ld = true →
 (∀ (y1 : Nat →
 Value),False) ∧
 ∀ (y2 : Nat →
 Value),False) ∧
 (ld = false →
 K (V.tup [V.sb ld,V.sb false,V.sb !o.isNone]) z1_ ∧
 K (V.tup [V.sb ld,V.sb false,V.sb !o.isNone]) z1_)
 ) : runSpec Try.prog XLd (noT 9) 9 [.ptr 0 0] [.cells [.any a0,.any a1,.any a2,.any a3,.any a4,.any a5,.arr 128 C,.any a7,.any a8,.any a9,.any a10,.any a11,.any a12,.sb ld,.any a14,.any a15,.ipo o,.any a17,.any a18,.any a19,.any a20,.any a21]] (tidyRes 1 K):=by apply Eq.mp (a:=hvc_); kernel_rfl
theorem vcLeads1 (a1 a2 a3 a4 a5 a7 a8 a9 a10 a15 a17 a18 a19 a20 a21 : Value) (C : List D) (ld : Bool) (me : Int) (M J : List (List D)) (Q : ML) (o : Option (List D)) (K : V→KB→Prop) (hvc_ :
 let z1_ : KB:=[KO.cells [V.int IntKind.i64 me,V.any a1,V.any a2,V.any a3,V.any a4,V.any a5,V.arr 128 C,V.any a7,V.any a8,V.any a9,V.any a10,V.dat (D.sl 1 M),V.dat (D.sl 1 J),V.sb ld,V.mp 1,V.any a15,V.ipo o,V.any a17,V.any a18,V.any a19,V.any a20,V.any a21],KO.mp [IntKind.i64] false false 1 Q]; (ld = true →
 (∀ (y1 : Nat →
 Value),∃ (y2 : List Int),∃ (y3 : List Int),M = ints IntKind.i64 y2 ∧
 J = ints IntKind.i64 y3 ∧
 Len5 (y2.length + y3.length) ∧
 BoolM Q ∧
 SmF y1 [1,2,3,4,5,7,8,9,10,13,14,15,16,17,18,19,20,21] ∧
 ld = ld ∧
 K (V.tup [V.sb ld,V.sb !(othA me y2 y3).any (isNot Q),V.sb !o.isNone]) z1_) ∧
 ∀ (y4 : Nat →
 Value),∃ (y5 : List Int),∃ (y6 : List Int),M = ints IntKind.i64 y5 ∧
 J = ints IntKind.i64 y6 ∧
 Len5 (y5.length + y6.length) ∧
 BoolM Q ∧
 SmF y4 [1,2,3,4,5,7,8,9,10,13,14,15,16,17,18,19,20,21] ∧
 ld = ld ∧
 K (V.tup [V.sb ld,V.sb !(othA me y5 y6).any (isNot Q),V.sb !o.isNone]) z1_) ∧
 (ld = false →
 K (V.tup [V.sb ld,V.sb false,V.sb !o.isNone]) z1_ ∧
 K (V.tup [V.sb ld,V.sb false,V.sb !o.isNone]) z1_)
 ) : runSpec Try.prog XLd (noT 9) 9 [.ptr 0 0] [.cells [.int .i64 me,.any a1,.any a2,.any a3,.any a4,.any a5,.arr 128 C,.any a7,.any a8,.any a9,.any a10,.dat (.sl 1 M),.dat (.sl 1 J),.sb ld,.mp 1,.any a15,.ipo o,.any a17,.any a18,.any a19,.any a20,.any a21],.mp [.i64] false false 1 (Q)] (tidyRes 2 K):=by apply Eq.mp (a:=hvc_); kernel_rfl
theorem vcFinish (a1 a2 a3 a4 a5 a7 a8 a9 a10 a13 a14 a17 a18 a19 a20 : Value) (C : List D) (me : Int) (M J : List (List D)) (Q : ML) (o : Option (List D)) (n : Nat) (A : List (List D)) (K : V→KB→Prop) (hvc_ :
 let z1_ : KB:=[KO.cells [V.int IntKind.i64 me,V.any a1,V.any a2,V.any a3,V.any a4,V.any a5,V.arr 128 C,V.any a7,V.any a8,V.any a9,V.any a10,V.dat (D.sl 1 M),V.dat (D.sl 1 J),V.any a13,V.any a14,V.mp 1,V.ipo o,V.any a17,V.any a18,V.any a19,V.any a20,V.sl 2 0 n],KO.mp [IntKind.i64] false false 1 Q,KO.row 46 7 A]; let z2_:=KO.cells [V.int IntKind.i64 me,V.any a1,V.any a2,V.any a3,V.any a4,V.any a5,V.arr 128 C,V.any a7,V.any a8,V.any a9,V.any a10,V.dat (D.sl 1 M),V.dat (D.sl 1 J),V.any a13,V.any a14,V.mp 1,V.ipo none,V.any a17,V.any a18,V.any a19,V.any a20,V.sl 3 0 (n + 1)]; (o.isNone = true →
 K (V.tup []) z1_) ∧
 (o.isNone = false →
 ∀ (y1 : Nat →
 Value),∃ (y2 : List Int),∃ (y3 : List Int),M = ints IntKind.i64 y2 ∧
 J = ints IntKind.i64 y3 ∧
 Len5 (y2.length + y3.length) ∧
 BoolM Q ∧
 SmF y1 [1,2,3,4,5,7,8,9,10,13,14,15,16,17,18,19,20,21] ∧
 ((!!(othA me y2 y3).any (isNot Q)) = true →
 K (V.tup []) z1_) ∧
 ((!!(othA me y2 y3).any (isNot Q)) = false →
 ∃ (y4 : List D),o = some y4 ∧
 ∃ (y5 : Int),y4[0]? = some (D.val (Value.int IntKind.i64 y5)) ∧
 ∃ (y6 : Int),y4[1]? = some (D.val (Value.int IntKind.i64 y6)) ∧
 ∃ (y7 : Int),y4[2]? = some (D.val (Value.int IntKind.i64 y7)) ∧
 ∃ (y8 : Int),y4[3]? = some (D.val (Value.int IntKind.i64 y8)) ∧
 ∃ (y9 : List (List D)),y4[4]? = some (D.sl 1 y9) ∧
 ∃ (y10 : List D),o = some y10 ∧
 ∃ (y11 : Int),y10[2]? = some (D.val (Value.int IntKind.i64 y11)) ∧
 ((y11 == 3) = true →
 ∃ (y12 : List D),o = some y12 ∧
 ∃ (y13 : Int),y12[3]? = some (D.val (Value.int IntKind.i64 y13)) ∧
 ∀ (y14 : Nat →
 Value),∃ (y15 : List Int),C = dns IntKind.u8 y15 ∧
 y15.length = 128 ∧
 (okI y13 →
 SmF y14 [0,1,2,3,4,5,7,8,9,10,11,12,13,14,15,16,17,18,19,20,21] ∧
 (16 ≤ (ints IntKind.u8 (List.take 16 (List.drop (y13.toNat * 16) y15))).length ∧
 1 ≤ 1 ∧
 n ≤ A.length ∧
 (n + 1) * 88 ≤ 140737488355328 ∧
 K (V.tup []) [KO.cells [V.int IntKind.i64 me,V.any a1,V.any a2,V.any a3,V.any a4,V.any a5,V.arr 128 (dns IntKind.u8 y15),V.any a7,V.any a8,V.any a9,V.any a10,V.dat (D.sl 1 M),V.dat (D.sl 1 J),V.any a13,V.any a14,V.mp 1,V.ipo none,V.any a17,V.any a18,V.any a19,V.any a20,V.sl 3 0 (n + 1)],KO.mp [IntKind.i64] false false 1 Q,KO.dead,KO.row 46 7 (List.take n A ++ [[D.val (Value.int IntKind.i64 y5),D.val (Value.int IntKind.i64 y6),D.val (Value.int IntKind.i64 y7),D.val (Value.int IntKind.i64 y8),D.sl 1 y9,D.val (Value.int IntKind.i64 0),D.sl 1 (List.drop 0 (List.take 16 (ints IntKind.u8 (List.take 16 (List.drop (y13.toNat * 16) y15)))))]])]) ∧
 16 ≤ (ints IntKind.u8 (List.take 16 (List.drop (y13.toNat * 16) y15))).length ∧
 1 ≤ 1 ∧
 n ≤ A.length ∧
 (n + 1) * 88 ≤ 140737488355328 ∧
 K (V.tup []) [KO.cells [V.int IntKind.i64 me,V.any a1,V.any a2,V.any a3,V.any a4,V.any a5,V.arr 128 (dns IntKind.u8 y15),V.any a7,V.any a8,V.any a9,V.any a10,V.dat (D.sl 1 M),V.dat (D.sl 1 J),V.any a13,V.any a14,V.mp 1,V.ipo none,V.any a17,V.any a18,V.any a19,V.any a20,V.sl 3 0 (n + 1)],KO.mp [IntKind.i64] false false 1 Q,KO.dead,KO.row 46 7 (List.take n A ++ [[D.val (Value.int IntKind.i64 y5),D.val (Value.int IntKind.i64 y6),D.val (Value.int IntKind.i64 y7),D.val (Value.int IntKind.i64 y8),D.sl 1 y9,D.val (Value.int IntKind.i64 0),D.sl 1 (List.drop 0 (List.take 16 (ints IntKind.u8 (List.take 16 (List.drop (y13.toNat * 16) y15)))))]])]) ∧
 ((okI y13 →
 False) →
 SmF y14 [0,1,2,3,4,5,7,8,9,10,11,12,13,14,15,16,17,18,19,20,21] ∧
 (1 ≤ 1 ∧
 n ≤ A.length ∧
 (n + 1) * 88 ≤ 140737488355328 ∧
 K (V.tup []) [KO.cells [V.int IntKind.i64 me,V.any a1,V.any a2,V.any a3,V.any a4,V.any a5,V.arr 128 (dns IntKind.u8 y15),V.any a7,V.any a8,V.any a9,V.any a10,V.dat (D.sl 1 M),V.dat (D.sl 1 J),V.any a13,V.any a14,V.mp 1,V.ipo none,V.any a17,V.any a18,V.any a19,V.any a20,V.sl 3 0 (n + 1)],KO.mp [IntKind.i64] false false 1 Q,KO.dead,KO.row 46 7 (List.take n A ++ [[D.val (Value.int IntKind.i64 y5),D.val (Value.int IntKind.i64 y6),D.val (Value.int IntKind.i64 y7),D.val (Value.int IntKind.i64 y8),D.sl 1 y9,D.val (Value.int IntKind.i64 1),D.sl 1 []]])]) ∧
 1 ≤ 1 ∧
 n ≤ A.length ∧
 (n + 1) * 88 ≤ 140737488355328 ∧
 K (V.tup []) [KO.cells [V.int IntKind.i64 me,V.any a1,V.any a2,V.any a3,V.any a4,V.any a5,V.arr 128 (dns IntKind.u8 y15),V.any a7,V.any a8,V.any a9,V.any a10,V.dat (D.sl 1 M),V.dat (D.sl 1 J),V.any a13,V.any a14,V.mp 1,V.ipo none,V.any a17,V.any a18,V.any a19,V.any a20,V.sl 3 0 (n + 1)],KO.mp [IntKind.i64] false false 1 Q,KO.dead,KO.row 46 7 (List.take n A ++ [[D.val (Value.int IntKind.i64 y5),D.val (Value.int IntKind.i64 y6),D.val (Value.int IntKind.i64 y7),D.val (Value.int IntKind.i64 y8),D.sl 1 y9,D.val (Value.int IntKind.i64 1),D.sl 1 []]])])) ∧
 ((y11 == 3) = false →
 (1 ≤ 1 ∧
 n ≤ A.length ∧
 (n + 1) * 88 ≤ 140737488355328 ∧
 K (V.tup []) [z2_,KO.mp [IntKind.i64] false false 1 Q,KO.dead,KO.row 46 7 (List.take n A ++ [[D.val (Value.int IntKind.i64 y5),D.val (Value.int IntKind.i64 y6),D.val (Value.int IntKind.i64 y7),D.val (Value.int IntKind.i64 y8),D.sl 1 y9,D.val (Value.int IntKind.i64 0),D.sl 1 []]])]) ∧
 1 ≤ 1 ∧
 n ≤ A.length ∧
 (n + 1) * 88 ≤ 140737488355328 ∧
 K (V.tup []) [z2_,KO.mp [IntKind.i64] false false 1 Q,KO.dead,KO.row 46 7 (List.take n A ++ [[D.val (Value.int IntKind.i64 y5),D.val (Value.int IntKind.i64 y6),D.val (Value.int IntKind.i64 y7),D.val (Value.int IntKind.i64 y8),D.sl 1 y9,D.val (Value.int IntKind.i64 0),D.sl 1 []]])])))
 ) : runSpec Try.prog XFi (noT 33) 33 [.ptr 0 0] [.cells [.int .i64 me,.any a1,.any a2,.any a3,.any a4,.any a5,.arr 128 C,.any a7,.any a8,.any a9,.any a10,.dat (.sl 1 M),.dat (.sl 1 J),.any a13,.any a14,.mp 1,.ipo o,.any a17,.any a18,.any a19,.any a20,.sl 2 0 n],.mp [.i64] false false 1 (Q),.row 46 7 (A)] (nilRes [.ipoC 0 143] (tidyRes 3 K)):=by apply Eq.mp (a:=hvc_); kernel_rfl
theorem vcDo1 (a0 a1 a2 a3 a4 a8 a9 a10 a11 a12 a13 a14 a15 a16 a17 a19 a20 a21 : Value) (C : List D) (nu : Int) (ch : Bool) (T : ML) (cl nm kd bk : Int) (B : List (List D)) (K : V→KB→Prop) (hvc_ :
 let z1_:=[0,1,2,3,4,5,8,9,10,11,12,13,14,15,16,17,18,19,20,21]; let z2_:=V.imp [IntKind.i64] false true 2 (mset T [cl] [dn IntKind.i64 nm,D.val (Value.int IntKind.i64 0)]); let z3_:=[0,1,2,3,4,5,7,8,9,10,11,12,13,14,15,16,17,18,19,20,21]; ((kd == 1) = true →
 ∀ (y1 : Nat →
 Value),∃ (y2 : List Int),∃ (y3 : List Int),C = dns IntKind.u8 y2 ∧
 B = ints IntKind.u8 y3 ∧
 y2.length = 128 ∧
 (okI bk ∧
 y3.length = 16 →
 SmF y1 z3_ ∧
 ∀ (y4 : Nat →
 Value),∃ (y5 : List L3),Tab T y5 ∧
 (NeZ (putE y5 cl nm 0) →
 SmF y4 z1_ ∧
 K (V.tup []) [KO.cells [V.any a0,V.any a1,V.any a2,V.any a3,V.any a4,V.int IntKind.i64 (IntKind.i64.wrap (nu + 1)),V.arr 128 (dns IntKind.u8 (splice y2 (bk.toNat * 16) y3)),V.imp [IntKind.i64] false true 2 T,V.any a8,V.any a9,V.any a10,V.any a11,V.any a12,V.any a13,V.any a14,V.any a15,V.any a16,V.any a17,V.sb true,V.any a19,V.any a20,V.any a21]]) ∧
 (EqZ (putE y5 cl nm 0) →
 SmF y4 z1_ ∧
 K (V.tup []) [KO.cells [V.any a0,V.any a1,V.any a2,V.any a3,V.any a4,V.int IntKind.i64 (IntKind.i64.wrap (nu + 1)),V.arr 128 (dns IntKind.u8 (splice y2 (bk.toNat * 16) y3)),z2_,V.any a8,V.any a9,V.any a10,V.any a11,V.any a12,V.any a13,V.any a14,V.any a15,V.any a16,V.any a17,V.sb true,V.any a19,V.any a20,V.any a21]])) ∧
 ((okI bk ∧
 y3.length = 16 →
 False) →
 SmF y1 z3_ ∧
 ∀ (y6 : Nat →
 Value),∃ (y7 : List L3),Tab T y7 ∧
 (NeZ (putE y7 cl nm 0) →
 SmF y6 z1_ ∧
 K (V.tup []) [KO.cells [V.any a0,V.any a1,V.any a2,V.any a3,V.any a4,V.int IntKind.i64 (IntKind.i64.wrap (nu + 1)),V.arr 128 (dns IntKind.u8 y2),V.imp [IntKind.i64] false true 2 T,V.any a8,V.any a9,V.any a10,V.any a11,V.any a12,V.any a13,V.any a14,V.any a15,V.any a16,V.any a17,V.sb true,V.any a19,V.any a20,V.any a21]]) ∧
 (EqZ (putE y7 cl nm 0) →
 SmF y6 z1_ ∧
 K (V.tup []) [KO.cells [V.any a0,V.any a1,V.any a2,V.any a3,V.any a4,V.int IntKind.i64 (IntKind.i64.wrap (nu + 1)),V.arr 128 (dns IntKind.u8 y2),z2_,V.any a8,V.any a9,V.any a10,V.any a11,V.any a12,V.any a13,V.any a14,V.any a15,V.any a16,V.any a17,V.sb true,V.any a19,V.any a20,V.any a21]]))) ∧
 ((kd == 1) = false →
 ((kd == 2) = true →
 ∀ (y8 : Nat →
 Value),∃ (y9 : List Int),C = dns IntKind.u8 y9 ∧
 y9.length = 128 ∧
 (okI bk →
 SmF y8 z3_ ∧
 ∀ (y10 : Nat →
 Value),∃ (y11 : List L3),Tab T y11 ∧
 (NeZ (putE y11 cl nm 0) →
 SmF y10 z1_ ∧
 K (V.tup []) [KO.cells [V.any a0,V.any a1,V.any a2,V.any a3,V.any a4,V.int IntKind.i64 (IntKind.i64.wrap (nu + 1)),V.arr 128 (dns IntKind.u8 (splice y9 (bk.toNat * 16) [0,0,0,0,0,0,0,0,0,0,0,0,0,0,0,0])),V.imp [IntKind.i64] false true 2 T,V.any a8,V.any a9,V.any a10,V.any a11,V.any a12,V.any a13,V.any a14,V.any a15,V.any a16,V.any a17,V.sb true,V.any a19,V.any a20,V.any a21]]) ∧
 (EqZ (putE y11 cl nm 0) →
 SmF y10 z1_ ∧
 K (V.tup []) [KO.cells [V.any a0,V.any a1,V.any a2,V.any a3,V.any a4,V.int IntKind.i64 (IntKind.i64.wrap (nu + 1)),V.arr 128 (dns IntKind.u8 (splice y9 (bk.toNat * 16) [0,0,0,0,0,0,0,0,0,0,0,0,0,0,0,0])),z2_,V.any a8,V.any a9,V.any a10,V.any a11,V.any a12,V.any a13,V.any a14,V.any a15,V.any a16,V.any a17,V.sb true,V.any a19,V.any a20,V.any a21]])) ∧
 ((okI bk →
 False) →
 SmF y8 z3_ ∧
 ∀ (y12 : Nat →
 Value),∃ (y13 : List L3),Tab T y13 ∧
 (NeZ (putE y13 cl nm 0) →
 SmF y12 z1_ ∧
 K (V.tup []) [KO.cells [V.any a0,V.any a1,V.any a2,V.any a3,V.any a4,V.int IntKind.i64 (IntKind.i64.wrap (nu + 1)),V.arr 128 (dns IntKind.u8 y9),V.imp [IntKind.i64] false true 2 T,V.any a8,V.any a9,V.any a10,V.any a11,V.any a12,V.any a13,V.any a14,V.any a15,V.any a16,V.any a17,V.sb true,V.any a19,V.any a20,V.any a21]]) ∧
 (EqZ (putE y13 cl nm 0) →
 SmF y12 z1_ ∧
 K (V.tup []) [KO.cells [V.any a0,V.any a1,V.any a2,V.any a3,V.any a4,V.int IntKind.i64 (IntKind.i64.wrap (nu + 1)),V.arr 128 (dns IntKind.u8 y9),z2_,V.any a8,V.any a9,V.any a10,V.any a11,V.any a12,V.any a13,V.any a14,V.any a15,V.any a16,V.any a17,V.sb true,V.any a19,V.any a20,V.any a21]]))) ∧
 ((kd == 2) = false →
 K (V.tup []) [KO.cells [V.any a0,V.any a1,V.any a2,V.any a3,V.any a4,V.int IntKind.i64 (IntKind.i64.wrap (nu + 1)),V.arr 128 C,V.imp [IntKind.i64] false true 2 T,V.any a8,V.any a9,V.any a10,V.any a11,V.any a12,V.any a13,V.any a14,V.any a15,V.any a16,V.any a17,V.sb true,V.any a19,V.any a20,V.any a21]]))
 ) : runSpec Try.prog XDo (noT 31) 31 [.ptr 0 0,.agg [.int .i64 cl,.int .i64 nm,.int .i64 kd,.int .i64 bk,.dat (.sl 1 B)]] [.cells [.any a0,.any a1,.any a2,.any a3,.any a4,.int .i64 nu,.arr 128 C,.imp [.i64] false true 2 T,.any a8,.any a9,.any a10,.any a11,.any a12,.any a13,.any a14,.any a15,.any a16,.any a17,.sb ch,.any a19,.any a20,.any a21]] (tidyRes 1 K):=by apply Eq.mp (a:=hvc_); kernel_rfl
theorem vcKnown1 (a0 a1 a2 a3 a4 a5 a8 a9 a10 a11 a12 a13 a14 a15 a16 a17 a18 a19 a20 : Value) (C : List D) (T : ML) (cl nm kd bk : Int) (B : List (List D)) (n : Nat) (A : List (List D)) (K : V→KB→Prop) (hvc_ :
 let z1_ : KB:=[KO.cells [V.any a0,V.any a1,V.any a2,V.any a3,V.any a4,V.any a5,V.arr 128 C,V.imp [IntKind.i64] false true 2 T,V.any a8,V.any a9,V.any a10,V.any a11,V.any a12,V.any a13,V.any a14,V.any a15,V.any a16,V.any a17,V.any a18,V.any a19,V.any a20,V.sl 1 0 n],KO.row 46 7 A]; let z2_:=KO.cells [V.any a0,V.any a1,V.any a2,V.any a3,V.any a4,V.any a5,V.arr 128 C,V.imp [IntKind.i64] false true 2 T,V.any a8,V.any a9,V.any a10,V.any a11,V.any a12,V.any a13,V.any a14,V.any a15,V.any a16,V.any a17,V.any a18,V.any a19,V.any a20,V.sl 2 0 (n + 1)]; ∀ (y1 : Nat →
 Value),∃ (y2 : List L3),Tab T y2 ∧
 SmF y1 [0,1,2,3,4,5,8,9,10,11,12,13,14,15,16,17,18,19,20,21] ∧
 ((chkK y2 cl nm == 1) = true →
 (1 ≤ 1 ∧
 n ≤ A.length ∧
 (n + 1) * 88 ≤ 140737488355328 ∧
 K (V.tup [V.int IntKind.i64 0,V.sb true]) [z2_,KO.dead,KO.row 46 7 (List.take n A ++ [[D.val (Value.int IntKind.i64 cl),D.val (Value.int IntKind.i64 nm),D.val (Value.int IntKind.i64 kd),D.val (Value.int IntKind.i64 bk),D.sl 1 B,D.val (Value.int IntKind.i64 (chkE y2 cl nm)),D.sl 1 []]])]) ∧
 1 ≤ 1 ∧
 n ≤ A.length ∧
 (n + 1) * 88 ≤ 140737488355328 ∧
 K (V.tup [V.int IntKind.i64 0,V.sb true]) [z2_,KO.dead,KO.row 46 7 (List.take n A ++ [[D.val (Value.int IntKind.i64 cl),D.val (Value.int IntKind.i64 nm),D.val (Value.int IntKind.i64 kd),D.val (Value.int IntKind.i64 bk),D.sl 1 B,D.val (Value.int IntKind.i64 (chkE y2 cl nm)),D.sl 1 []]])]) ∧
 ((chkK y2 cl nm == 1) = false →
 ((chkK y2 cl nm == 2) = true →
 K (V.tup [V.int IntKind.i64 13,V.sb true]) z1_) ∧
 ((chkK y2 cl nm == 2) = false →
 ∃ (y3 : List L3),Tab T y3 ∧
 (NeZ (putE y3 cl nm 0) →
 ((putE y3 cl nm 0 != 0) = true →
 K (V.tup [V.int IntKind.i64 (putE y3 cl nm 0),V.sb true]) z1_) ∧
 ((putE y3 cl nm 0 != 0) = false →
 K (V.tup [V.int IntKind.i64 0,V.sb false]) z1_)) ∧
 (EqZ (putE y3 cl nm 0) →
 (false = true →
 K (V.tup [V.int IntKind.i64 0,V.sb true]) z1_) ∧
 (false = false →
 K (V.tup [V.int IntKind.i64 0,V.sb false]) z1_))))
 ) : runSpec Try.prog XKn (noT 29) 29 [.ptr 0 0,.agg [.int .i64 cl,.int .i64 nm,.int .i64 kd,.int .i64 bk,.dat (.sl 1 B)]] [.cells [.any a0,.any a1,.any a2,.any a3,.any a4,.any a5,.arr 128 C,.imp [.i64] false true 2 T,.any a8,.any a9,.any a10,.any a11,.any a12,.any a13,.any a14,.any a15,.any a16,.any a17,.any a18,.any a19,.any a20,.sl 1 0 n],.row 46 7 (A)] (tidyRes 2 K):=by apply Eq.mp (a:=hvc_); kernel_rfl
theorem oth_take (me : Int) (m j : List Int) : (othZ me m j).take (othA me m j).length = othA me m j:=by
  unfold othZ othA kpZ; exact List.take_left
theorem othZ_len (me : Int) (m j : List Int) : (othZ me m j).length = m.length + j.length:=by
  unfold othZ kpZ
  have:=kpA_len me (m ++ j)
  rw [List.length_append,List.length_replicate,← List.length_append]; omega
theorem othA_len (me : Int) (m j : List Int) : (othA me m j).length ≤ m.length + j.length:=by
  have:=kpA_len me (m ++ j)
  rw [List.length_append] at this; exact this
theorem alS_ok : AllOk Try.prog alS:=fun f k h => by
  unfold alS at h
  split at h
  · cases h; exact hideIn_ok okOthers _
  · cases h; exact okContF
  · cases h
theorem XAl_ok : CallOk Try.prog XAl:=callS_ok mixed alS_ok noT 10
theorem okAll2 : SpecOk Try.prog 25 Sall2:=specOk_tidy XAl_ok mixed (fun args kb K h => by
  unfold Sall2 at h; split at h <;> try exact h.elim
  obtain ⟨m,j,rfl,rfl,h5,hB,h⟩:=h
  refine ⟨_,vcAll2 _ _ _ _ _ _ _ _ _ _ _ _ _ _ _ _ _ _ _ _ _ _ _ K fun f => ⟨m,j,rfl,rfl,h5,⟨by simp [SameL]⟩,othZ _ m j,rfl,?_,⟨?_⟩,hB,?_⟩⟩
  · rw [othZ_len]; exact othA_len _ _ _
  · rw [othZ_len]; exact h5.h
  · rw [oth_take]; exact h)
theorem ldS_ok : AllOk Try.prog ldS:=fun f k h => by
  unfold ldS at h
  split at h
  · cases h; exact hideIn_ok okAll2 _
  · cases h
theorem XLd_ok : CallOk Try.prog XLd:=callS_ok mixed ldS_ok noT 10
theorem okLeads : SpecOk Try.prog 9 Sleads:=specOk_tidy XLd_ok mixed (fun args kb K h => by
  unfold Sleads at h; split at h <;> try exact h.elim
  · obtain ⟨rfl,h⟩:=h
    exact ⟨_,vcLeads0 _ _ _ _ _ _ _ _ _ _ _ _ _ _ _ _ _ _ _ _ _ _ K ⟨fun e => (by cases e),fun _ => ⟨h,h⟩⟩⟩
  · obtain ⟨m,j,rfl,rfl,h5,hB,rfl,h⟩:=h
    have k : ∀ f : Nat→Value,SmF f [1,2,3,4,5,7,8,9,10,13,14,15,16,17,18,19,20,21]:=fun f => ⟨by simp [SameL]⟩
    exact ⟨_,vcLeads1 _ _ _ _ _ _ _ _ _ _ _ _ _ _ _ _ _ _ _ _ _ _ K ⟨fun _ => ⟨fun f => ⟨m,j,rfl,rfl,h5,hB,k f,rfl,h⟩,fun f => ⟨m,j,rfl,rfl,h5,hB,k f,rfl,h⟩⟩,fun f => by cases f⟩⟩)
theorem okIsRight : SpecOk Try.prog 27 SisRight:=specOk_tidy X0_ok mixed (fun args kb K h => by
  unfold SisRight at h; split at h <;> try exact h.elim
  rename_i cl nm kd bk B
  refine ⟨_,vcIsRight _ _ _ _ _ K ?_⟩
  have key : ∀ {b : Bool},b = rightO cl nm kd bk B.length→K (.sb b) []:=fun e => by rw [e]; exact h
  refine ⟨fun e1 => ⟨fun e2 => ⟨fun e3 => ⟨fun e4 => ⟨fun e5 => ⟨fun e6 => ⟨fun e7 => ⟨fun e8 => ⟨fun e9 => ?_,fun e9 => ?_⟩,fun e8 => ?_⟩,fun e7 => ?_⟩,fun e6 => ?_⟩,fun e5 => ?_⟩,fun e4 => ?_⟩,fun e3 => ?_⟩,fun e2 => ?_⟩,fun e1 => ?_⟩ <;> refine key ?_ <;> unfold rightO
  · simp only [decide_eq_true_eq,bne_iff_ne,ne_eq] at *
    exact (decide_eq_true ⟨e1,e2,e3,e4,e5,e6,e7,e8,fun h => absurd h e9⟩).symm
  · simp only [decide_eq_true_eq,bne_eq_false_iff_eq] at *
    rw [Bool.eq_iff_iff]
    simp only [beq_iff_eq,decide_eq_true_eq]
    omega
  all_goals
    simp only [decide_eq_true_eq,decide_eq_false_iff_not] at *
    refine (decide_eq_false ?_).symm
    omega)
theorem okIsChange : SpecOk Try.prog 28 SisChange:=specOk_tidy X0_ok mixed (fun args kb K h => by
  unfold SisChange at h; split at h <;> try exact h.elim
  rename_i cl nm kd bk B
  refine ⟨_,vcIsChange _ _ _ _ _ K ?_⟩
  have key : ∀ {b : Bool},b = isChg kd→K (.sb b) []:=fun e => by rw [e]; exact h
  refine ⟨fun e => key ?_,fun e => key ?_⟩ <;> unfold isChg
  · simp only [beq_iff_eq] at e
    exact (decide_eq_true (.inl e)).symm
  · simp only [beq_eq_false_iff_ne,ne_eq] at e
    rw [Bool.eq_iff_iff]
    simp only [beq_iff_eq,decide_eq_true_eq]
    omega)
theorem fiS_ok : AllOk Try.prog fiS:=fun f k h => by
  unfold fiS at h
  split at h
  · cases h; exact hideIn_ok okAll2 _
  · cases h; exact hideIn_ok okBRead _
  · cases h
theorem XFi_ok : CallOk Try.prog XFi:=callS_ok mixed fiS_ok noT 10
theorem takeA {A : List (List D)} {n : Nat} (h : n = A.length) : List.take n A = A:=by subst h; exact List.take_length
theorem okFinish : SpecOk Try.prog 33 Sfinish:=specOk_nt XFi_ok mixed [.ipoC 0 143] (fun args kb K h => by
  unfold Sfinish at h; split at h <;> try exact h.elim
  rename_i me _ _ _ _ _ C _ _ _ _ M J _ _ _ _ _ _ _ n Q A
  obtain ⟨hn,⟨hn2⟩,m,j,c,p,⟨rfl,hl,hb⟩,rfl,rfl,h5,hB,rfl,hbk,h0,h1⟩:=h
  refine ⟨_,vcFinish _ _ _ _ _ _ _ _ _ _ _ _ _ _ _ _ _ _ _ _ _ _ _ K ⟨fun f => (by cases f),fun _ f => ⟨m,j,rfl,rfl,h5,hB,⟨by simp [SameL]⟩,fun e => h0 (by simpa [allI] using e),fun e => ?_⟩⟩⟩
  have e : allI me m j Q = true:=by simpa [allI] using e
  have h1:=h1 e
  have hlen : (List.take 16 (List.drop (p.bk.toNat * 16) c)).length = 16:=by
    have:=hbk.1; have:=hbk.2
    rw [List.length_take,List.length_drop,hl]; omega
  refine ⟨opD p,rfl,p.cl,rfl,p.nm,rfl,p.kd,rfl,p.bk,rfl,ints .u8 p.b,rfl,opD p,rfl,p.kd,rfl,fun e3 => ⟨opD p,rfl,p.bk,rfl,fun f => ⟨c,rfl,hl,fun _ => ⟨⟨by simp [SameL]⟩,?_⟩,fun ho => (ho hbk).elim⟩⟩,fun e3 => ?_⟩
  · have : finX c p.kd p.bk = ints .u8 ((c.drop (p.bk.toNat * 16)).take 16):=by unfold finX; rw [if_pos (by simpa using e3)]
    rw [this] at h1
    rw [takeD hlen.symm,takeA hn,ints_len,hlen]
    exact ⟨⟨Nat.le_refl _,Nat.le_refl _,Nat.le_of_eq hn,by omega,h1⟩,Nat.le_refl _,Nat.le_refl _,Nat.le_of_eq hn,by omega,h1⟩
  · have : finX c p.kd p.bk = []:=by unfold finX; rw [if_neg (by simpa using e3)]
    rw [this] at h1
    rw [takeA hn]
    exact ⟨⟨Nat.le_refl _,Nat.le_of_eq hn,by omega,h1⟩,Nat.le_refl _,Nat.le_of_eq hn,by omega,h1⟩)
theorem doS_ok : AllOk Try.prog doS:=fun f k h => by
  unfold doS at h
  split at h
  · cases h; exact hideIn_ok okWrite _
  · cases h; exact hideIn_ok okTrim _
  · cases h; exact hideIn_ok okPutR _
  · cases h
theorem XDo_ok : CallOk Try.prog XDo:=callS_ok mixed doS_ok noT 10
theorem rt_okI {cl nm kd bk : Int} {b : Nat} (h : RtO cl nm kd bk b) : okI bk:=by
  have:=h.h
  simp only [rightO,decide_eq_true_eq] at this
  exact ⟨by omega,by omega⟩
theorem rt_len {cl nm bk : Int} {b : Nat} (h : RtO cl nm 1 bk b) : b = 16:=by
  have:=h.h
  simp only [rightO,decide_eq_true_eq] at this
  exact this.2.2.2.2.2.2.2.2 trivial
theorem doC1 {c b : List Int} {bk : Int} : doC c 1 bk b = splice c (bk.toNat * 16) b:=by simp [doC]
theorem doC2 {c b : List Int} {bk : Int} : doC c 2 bk b = splice c (bk.toNat * 16) (List.replicate 16 0):=by simp [doC]
theorem doCn {c b : List Int} {kd bk : Int} (h1 : ¬ kd = 1) (h2 : ¬ kd = 2) : doC c kd bk b = c:=by simp [doC,h1,h2]
theorem okDo : SpecOk Try.prog 31 Sdo:=specOk_tidy XDo_ok mixed (fun args kb K h => by
  unfold Sdo at h; split at h <;> try exact h.elim
  · rename_i cl nm kd bk B _ _ _ _ _ nu C T _ _ _ _ _ _ _ _ _ _ ch _ _ _
    obtain ⟨c,b,x,⟨rfl,hl,hb⟩,rfl,hT,hnu,hR,hn,hc⟩:=h
    have ew : IntKind.i64.wrap (nu + 1) = nu + 1:=w64 (by have:=hnu.lo; omega) (by have:=hnu.hi; omega)
    have hok:=rt_okI hR
    refine ⟨_,vcDo1 _ _ _ _ _ _ _ _ _ _ _ _ _ _ _ _ _ _ _ _ _ _ _ _ _ _ _ K ?_⟩
    rw [ew]
    refine ⟨fun e => ?_,fun e => ⟨fun e2 => ?_,fun e2 => ?_⟩⟩
    · have e : kd = 1:=by simpa using e
      subst e
      obtain ⟨h1,h2⟩:=hc ⟨rfl⟩
      rw [doC1] at h1 h2
      refine fun f => ⟨c,b,rfl,rfl,hl,fun _ => ⟨⟨by simp [SameL]⟩,fun f => ⟨x,hT,fun e => ⟨⟨by simp [SameL]⟩,h1 e⟩,fun e => ⟨⟨by simp [SameL]⟩,h2 e⟩⟩⟩,fun hno => (hno ⟨hok,rt_len hR⟩).elim⟩
    · have e : kd = 2:=by simpa using e2
      subst e
      obtain ⟨h1,h2⟩:=hc ⟨rfl⟩
      rw [doC2] at h1 h2
      refine fun f => ⟨c,rfl,hl,fun _ => ⟨⟨by simp [SameL]⟩,fun f => ⟨x,hT,fun e => ⟨⟨by simp [SameL]⟩,h1 e⟩,fun e => ⟨⟨by simp [SameL]⟩,h2 e⟩⟩⟩,fun hno => (hno hok).elim⟩
    · have e1 : ¬ kd = 1:=by simpa using e
      have e2 : ¬ kd = 2:=by simpa using e2
      have:=hn ⟨by simp [isChg,e1,e2]⟩
      rw [doCn e1 e2] at this
      exact this)
theorem knS_ok : AllOk Try.prog knS:=fun f k h => by
  unfold knS at h
  split at h
  · cases h; exact hideIn_ok okCheckTR _
  · cases h; exact okPut
  · cases h
theorem XKn_ok : CallOk Try.prog XKn:=callS_ok mixed knS_ok noT 10
theorem chkK_cases (x : List L3) (c n : Int) : chkK x c n = 0∨chkK x c n = 1∨chkK x c n = 2:=by
  unfold chkK
  split
  · exact .inl rfl
  · split
    · exact .inl rfl
    · split
      · exact .inr (.inl rfl)
      · exact .inr (.inr rfl)
theorem okKnown : SpecOk Try.prog 29 Sknown:=specOk_tidy XKn_ok mixed (fun args kb K h => by
  unfold Sknown at h; split at h <;> try exact h.elim
  · rename_i cl nm kd bk B _ _ _ _ _ _ C T _ _ _ _ _ _ _ _ _ _ _ _ _ n A
    obtain ⟨hn,⟨hn2⟩,x,hT,h1,h2,h0⟩:=h
    refine ⟨_,vcKnown1 _ _ _ _ _ _ _ _ _ _ _ _ _ _ _ _ _ _ _ _ _ _ _ _ _ _ _ _ K fun f => ⟨x,hT,⟨by simp [SameL]⟩,fun e => ?_,fun e => ⟨fun e2 => ?_,fun e2 => ?_⟩⟩⟩
    · have h1:=h1 ⟨by simpa using e⟩
      rw [takeA hn]
      exact ⟨⟨Nat.le_refl _,Nat.le_of_eq hn,by omega,h1⟩,Nat.le_refl _,Nat.le_of_eq hn,by omega,h1⟩
    · exact h2 ⟨by simpa using e2⟩
    · have e : ¬ chkK x cl nm = 1:=by simpa using e
      have e2 : ¬ chkK x cl nm = 2:=by simpa using e2
      obtain ⟨h3,h4⟩:=h0 ⟨by have:=chkK_cases x cl nm; omega⟩
      exact ⟨x,hT,fun hz => ⟨fun _ => h3 hz,fun he => (hz.h (by simpa using he)).elim⟩,fun hz => ⟨fun f => (by cases f),fun _ => h4 hz⟩⟩)
end Go.Proofs.Ytfcjngcnifdmnaa
set_option linter.unusedSimpArgs false
set_option linter.unusedVariables false
namespace Vc
open Go
abbrev pv (b : Nat) : Value:=.pointer (some ⟨b,0,none⟩)
def IsV : V→Value→Prop
  | .any v,p => v = p
  | .dat d,p => d = .val p
  | _,_ => False
theorem IsV.den {v : V} {p : Value} (h : IsV v p) {σ : Sg} {E : EH} {x : Value} (hd : Den σ E v x) : x = p:=by
  cases v <;> simp only [IsV] at h
  · subst h; simpa only [Den] using hd
  · subst h; simp only [Den,RepD] at hd; exact hd.1
theorem ren_none {σ σ' : Sg} {E : EH} {v v' : V} (h : V.ren (fun _ => none) v = some v') {x : Value} (hd : Den σ E v x) : Den σ' E v' x :=
  Den.ren (fun i j r hi => by cases hi) h hd
theorem rens_none {σ σ' : Sg} {E : EH} {vs vs' : List V} (h : V.rens (fun _ => none) vs = some vs') {xs : List Value} (hd : DenL σ E vs xs) : DenL σ' E vs' xs :=
  DenL.ren (fun i j r hi => by cases hi) h hd
theorem sel_root {σ : Sg} {o : List Nat} (ho : o.take 1 = List.range 1) {b : Nat} (h : rootIs σ b) : rootIs (selSg σ o) b:=by
  obtain ⟨r,h1,h2⟩:=h
  cases o with
  | nil => simp at ho
  | cons i o =>
    simp [List.range_succ] at ho
    subst ho
    exact ⟨r,by simp [selSg,h1],h2⟩
theorem pool_set {q : Re} {E E' : EH} {W W' : World} {A : List (Sg × KB)} (hi : Inv [q] E [.objs A] W) {k : Nat} {a : Sg × KB} (hk : A[k]? = some a) {σ' : Sg} {kb2 : KB} (hst : Step a.1 E a.2 W σ' E' kb2 W')
    {a' : Sg × KB} (ha : ObjOk E' W' a') (hown : ∀ b,OwnsB a' b→Owns σ' kb2 b) : Step [q] E [.objs A] W [q] E' [.objs (A.set k a')] W':=by
  have hp : PoolOk E W A:=hi.obj 0 q _ rfl rfl
  have hka:=(List.getElem?_eq_some_iff.1 hk).1
  have hmem : a ∈ A:=List.mem_of_getElem? hk
  have hin : ∀ {b : Nat} {c : Sg × KB},c ∈ A→OwnsB c b→Owns [q] [.objs A] b:=fun {b c} hc hb => ⟨0,q,_,rfl,rfl,c,hc,hb⟩
  have hoth : ∀ (m : Nat) (c : Sg × KB) (b : Nat),m ≠ k→A[m]? = some c→OwnsB c b→¬ Owns a.1 a.2 b:=fun m c b hm hc hb ho =>
    hp.disj m k c a b hm hc hk hb ((hp.ok a hmem).owns ho)
  have hkeep : ∀ (m : Nat) (c : Sg × KB) (b : Nat),m ≠ k→A[m]? = some c→OwnsB c b→W'.heap[b]? = W.heap[b]?:=fun m c b hm hc hb =>
    hst.stp.block b ((hp.ok c (List.mem_of_getElem? hc)).lt hb) (hoth m c b hm hc hb)
  have hcase : ∀ (m : Nat) (c : Sg × KB),(A.set k a')[m]? = some c→(m = k∧c = a')∨(m ≠ k∧A[m]? = some c):=fun m c h => by
    by_cases e : k = m
    · subst e
      rw [List.getElem?_set_self hka] at h
      exact .inl ⟨rfl,(Option.some.inj h).symm⟩
    · rw [List.getElem?_set_ne e] at h
      exact .inr ⟨fun x => e x.symm,h⟩
  have hnew : ∀ b,OwnsB a' b→Owns a.1 a.2 b∨W.heap.size ≤ b:=fun b hb => hst.own b (hown b hb)
  have hpool : PoolOk E' W' (A.set k a'):=by
    refine ⟨fun c hc => ?_,fun m n c d b hmn hc hd h1 h2 => ?_⟩
    · obtain ⟨m,hm⟩:=List.getElem?_of_mem hc
      rcases hcase m c hm with ⟨rfl,rfl⟩ | ⟨e,h⟩
      · exact ha
      · exact (hp.ok c (List.mem_of_getElem? h)).mono hst.le (fun b hb => hkeep m c b e h hb)
    · rcases hcase m c hc with ⟨rfl,rfl⟩ | ⟨e,h⟩ <;> rcases hcase n d hd with ⟨rfl,rfl⟩ | ⟨e',h'⟩
      · exact hmn rfl
      · rcases hnew b h1 with k1 | k1
        · exact hoth n d b e' h' h2 k1
        · have:=(hp.ok d (List.mem_of_getElem? h')).lt h2; omega
      · rcases hnew b h2 with k1 | k1
        · exact hoth m c b e h h1 k1
        · have:=(hp.ok c (List.mem_of_getElem? h)).lt h1; omega
      · exact hp.disj m n c d b hmn h h' h1 h2
  have hownA : ∀ b,Owns [q] [.objs (A.set k a')] b→Owns [q] [.objs A] b∨W.heap.size ≤ b:=by
    rintro b ⟨i,r,o,h1,h2,h3⟩
    have : i = 0:=by
      rcases i with _ | i
      · rfl
      · simp at h1
    subst this
    simp at h1 h2; subst h1; subst h2
    obtain ⟨c,hc,hb⟩:=h3
    obtain ⟨m,hm⟩:=List.getElem?_of_mem hc
    rcases hcase m c hm with ⟨rfl,rfl⟩ | ⟨e,h⟩
    · rcases hnew b hb with k1 | k1
      · exact .inl (hin hmem ((hp.ok a hmem).owns k1))
      · exact .inr k1
    · exact .inl (hin (List.mem_of_getElem? h) hb)
  refine ⟨⟨rfl,fun i r o h1 h2 => ?_,fun i j r r' o o' b hij h1 h2 h3 h4 _ _ => ?_,hst.inv.imm,fun b hb => ?_⟩,⟨hst.stp.os,hst.stp.tape,hst.stp.output,hst.stp.size,fun b hb hn => hst.stp.block b hb (fun ho => hn (hin hmem ((hp.ok a hmem).owns ho)))⟩,⟨[],by simp⟩,hst.le,hownA,fun b o hb => ?_⟩
  · have : i = 0:=by
      rcases i with _ | i
      · rfl
      · simp at h1
    subst this
    simp at h1 h2; subst h1; subst h2
    exact hpool
  · have e1 : i = 0:=by
      rcases i with _ | i
      · rfl
      · simp at h1
    have e2 : j = 0:=by
      rcases j with _ | j
      · rfl
      · simp at h3
    omega
  · obtain ⟨i,r,o,h1,h2,h3⟩:=hb
    have : i = 0:=by
      rcases i with _ | i
      · rfl
      · simp at h1
    subst this
    simp at h1 h2; subst h1; subst h2
    obtain ⟨c,hc,hcb⟩:=h3
    obtain ⟨m,hm⟩:=List.getElem?_of_mem hc
    rcases hcase m c hm with ⟨rfl,rfl⟩ | ⟨e,h⟩
    · exact hst.inv.sep b (hown b hcb)
    · cases hE : E' b with
      | none => rfl
      | some x =>
        rcases hst.new b x hE with k1 | k1 | k1
        · rw [hi.sep b (hin (List.mem_of_getElem? h) hcb)] at k1; cases k1
        · exact (hoth m c b e h hcb k1).elim
        · have:=(hp.ok c (List.mem_of_getElem? h)).lt hcb; omega
  · rcases hst.new b o hb with k1 | k1 | k1
    · exact .inl k1
    · exact .inr (.inl (hin hmem ((hp.ok a hmem).owns k1)))
    · exact .inr (.inr k1)
def rootRes (K : V→KB→Prop) : V→KB→Prop:=fun r kb => match canonP false 1 [] kb,V.ren (fun _ => none) r with
  | some (_,kb3,_),some r' => match flatB kb3 with | true => K r' kb3 | false => False
  | _,_ => False
theorem methOk_of {P : Program} {f : FuncId} {S S0 : FSpec} (hS : SpecOk P f S0) (h : ∀ args kb K,S args kb K→S0 args kb (rootRes K)) : MethOk P f S:=fun args kb K hs σ E W xs hi hd => by
  refine (hS _ _ _ (h args kb K hs) σ E W xs hi hd).mono ?_
  rintro e W' ⟨v,r,σ',E',kb2,rfl,hst,hden,hK⟩
  unfold rootRes at hK
  split at hK <;> try exact hK.elim
  rename_i vs' kb3 o r' hc hr'
  split at hK <;> try exact hK.elim
  rename_i hflat
  obtain ⟨hn,ht,_,hsel⟩:=canonP_ok hc
  obtain ⟨k1,k2,k3⟩:=hst.inv.sel hn hsel
  refine ⟨v,r',σ',E',kb2,_,kb3,rfl,hst,k1,hflat,k2,fun b hb => ?_,fun τ => ren_none hr' hden,hK⟩
  obtain ⟨τ,rfl⟩:=hst.pre
  obtain ⟨r,hr,hrb⟩:=hb
  exact sel_root ht ⟨r,sg_ext hr,hrb⟩
theorem methOk_run1 {P : Program} (hm : P.follows .mixedOrders = true) {f : FuncId} {S : FSpec} (h : ∀ args kb K,S args kb K→∃ (X : CallT) (T : Nat→Option LI),CallOk P X∧runSpec P X T f args kb (rootRes K)) : MethOk P f S :=
  methOk_of (specOk_of'' hm (S:=fun a k K0 => ∃ X T,CallOk P X∧runSpec P X T f a k K0) fun _ _ _ h => h) h
def falseAt (l : List V) (k : Nat) : Bool:=match l[k]? with
  | some (.sb b) => match b with | true => false | false => true
  | some .ff => true
  | _ => false
def hideF (k : Nat) (ms : List Bool) (kb : KB) (K : KB→Prop) : Prop:=match kb with
  | .cells l :: rest => match falseAt l k with
    | true => ∀ f : Nat→Value,match maskL f ms l 0 with
      | some l' => K (.cells l' :: rest)
      | none => False
    | false => K (.cells l :: rest)
  | kb => K kb
theorem hideF_ok {k : Nat} {ms : List Bool} {kb : KB} {K : KB→Prop} (h : hideF k ms kb K) {σ : Sg} {E : EH} {W : World} (hi : Inv σ E kb W) : ∃ kb',Inv σ E kb' W∧(∀ b,Owns σ kb' b→Owns σ kb b)∧K kb':=by
  unfold hideF at h
  split at h
  · rename_i l rest
    split at h
    · obtain ⟨q,hq⟩ : ∃ q,σ[0]? = some q:=by
        have:=hi.len
        cases σ with
        | nil => simp at this
        | cons q σ => exact ⟨q,rfl⟩
      obtain ⟨arr,ty,ha,hl⟩:=hi.obj 0 q _ hq rfl
      obtain ⟨f,hf⟩:=maskL_ok (ms:=ms) (i:=0) hl
      have h:=h f
      split at h <;> try exact h.elim
      rename_i l' hl'
      obtain ⟨h1,h2⟩:=hf l' hl'
      refine ⟨_,⟨by simpa using hi.len,fun i q' o k1 k2 => ?_,fun i j q1 q2 o o' b hij k1 k2 k3 k4 k5 k6 => ?_,hi.imm,fun b hb => hi.sep b (owns_cells hb)⟩,fun b hb => owns_cells hb,h⟩
      · cases i with
        | zero =>
          simp at k2; subst k2
          rw [hq] at k1; cases k1
          exact ⟨arr,ty,ha,h1⟩
        | succ i => exact hi.obj (i + 1) q' o k1 (by simpa using k2)
      · have key : ∀ (i : Nat) (o : KO) (q : Re),(KO.cells l' :: rest)[i]? = some o→owned q o b→∃ o2,(KO.cells l :: rest)[i]? = some o2∧owned q o2 b:=fun i o q h2 h5 => by
          cases i with
          | zero => simp at h2; subst h2; exact ⟨_,rfl,h5⟩
          | succ i => exact ⟨o,by simpa using h2,h5⟩
        obtain ⟨o2,g1,g2⟩:=key i o q1 k2 k5
        obtain ⟨o3,g3,g4⟩:=key j o' q2 k4 k6
        exact hi.disj i j q1 q2 o2 o3 b hij k1 g1 k3 g3 g2 g4
    · exact ⟨_,hi,fun b hb => hb,h⟩
  · exact ⟨_,hi,fun b hb => hb,h⟩
def rootH (k : Nat) (ms : List Bool) (K : V→KB→Prop) : V→KB→Prop:=fun r kb => hideF k ms kb (rootRes K r)
theorem methOk_ofH {P : Program} {f : FuncId} {S S0 : FSpec} (hS : SpecOk P f S0) (k : Nat) (ms : List Bool) (h : ∀ args kb K,S args kb K→S0 args kb (rootH k ms K)) : MethOk P f S:=fun args kb K hs σ E W xs hi hd => by
  refine (hS _ _ _ (h args kb K hs) σ E W xs hi hd).mono ?_
  rintro e W' ⟨v,r,σ',E',kb2,rfl,hst,hden,hK⟩
  obtain ⟨kbm,him,hom,hK⟩:=hideF_ok hK hst.inv
  unfold rootRes at hK
  split at hK <;> try exact hK.elim
  rename_i vs' kb3 o r' hc hr'
  split at hK <;> try exact hK.elim
  rename_i hflat
  obtain ⟨hn,ht,_,hsel⟩:=canonP_ok hc
  obtain ⟨k1,k2,k3⟩:=him.sel hn hsel
  refine ⟨v,r',σ',E',kb2,_,kb3,rfl,hst,k1,hflat,fun b hb => hom b (k2 b hb),fun b hb => ?_,fun τ => ren_none hr' hden,hK⟩
  obtain ⟨τ,rfl⟩:=hst.pre
  obtain ⟨r,hr,hrb⟩:=hb
  exact sel_root ht ⟨r,sg_ext hr,hrb⟩
theorem methOk_runH {P : Program} (hm : P.follows .mixedOrders = true) (k : Nat) (ms : List Bool) {f : FuncId} {S : FSpec} (h : ∀ args kb K,S args kb K→∃ (X : CallT) (T : Nat→Option LI),CallOk P X∧runSpec P X T f args kb (rootH k ms K)) : MethOk P f S :=
  methOk_ofH (specOk_of'' hm (S:=fun a k K0 => ∃ X T,CallOk P X∧runSpec P X T f a k K0) fun _ _ _ h => h) k ms h
def rootT (k : Nat) (ms : List Bool) (K : V→KB→Prop) : V→KB→Prop:=fun r kb => match kb with
  | .obj1 a :: _ => match V.ren (fun _ => none) r with
    | some r' => flatB a.2 = true∧K r' a.2
    | none => False
  | kb => rootH k ms K r kb
theorem methOk_runT {P : Program} (hm : P.follows .mixedOrders = true) (k : Nat) (ms : List Bool) {f : FuncId} {S : FSpec} (h : ∀ args kb K,S args kb K→∃ (X : CallT) (T : Nat→Option LI),CallOk P X∧runSpec P X T f args kb (rootT k ms K)) : MethOk P f S:=fun args kb K hs σ E W xs hi hd => by
  have h0 : SpecOk P f (fun a k K0 => ∃ X T,CallOk P X∧runSpec P X T f a k K0):=specOk_of'' hm fun _ _ _ h => h
  refine (h0 _ _ _ (h args kb K hs) σ E W xs hi hd).mono ?_
  rintro e W' ⟨v,r,σ',E',kb2,rfl,hst,hden,hK⟩
  unfold rootT at hK
  split at hK
  · rename_i a rest
    split at hK <;> try exact hK.elim
    rename_i r' hr'
    obtain ⟨hflat,hK⟩:=hK
    obtain ⟨q,hq⟩ : ∃ q,σ'[0]? = some q:=by
      have:=hst.inv.len
      cases σ' with
      | nil => simp at this
      | cons q _ => exact ⟨q,rfl⟩
    obtain ⟨h1,h2⟩:=hst.inv.obj 0 q _ hq rfl
    refine ⟨v,r',σ',E',_,a.1,a.2,rfl,hst,h1.inv hst.inv.imm (fun b hb => hst.inv.sep b ⟨0,q,_,hq,rfl,hb⟩),hflat,fun b hb => ⟨0,q,_,hq,rfl,h1.owns hb⟩,fun b hb => ?_,fun τ => ren_none hr' hden,hK⟩
    obtain ⟨q0,g1,rfl⟩:=hb
    obtain ⟨τ,rfl⟩:=hst.pre
    have:=sg_ext (τ:=τ) g1
    rw [hq] at this; cases this
    exact h2
  · obtain ⟨kbm,him,hom,hK⟩:=hideF_ok hK hst.inv
    unfold rootRes at hK
    split at hK <;> try exact hK.elim
    rename_i vs' kb3 o r' hc hr'
    split at hK <;> try exact hK.elim
    rename_i hflat
    obtain ⟨hn,ht,_,hsel⟩:=canonP_ok hc
    obtain ⟨k1,k2,k3⟩:=him.sel hn hsel
    refine ⟨v,r',σ',E',kb2,_,kb3,rfl,hst,k1,hflat,fun b hb => hom b (k2 b hb),fun b hb => ?_,fun τ => ren_none hr' hden,hK⟩
    obtain ⟨τ,rfl⟩:=hst.pre
    obtain ⟨r,hr,hrb⟩:=hb
    exact sel_root ht ⟨r,sg_ext hr,hrb⟩
def meth (S : FSpec) : FSpec:=fun args kb K => match args,kb with
  | v :: rest,[.objs A] => ∃ k a b rest',A[k]? = some a∧rootIs a.1 b∧IsV v (pv b)∧V.rens (fun _ => none) rest = some rest' ∧
      S (.ptr 0 0 :: rest') a.2 (fun r kb3 => ∀ τ,rootIs τ b→K r [.objs (A.set k (τ,kb3))])
  | _,_ => False
theorem meth_ok {P : Program} {f : FuncId} {S : FSpec} (hS : MethOk P f S) : SpecOk P f (meth S):=fun args kb K h σ E W xs hi hd => by
  unfold meth at h
  split at h <;> try exact h.elim
  rename_i v rest A
  obtain ⟨k,a,b,rest',hk,hroot,hv,hrest,h⟩:=h
  obtain ⟨q,rfl⟩ : ∃ q,σ = [q]:=by
    have:=hi.len
    match σ,this with
    | [q],_ => exact ⟨q,rfl⟩
  have hp : PoolOk E W A:=hi.obj 0 q _ rfl rfl
  have hmem : a ∈ A:=List.mem_of_getElem? hk
  simp only [DenL] at hd
  obtain ⟨x,xs',rfl,hx,hxs⟩:=hd
  have hx:=hv.den hx
  subst hx
  have hsep : ∀ c,OwnsB a c→E c = none:=fun c hc => hi.sep c ⟨0,q,_,rfl,rfl,a,hmem,hc⟩
  have hia:=(hp.ok a hmem).inv hi.imm hsep
  have hroot0:=hroot
  obtain ⟨r,hr,hrb⟩:=hroot
  refine (hS _ _ _ h a.1 E W _ hia (DenL.cons (by simp only [Den]; exact ⟨r,hr,by rw [hrb]⟩) (rens_none hrest hxs))).mono ?_
  rintro e W' ⟨v2,r2,σ',E',kb2,σ3,kb3,rfl,hst,hin,hflat,hown,hrt,hden,hK⟩
  exact ⟨v2,r2,[q],E',_,rfl,pool_set hi hk hst (hin.objOk hflat) (fun c hc => hown c hc.up),hden _,hK _ (hrt b hroot0)⟩
def unptr (b : Nat) : V→Option V
  | .ptr 0 0 => some (.any (pv b))
  | .tup [.ptr 0 0,v] => match V.ren (fun _ => none) v with | some v' => some (.tup [.any (pv b),v']) | none => none
  | _ => none
theorem unptr_ok {b : Nat} {v v' : V} (h : unptr b v = some v') {σ σ' : Sg} {E : EH} (hr : rootIs σ b) {x : Value} (hd : Den σ E v x) : Den σ' E v' x:=by
  obtain ⟨r,hr,hb⟩:=hr
  unfold unptr at h
  split at h <;> try (cases h; done)
  · cases h
    simp only [Den] at hd ⊢
    obtain ⟨r',h1,h2⟩:=hd
    rw [hr] at h1; cases h1
    rw [h2,hb]
  · split at h <;> try (cases h; done)
    rename_i w w' hw
    cases h
    simp only [Den] at hd ⊢
    obtain ⟨vs,rfl,h1⟩:=hd
    simp only [DenL,Den] at h1
    obtain ⟨x1,xs1,rfl,⟨r',h2,h3⟩,x2,xs2,rfl,h4,rfl⟩:=h1
    rw [hr] at h2; cases h2
    refine ⟨_,rfl,DenL.cons (by simp only [Den]; rw [h3,hb]) (DenL.cons (ren_none hw h4) .nil)⟩
theorem inv_nil {σ : Sg} {E : EH} {kb : KB} {W : World} (h : Inv σ E kb W) : Inv [] E [] W :=
  ⟨rfl,fun i r o h => by simp at h,fun i j r r' o o' b _ h => by simp at h,h.imm,fun b ⟨i,r,o,h,_⟩ => by simp at h⟩
theorem owns_nil {b : Nat} (h : Owns [] [] b) : False:=by obtain ⟨i,r,o,h,_⟩:=h; simp at h
def boxS (S : FSpec) : FSpec:=fun args kb K => ∃ A args',(kb = []∧A = []∨kb = [.objs A])∧V.rens (fun _ => none) args = some args' ∧
  S args' [] (fun r kb2 => match canonP false 0 [r] kb2 with
    | some ([r'],[],_) => match V.ren (fun _ => none) r' with | some r2 => K r2 kb | none => False
    | some ([r'],kb3,_) => flatB kb3 = true∧∀ b τ,rootIs τ b→match unptr b r' with | some r2 => K r2 [.objs (A ++ [(τ,kb3)])] | none => False
    | _ => False)
theorem boxS_ok {P : Program} {f : FuncId} {S : FSpec} (hS : SpecOk P f S) : SpecOk P f (boxS S):=fun args kb K h σ E W xs hi hd => by
  obtain ⟨A,args',hkb,ha,h⟩:=h
  refine (hS _ _ _ h [] E W _ (inv_nil hi) (rens_none ha hd)).mono ?_
  rintro e W' ⟨v,r,σ',E',kb2,rfl,hst,hden,hK⟩
  have keep : ∀ b,b < W.heap.size→W'.heap[b]? = W.heap[b]?:=fun b hb => hst.stp.block b hb (fun ho => owns_nil ho)
  have hEold : ∀ b,b < W.heap.size→E b = none→E' b = none:=fun b hb hE => by
    cases hE' : E' b with
    | none => rfl
    | some x =>
      rcases hst.new b x hE' with k | k | k
      · rw [hE] at k; cases k
      · exact (owns_nil k).elim
      · omega
  have hnew2 : ∀ {σ0 : Sg} {kb0 : KB} (b : Nat) (o : Obj),E' b = some o→E b = some o∨Owns σ0 kb0 b∨W.heap.size ≤ b:=fun b o hb => by
    rcases hst.new b o hb with k | k | k
    · exact .inl k
    · exact (owns_nil k).elim
    · exact .inr (.inr k)
  split at hK <;> try exact hK.elim
  ·
    split at hK <;> try exact hK.elim
    rename_i r' o hc _ r2 hr2
    obtain ⟨hn,ht,hrn,hsel⟩:=canonP_ok hc
    obtain ⟨k1,k2,k3⟩:=hst.inv.sel hn hsel
    have hl:=DenL.ren k3 hrn (denL_one hden)
    refine ⟨v,r2,σ,E',kb,rfl,⟨⟨hi.len,fun i r o h1 h2 => ?_,hi.disj,hst.inv.imm,fun b hb => hEold b (hi.lt hb) (hi.sep b hb)⟩,⟨hst.stp.os,hst.stp.tape,hst.stp.output,hst.stp.size,fun b hb _ => keep b hb⟩,⟨[],by simp⟩,hst.le,fun b hb => .inl hb,hnew2⟩,ren_none hr2 (denL_one' hl),hK⟩
    have:=(hi.obj i r o h1 h2).mono (τ:=[]) (W':=W') hst.le (fun b hb => keep b ((hi.obj i r o h1 h2).lt hb))
    simpa using this
  · rename_i r' kb3 o hne hc
    obtain ⟨hflat,hK⟩:=hK
    obtain ⟨hn,ht,hrn,hsel⟩:=canonP_ok hc
    obtain ⟨k1,k2,k3⟩:=hst.inv.sel hn hsel
    have hl:=denL_one' (DenL.ren k3 hrn (denL_one hden))
    obtain ⟨q,hq⟩ : ∃ q,(selSg σ' o)[0]? = some q:=by
      have:=k1.len
      cases hs : selSg σ' o with
      | nil =>
        rw [hs] at this
        cases kb3 with
        | nil => exact absurd rfl hne
        | cons _ _ => simp at this
      | cons q _ => exact ⟨q,rfl⟩
    have hroot : rootIs (selSg σ' o) q.blk:=⟨q,hq,rfl⟩
    have hK:=hK q.blk _ hroot
    split at hK <;> try exact hK.elim
    rename_i r2 hr2
    have hob:=k1.objOk hflat
    have hfresh : ∀ b,OwnsB (selSg σ' o,kb3) b→W.heap.size ≤ b:=fun b hb => by
      rcases hst.own b (k2 b hb.up) with k | k
      · exact (owns_nil k).elim
      · exact k
    have hold : PoolOk E W A:=by
      rcases hkb with ⟨rfl,rfl⟩ | rfl
      · exact ⟨fun a ha => by simp at ha,fun k m a a' b _ h => by simp at h⟩
      · have h1 : σ.length = 1:=hi.len
        exact hi.obj 0 σ[0] _ (List.getElem?_eq_getElem (by omega)) rfl
    have hpool : PoolOk E' W' (A ++ [(selSg σ' o,kb3)]):=by
      have hcase : ∀ (m : Nat) (c : Sg × KB),(A ++ [(selSg σ' o,kb3)])[m]? = some c→A[m]? = some c∨(m = A.length∧c = (selSg σ' o,kb3)):=fun m c h => by
        rcases Nat.lt_trichotomy m A.length with hm | hm | hm
        · rw [List.getElem?_append_left hm] at h; exact .inl h
        · subst hm
          rw [List.getElem?_append_right (Nat.le_refl _)] at h
          simp at h
          exact .inr ⟨rfl,h.symm⟩
        · rw [List.getElem?_eq_none (by simp; omega)] at h; cases h
      refine ⟨fun c hc => ?_,fun m n c d b hmn h1 h2 h3 h4 => ?_⟩
      · obtain ⟨m,hm⟩:=List.getElem?_of_mem hc
        rcases hcase m c hm with h | ⟨_,rfl⟩
        · have hc:=List.mem_of_getElem? h
          exact (hold.ok c hc).mono hst.le (fun b hb => keep b ((hold.ok c hc).lt hb))
        · exact hob
      · rcases hcase m c h1 with k | ⟨e1,rfl⟩ <;> rcases hcase n d h2 with k' | ⟨e2,rfl⟩
        · exact hold.disj m n c d b hmn k k' h3 h4
        · have:=(hold.ok c (List.mem_of_getElem? k)).lt h3; have:=hfresh b h4; omega
        · have:=(hold.ok d (List.mem_of_getElem? k')).lt h4; have:=hfresh b h3; omega
        · omega
    have one : ∀ {q' : Re} {σ0 : Sg} {kb0 : KB},(∀ b,(∃ a ∈ A,OwnsB a b)→Owns σ0 kb0 b)→(∀ b,Owns σ0 kb0 b→E b = none)→(∃ τ,[q'] = σ0 ++ τ)→Step σ0 E kb0 W [q'] E' [.objs (A ++ [(selSg σ' o,kb3)])] W':=by
      intro q' σ0 kb0 h1 h2 h3
      have hz : ∀ {i : Nat} {r : Re},[q'][i]? = some r→i = 0∧r = q':=fun {i r} h => by
        rcases i with _ | i
        · simp at h; exact ⟨rfl,h.symm⟩
        · simp at h
      have hpo : ∀ b,Owns [q'] [.objs (A ++ [(selSg σ' o,kb3)])] b→(∃ a ∈ A,OwnsB a b)∨OwnsB (selSg σ' o,kb3) b:=by
        rintro b ⟨i,r,ob,g1,g2,g3⟩
        obtain ⟨rfl,rfl⟩:=hz g1
        simp at g2; subst g2
        obtain ⟨c,hc,hb⟩:=g3
        rcases List.mem_append.1 hc with hc | hc
        · exact .inl ⟨c,hc,hb⟩
        · simp at hc; subst hc; exact .inr hb
      refine ⟨⟨rfl,fun i r ob g1 g2 => ?_,fun i j r r' ob ob' b hij g1 g2 g3 g4 _ _ => ?_,hst.inv.imm,fun b hb => ?_⟩,⟨hst.stp.os,hst.stp.tape,hst.stp.output,hst.stp.size,fun b hb _ => keep b hb⟩,h3,hst.le,fun b hb => ?_,hnew2⟩
      · obtain ⟨rfl,rfl⟩:=hz g1
        simp at g2; subst g2
        exact hpool
      · obtain ⟨rfl,rfl⟩:=hz g1
        obtain ⟨rfl,rfl⟩:=hz g3
        exact (hij rfl).elim
      · rcases hpo b hb with ⟨c,hc,hcb⟩ | hcb
        · exact hEold b ((hold.ok c hc).lt hcb) (h2 b (h1 b ⟨c,hc,hcb⟩))
        · exact k1.sep b hcb.up
      · rcases hpo b hb with k | k
        · exact .inl (h1 b k)
        · exact .inr (hfresh b k)
    rcases hkb with ⟨rfl,rfl⟩ | rfl
    · have : σ = []:=List.eq_nil_of_length_eq_zero hi.len
      subst this
      exact ⟨v,r2,[re0],E',_,rfl,one (fun b ⟨a,ha,_⟩ => by simp at ha) (fun b hb => (owns_nil hb).elim) ⟨[re0],rfl⟩,unptr_ok hr2 hroot hl,hK⟩
    · have h1 : σ.length = 1:=hi.len
      match σ,h1 with
      | [q'],_ => exact ⟨v,r2,[q'],E',_,rfl,one (fun b hb => ⟨0,q',_,rfl,rfl,hb⟩) (fun b hb => hi.sep b hb) ⟨[],by simp⟩,unptr_ok hr2 hroot hl,hK⟩
end Vc
namespace Go.Proofs.Ytfcjngcnifdmnaa
open Vc Go
set_option linter.unusedVariables false
set_option linter.unusedSimpArgs false
set_option maxRecDepth 100000
structure Msg where
  kd : Int
  n : List Int
  b : List Int
  l : List (List Int)
structure Post where
  to : Int
  m : Msg
structure Dn where
  o : Op
  e : Int
  x : List Int
structure Lead where
  ins : Int→Bool
  acks : Int→Bool
  cur : Option Op
structure Vw where
  vi : Int
  vv : Int
  ve : Int
  mem : List Int
  joi : List Int
structure Rep where
  me : Int
  id : Int
  ep : Int
  nu : Int
  ce : Int
  ti : Int
  bl : Bool
  lo : Bool
  ch : Bool
  c : List Int
  t : List L3
  v : Vw
  ld : Option Lead
  out : List Post
  done : List Dn
def msgD (m : Msg) : List D:=[dn .i64 m.kd,.sl 1 (ints .i64 m.n),.sl 1 (ints .u8 m.b),.sl 1 (m.l.map fun x => [.sl 1 (ints .u8 x)])]
def postD (p : Post) : List D:=dn .i64 p.to :: msgD p.m
def dnD (d : Dn) : List D:=opD d.o ++ [dn .i64 d.e,.sl 1 (ints .u8 d.x)]
structure MB (M : ML) (f : Int→Bool) : Prop where
  b : BoolM M
  f : ∀ n,mgetB M [n] 0 = f n
def tabR (R : Rep) : List L3:=R.t
def oths (R : Rep) : List Int:=othA R.me R.v.mem R.v.joi
def sendR (R : Rep) (to kd : Int) (n : List Int) (b : List Int) (l : List (List Int)) : Rep:={ R with out:=R.out ++ [⟨to,⟨kd,R.id :: R.ep :: n,b,l⟩⟩] }
def stateR (R : Rep) (to : Int) : Rep:=sendR R to 10 [R.nu] (sealI R.c) [tabW (tabR R)]
def nackR (R : Rep) (to : Int) : Rep:=sendR R to 14 [R.nu] [] []
def handR (R : Rep) (o : Op) (to : Int) : Rep:=sendR R to 12 [R.nu,o.cl,o.nm,o.kd,o.bk,crcI R.c] o.b []
def curR (R : Rep) : Option Op:=R.ld.bind (·.cur)
def yieldR (R : Rep) : Rep:={ R with ld:=none,done:=R.done ++ (match curR R with | some o => [⟨o,19,[]⟩] | none => []) }
def rtOp (o : Op) : Bool:=rightO o.cl o.nm o.kd o.bk o.b.length
def chgOp (o : Op) : Bool:=isChg o.kd
def doT (t : List L3) (o : Op) : List L3:=if chgOp o = true∧putE t o.cl o.nm 0 = 0 then putL t o.cl o.nm 0 else t
def doR (R : Rep) (o : Op) : Rep:={ R with nu:=R.nu + 1,ch:=true,c:=doC R.c o.kd o.bk o.b,t:=doT R.t o }
def rdX (c : List Int) (o : Op) : List Int:=if o.kd = 3 then (c.drop (o.bk.toNat * 16)).take 16 else []
def finishR (R : Rep) : Rep:=match R.ld with
  | some L => match L.cur with
    | some o => if (oths R).all L.acks then { R with ld:=some { L with cur:=none },done:=R.done ++ [⟨o,0,rdX R.c o⟩] } else R
    | none => R
  | none => R
def readyR (R : Rep) : Bool:=match R.ld with
  | some L => (oths R).all L.ins
  | none => false
def leadsR (R : Rep) : Bool:=R.ld.isSome
def busyR (R : Rep) : Bool:=(curR R).isSome
def knownR (R : Rep) (o : Op) : Option (Int × Rep) :=
  if chkK (tabR R) o.cl o.nm = 1 then some (0,{ R with done:=R.done ++ [⟨o,chkE (tabR R) o.cl o.nm,[]⟩] })
  else if chkK (tabR R) o.cl o.nm = 2 then some (13,R)
  else if putE (tabR R) o.cl o.nm 0 = 0 then none else some (putE (tabR R) o.cl o.nm 0,R)
def beginR (R : Rep) (L : Lead) (o : Op) : Rep :=
  let R1:={ doR R o with ld:=some { L with acks:=fun _ => false,cur:=some o } }
  finishR ((oths R1).foldl (fun r k => handR r o k) R1)
def startR (R : Rep) (o : Op) : Int × Rep :=
  if rtOp o = false then (1,R) else match R.ld with
  | none => (12,R)
  | some L => if readyR R = false then (12,R) else if busyR R = true then (18,R) else
    match (if chgOp o then knownR R o else none) with
    | some (e,R1) => (e,R1)
    | none => (0,beginR R L o)
structure RepOk (R : Rep) : Prop where
  cl : R.c.length = 128
  cb : Byt R.c
  n0 : 0 ≤ R.nu
  n1 : R.nu ≤ 2199023255552
  vl : R.v.mem.length + R.v.joi.length ≤ 1000
  ol : R.out.length ≤ 100000
  dl : R.done.length ≤ 100000
  cr : ∀ o,curR R = some o→rtOp o = true
abbrev mpF (Q : ML) : KO:=.mp [.i64] false false 1 Q
abbrev nO (R : Rep) : Nat:=(List.map postD R.out).length
abbrev nD (R : Rep) : Nat:=(List.map dnD R.done).length
abbrev rO (R : Rep) : KO:=.row 76 5 (List.map postD R.out)
abbrev rD (R : Rep) : KO:=.row 46 7 (List.map dnD R.done)
abbrev opC (o : Op) : KO:=.cells [.int .i64 o.cl,.int .i64 o.nm,.int .i64 o.kd,.int .i64 o.bk,.dat (.sl 1 (ints .u8 o.b))]
abbrev vwC (w : Vw) : KO:=.cells [.int .i64 w.vi,.int .i64 w.vv,.int .i64 w.ve,.dat (.sl 1 (ints .i64 w.mem)),.dat (.sl 1 (ints .i64 w.joi))]
abbrev cR (R : Rep) (t_ ld_ ins_ acks_ cur_ out_ done_ : V) : KO:=.cells [.int .i64 R.me,.int .i64 R.id,.sb R.bl,.sb R.lo,.int .i64 R.ep,.int .i64 R.nu,.arr 128 (dns .u8 R.c),t_,.int .i64 R.v.vi,.int .i64 R.v.vv,.int .i64 R.v.ve,.dat (.sl 1 (ints .i64 R.v.mem)),.dat (.sl 1 (ints .i64 R.v.joi)),ld_,ins_,acks_,cur_,.int .i64 R.ce,.sb R.ch,.int .i64 R.ti,out_,done_]
abbrev cS (R : Rep) (nu_ c_ ch_ t_ ld_ ins_ acks_ cur_ out_ done_ : V) : KO:=.cells [.int .i64 R.me,.int .i64 R.id,.sb R.bl,.sb R.lo,.int .i64 R.ep,nu_,c_,t_,.int .i64 R.v.vi,.int .i64 R.v.vv,.int .i64 R.v.ve,.dat (.sl 1 (ints .i64 R.v.mem)),.dat (.sl 1 (ints .i64 R.v.joi)),ld_,ins_,acks_,cur_,.int .i64 R.ce,ch_,.int .i64 R.ti,out_,done_]
abbrev cG (R : Rep) (lo_ ep_ nu_ c_ ch_ t_ ld_ ins_ acks_ cur_ out_ done_ : V) : KO:=.cells [.int .i64 R.me,.int .i64 R.id,.sb R.bl,lo_,ep_,nu_,c_,t_,.int .i64 R.v.vi,.int .i64 R.v.vv,.int .i64 R.v.ve,.dat (.sl 1 (ints .i64 R.v.mem)),.dat (.sl 1 (ints .i64 R.v.joi)),ld_,ins_,acks_,cur_,.int .i64 R.ce,ch_,.int .i64 R.ti,out_,done_]
abbrev cT (R : Rep) (ti_ t_ ld_ ins_ acks_ cur_ out_ done_ : V) : KO:=.cells [.int .i64 R.me,.int .i64 R.id,.sb R.bl,.sb R.lo,.int .i64 R.ep,.int .i64 R.nu,.arr 128 (dns .u8 R.c),t_,.int .i64 R.v.vi,.int .i64 R.v.vv,.int .i64 R.v.ve,.dat (.sl 1 (ints .i64 R.v.mem)),.dat (.sl 1 (ints .i64 R.v.joi)),ld_,ins_,acks_,cur_,.int .i64 R.ce,.sb R.ch,ti_,out_,done_]
abbrev cV (R : Rep) (w : Vw) (ep_ ch_ t_ ld_ ins_ acks_ cur_ out_ done_ : V) : KO:=.cells [.int .i64 R.me,.int .i64 R.id,.sb R.bl,.sb R.lo,ep_,.int .i64 R.nu,.arr 128 (dns .u8 R.c),t_,.int .i64 w.vi,.int .i64 w.vv,.int .i64 w.ve,.dat (.sl 1 (ints .i64 w.mem)),.dat (.sl 1 (ints .i64 w.joi)),ld_,ins_,acks_,cur_,.int .i64 R.ce,ch_,.int .i64 R.ti,out_,done_]
def RepKB (R : Rep) (kb : KB) : Prop:=match R.ld with
  | none => ∃ a14 a15 T,Tab T R.t∧kb = [cR R (tbV T) (.sb false) (.any a14) (.any a15) (.ipo none) (.sl 1 0 (nO R)) (.sl 2 0 (nD R)),rO R,rD R]
  | some L => ∃ I Q T,MB I L.ins∧MB Q L.acks∧Tab T R.t∧kb = [cR R (tbV T) (.sb true) (.mp 1) (.mp 2) (.ipo (L.cur.map opD)) (.sl 3 0 (nO R)) (.sl 4 0 (nD R)),mpF I,mpF Q,rO R,rD R]
def handP (R : Rep) (o : Op) (to : Int) : Post:=⟨to,⟨12,[R.id,R.ep,R.nu,o.cl,o.nm,o.kd,o.bk,crcI R.c],o.b,[]⟩⟩
def stateP (R : Rep) (to : Int) : Post:=⟨to,⟨10,[R.id,R.ep,R.nu],sealI R.c,[tabW (tabR R)]⟩⟩
theorem hands_fold (o : Op) : ∀ (l : List Int) (r : Rep),l.foldl (fun r k => handR r o k) r = { r with out:=r.out ++ l.map (handP r o) }
  | [],r => by simp
  | a :: l,r => by
    rw [List.foldl_cons,hands_fold o l]
    simp [handR,sendR,handP,List.append_assoc]
theorem states_fold : ∀ (l : List Int) (r : Rep),l.foldl stateR r = { r with out:=r.out ++ l.map (stateP r) }
  | [],r => by simp
  | a :: l,r => by
    rw [List.foldl_cons,states_fold l]
    simp [stateR,sendR,stateP,tabR,List.append_assoc]
theorem startR_bad {R : Rep} {o : Op} (h : rtOp o = false) : startR R o = (1,R):=by unfold startR; rw [if_pos h]
theorem startR_nr {R : Rep} {o : Op} (h : rtOp o = true) (h2 : readyR R = false) : startR R o = (12,R):=by
  unfold startR; rw [if_neg (by simp [h])]
  cases R.ld with
  | none => rfl
  | some L => simp only [if_pos h2]
theorem startR_busy {R : Rep} {o : Op} {L : Lead} (h : rtOp o = true) (hl : R.ld = some L) (h2 : readyR R = true) (h3 : busyR R = true) : startR R o = (18,R):=by
  unfold startR; rw [if_neg (by simp [h]),hl]
  simp only [h2,h3]; simp
theorem startR_kn {R : Rep} {o : Op} {L : Lead} {p : Int × Rep} (h : rtOp o = true) (hl : R.ld = some L) (h2 : readyR R = true) (h3 : busyR R = false) (h4 : chgOp o = true) (h5 : knownR R o = some p) : startR R o = p:=by
  unfold startR; rw [if_neg (by simp [h]),hl]
  simp only [h2,h3,h4,h5]; simp
theorem startR_go {R : Rep} {o : Op} {L : Lead} (h : rtOp o = true) (hl : R.ld = some L) (h2 : readyR R = true) (h3 : busyR R = false) (h5 : chgOp o = true→knownR R o = none) : startR R o = (0,beginR R L o):=by
  unfold startR; rw [if_neg (by simp [h]),hl]
  simp only [h2,h3]
  by_cases h4 : chgOp o = true
  · simp [h4,h5 h4]
  · simp [h4]
theorem beginR_wait {R : Rep} {L : Lead} {o : Op} (h : oths R ≠ []) : beginR R L o = { R with nu:=R.nu + 1,ch:=true,c:=doC R.c o.kd o.bk o.b,t:=doT R.t o,ld:=some ⟨L.ins,fun _ => false,some o⟩,out:=R.out ++ (oths R).map (handP (doR R o) o) }:=by
  unfold beginR
  simp only [hands_fold]
  have ho : oths { doR R o with ld:=some { L with acks:=fun _ => false,cur:=some o } } = oths R:=rfl
  rw [ho]
  unfold finishR
  simp only
  rw [if_neg (by
    show ¬ (oths R).all (fun _ => false) = true
    cases hh : oths R with
    | nil => exact absurd hh h
    | cons a l => simp)]
  rfl
theorem beginR_alone {R : Rep} {L : Lead} {o : Op} (h : oths R = []) : beginR R L o = { R with nu:=R.nu + 1,ch:=true,c:=doC R.c o.kd o.bk o.b,t:=doT R.t o,ld:=some ⟨L.ins,fun _ => false,none⟩,done:=R.done ++ [⟨o,0,rdX (doC R.c o.kd o.bk o.b) o⟩] }:=by
  unfold beginR
  simp only [hands_fold]
  have ho : oths { doR R o with ld:=some { L with acks:=fun _ => false,cur:=some o } } = oths R:=rfl
  rw [ho,h]
  unfold finishR
  simp only
  rw [if_pos (by
    show (oths R).all (fun _ => false) = true
    rw [h]; rfl)]
  simp [doR]
theorem all_allI {Q : ML} {f : Int→Bool} (h : MB Q f) (me : Int) (m j : List Int) : allI me m j Q = (othA me m j).all f:=by
  unfold allI isNot
  rw [Bool.eq_iff_iff]
  simp only [Bool.not_eq_true',List.any_eq_false,List.all_eq_true,Bool.not_eq_true]
  constructor
  · intro hh x hx
    have:=hh x hx
    rw [h.f] at this
    simpa using this
  · intro hh x hx
    rw [h.f,hh x hx]; simp
theorem mb_nil : MB [] (fun _ => false):=⟨⟨fun k cs h => by simp [mget] at h⟩,fun n => by simp [mgetB,mget]⟩
theorem mget_mset2 : ∀ {M : ML} {k k' : List Int} {c : List D},mget (mset M k c) k' = if k' = k then some c else mget M k'
  | [],k,k',c => by simp only [mset,mget]
  | (a,v) :: M,k,k',c => by
    simp only [mset]
    by_cases hk : k = a
    · subst hk
      rw [if_pos rfl]
      by_cases h2 : k' = k
      · simp [mget,h2]
      · simp [mget,h2]
    · rw [if_neg hk]
      simp only [mget]
      by_cases h2 : k' = a
      · subst h2
        rw [if_pos rfl,if_pos rfl,if_neg (fun e => hk e.symm)]
      · rw [if_neg h2,if_neg h2]
        exact mget_mset2
theorem mb_set {M : ML} {f : Int→Bool} (h : MB M f) (k : Int) (v : Bool) : MB (mset M [k] [.val (.bool v)]) (fun n => if n = k then v else f n):=by
  refine ⟨⟨fun k' cs hk => ?_⟩,fun n => ?_⟩
  · rw [mget_mset2] at hk
    split at hk
    · cases hk; exact ⟨v,rfl⟩
    · exact h.b.h k' cs hk
  · unfold mgetB
    rw [mget_mset2]
    by_cases e : n = k
    · subst e; simp [bv]
    · have e2 : ¬ ([n] : List Int) = [k]:=fun x => e (by simpa using x)
      rw [if_neg e2,if_neg e]
      exact h.f n
end Go.Proofs.Ytfcjngcnifdmnaa
namespace Go.Proofs.Ytfcjngcnifdmnaa
open Vc Go
set_option linter.unusedVariables false
set_option linter.unusedSimpArgs false
set_option maxRecDepth 100000
def SclB : FSpec:=fun args kb K => match args,kb with
  | [.dat (.sl 1 B)],[] => LenR B.length∧K (.dat (.sl 1 B)) []
  | _,_ => False
abbrev deadLI : LI where
  α:=Empty
  live:=[]
  st i:=i.elim
  μ i:=i.elim
  all _:=True
  all_ok:=fun _ _ i => i.elim
def cutAt (r : Nat) : Nat→Option LI:=fun q => match Nat.beq q r with | true => some deadLI | false => none
def tNext (T : ML) (cl nm kd : Int) : ML:=if isChg kd then mset T [cl] [dn .i64 nm,dn .i64 0] else T
def handsD (l : List Int) (R : Rep) (o : Op) : List (List D):=l.map fun to => haP to R.id R.ep (R.nu + 1) (doC R.c o.kd o.bk o.b) o
abbrev st12 (R : Rep) (T : ML) (I Q : ML) (u : Option (List D)) (o : Op) : LI where
  α:={_u : Unit // chgOp o = true→putE (tabR R) o.cl o.nm 0 = 0}
  live:=[0,3]
  st _:=([.ptr 0 0,.ptr 5 0],[cR R (tbV T) (.sb true) (.mp 1) (.mp 2) (.ipo u) (.sl 3 0 (nO R)) (.sl 4 0 (nD R)),mpF I,mpF Q,rO R,rD R,opC o])
  μ _:=0
abbrev st14 (R : Rep) (T : ML) (I Q : ML) (u : Option (List D)) (o : Op) : LI where
  α:=Unit
  live:=[0,3]
  st _:=([.ptr 0 0,.ptr 5 0],[cS R (.int .i64 (R.nu + 1)) (.arr 128 (dns .u8 (doC R.c o.kd o.bk o.b))) (.sb true) (tbV (tNext T o.cl o.nm o.kd)) (.sb true) (.mp 1) (.mp 2) (.ipo u) (.sl 3 0 (nO R)) (.sl 4 0 (nD R)),mpF I,mpF Q,rO R,rD R,opC o])
  μ _:=0
abbrev st16 (R : Rep) (T : ML) (I Q : ML) (u : Option (List D)) (o : Op) : LI where
  α:={i : Nat // i ≤ (oths R).length}
  live:=[0,52,53,54]
  nils:=[.ipoC 0 143,.mv 0 147]
  st i:=([.ptr 0 0,.sl 7 0 (oths R).length,.int .i64 ((oths R).length : Int),.int .i64 (i.1 : Int)],[cS R (.int .i64 (R.nu + 1)) (.arr 128 (dns .u8 (doC R.c o.kd o.bk o.b))) (.sb true) (tbV (tNext T o.cl o.nm o.kd)) (.sb true) (.mp 1) (.mp 5) (.ipo (some (opD o))) (.sl 6 0 ((nO R) + i.1)) (.sl 4 0 (nD R)),mpF I,mpF Q,.dead,rD R,mpF [],.row 76 5 (R.out.map postD ++ handsD ((oths R).take i.1) R o),.row 3 1 (ints .i64 (othZ R.me R.v.mem R.v.joi))])
  μ i:=(oths R).length - i.1
def stT (R : Rep) (T : ML) (I Q : ML) (u : Option (List D)) (o : Op) : Nat→Option LI
  | 1012 => some (st12 R T I Q u o)
  | 1014 => some (st14 R T I Q u o)
  | 16 => some (st16 R T I Q u o)
  | _ => none
def stS : FuncId→Option Known
  | 9 => some ⟨[],hideIn [false,true,true,true,true,true,false,true,true,true,true,false,false,false,false,true,false,true,true,true,true,true] Sleads⟩
  | 27 => some ⟨[],SisRight⟩
  | 28 => some ⟨[],SisChange⟩
  | 29 => some ⟨[],hideIn [true,true,true,true,true,true,false,false,true,true,true,true,true,true,true,true,true,true,true,true,true,false] Sknown⟩
  | 30 => some ⟨[],SclB⟩
  | 31 => some ⟨[],hideIn [true,true,true,true,true,false,false,false,true,true,true,true,true,true,true,true,true,true,false,true,true,true] Sdo⟩
  | 23 => some ⟨[],hideIn [false,true,true,true,true,true,false,true,true,true,true,false,false,true,true,true,true,true,true,true,true,true] Sothers⟩
  | 32 => some ⟨[],hideIn [true,false,true,true,false,false,false,true,true,true,true,true,true,true,true,true,false,true,true,true,false,true] Shand⟩
  | 33 => some ⟨[],hideIn [false,true,true,true,true,true,false,true,true,true,true,false,false,true,true,false,false,true,true,true,true,false] Sfinish⟩
  | _ => none
noncomputable def XSt : CallT:=callS Try.prog stS noT 10
def stS0 : FuncId→Option Known
  | 9 => some ⟨[],hideIn [true,true,true,true,true,true,false,true,true,true,true,true,true,false,true,true,false,true,true,true,true,true] Sleads⟩
  | f => stS f
noncomputable def XSt0 : CallT:=callS Try.prog stS0 noT 10
theorem vcClB (B : List (List D)) (K : V→KB→Prop) (hvc_ :
 ∀ (y1 : Bool),(y1 = true →
 B.length = 0) →
 (y1 = true →
 K (V.dat (D.sl 1 [])) []) ∧
 (y1 = false →
 True ∧
 0 ≤ 0 ∧
 (0 + B.length) * 1 ≤ 140737488355328 ∧
 0 + B.length ≤ ([] ++ B).length ∧
 K (V.dat (D.sl 1 (List.drop 0 (List.take (0 + B.length) ([] ++ B))))) [])
 ) : runSpec Try.prog X0 (noT 30) 30 [.dat (.sl 1 B)] [] (gvRes [.give 1] (tidyRes 0 K)):=by apply Eq.mp (a:=hvc_); kernel_rfl
theorem vcStart_l (R : Rep) (T : ML) (I Q : ML) (u : Option (List D)) (o : Op) (K : V→KB→Prop) (hvc_ :
 let z1_:=cR R (tbV T) (V.sb true) (V.mp 1) (V.mp 2) (V.ipo u) (V.sl 3 0 (nO R)) (V.sl 4 0 (nD R)); let z2_:=[0,1,2,3,4,5,8,9,10,11,12,13,14,15,16,17,18,19,20]; let z3_:=[0,1,2,3,4,8,9,10,11,12,13,14,15,16,17,19,20,21]; ∀ (y1 : Nat →
 Value),∃ (y2 : List Int),∃ (y3 : List Int),ints IntKind.i64 R.v.mem = ints IntKind.i64 y2 ∧
 ints IntKind.i64 R.v.joi = ints IntKind.i64 y3 ∧
 Len5 (y2.length + y3.length) ∧
 BoolM I ∧
 true = true ∧
 SmF y1 [1,2,3,4,5,7,8,9,10,15,17,18,19,20,21] ∧
 ((!rightO o.cl o.nm o.kd o.bk (ints IntKind.u8 o.b).length) = true →
 K (V.int IntKind.i64 1) [z1_,mpF I,mpF Q,rO R,rD R]) ∧
 ((!rightO o.cl o.nm o.kd o.bk (ints IntKind.u8 o.b).length) = false →
 ((!allI R.me y2 y3 I) = true →
 K (V.int IntKind.i64 12) [z1_,mpF I,mpF Q,rO R,rD R]) ∧
 ((!allI R.me y2 y3 I) = false →
 ((!u.isNone) = true →
 K (V.int IntKind.i64 18) [z1_,mpF I,mpF Q,rO R,rD R]) ∧
 ((!u.isNone) = false →
 ((isChg o.kd = true →
 ∀ (y4 : Nat →
 Value),nD R = (nD R) ∧
 LenR (nD R) ∧
 ∃ (y5 : List L3),Tab T y5 ∧
 (EqI2 (chkK y5 o.cl o.nm) 1 →
 SmF y4 z2_ ∧
 (true = true →
 K (V.int IntKind.i64 0) [cR R (tbV T) (V.sb true) (V.mp 1) (V.mp 2) (V.ipo u) (V.sl 3 0 (nO R)) (V.sl 4 0 (nD R + 1)),mpF I,mpF Q,rO R,KO.row 46 7 (List.map dnD R.done ++ [(opD o ++ [dn IntKind.i64 (chkE y5 o.cl o.nm),D.sl 1 []])])]) ∧
 (true = false →
 At (st12 R T I Q u o) ([V.ptr 0 0,V.ptr 6 0],[cR R (tbV T) (V.sb true) (V.mp 1) (V.mp 2) (V.ipo u) (V.sl 3 0 (nO R)) (V.sl 5 0 (nD R + 1)),mpF I,mpF Q,rO R,KO.dead,KO.row 46 7 (List.map dnD R.done ++ [(opD o ++ [dn IntKind.i64 (chkE y5 o.cl o.nm),D.sl 1 []])]),opC o]))) ∧
 (EqI2 (chkK y5 o.cl o.nm) 2 →
 SmF y4 z2_ ∧
 (true = true →
 K (V.int IntKind.i64 13) [z1_,mpF I,mpF Q,rO R,rD R]) ∧
 (true = false →
 At (st12 R T I Q u o) ([V.ptr 0 0,V.ptr 5 0],[z1_,mpF I,mpF Q,rO R,rD R,opC o]))) ∧
 (EqI2 (chkK y5 o.cl o.nm) 0 →
 (NeZ (putE y5 o.cl o.nm 0) →
 SmF y4 z2_ ∧
 (true = true →
 K (V.int IntKind.i64 (putE y5 o.cl o.nm 0)) [z1_,mpF I,mpF Q,rO R,rD R]) ∧
 (true = false →
 At (st12 R T I Q u o) ([V.ptr 0 0,V.ptr 5 0],[z1_,mpF I,mpF Q,rO R,rD R,opC o]))) ∧
 (EqZ (putE y5 o.cl o.nm 0) →
 SmF y4 z2_ ∧
 (false = true →
 K (V.int IntKind.i64 0) [z1_,mpF I,mpF Q,rO R,rD R]) ∧
 (false = false →
 At (st12 R T I Q u o) ([V.ptr 0 0,V.ptr 5 0],[z1_,mpF I,mpF Q,rO R,rD R,opC o]))))) ∧
 (isChg o.kd = false →
 At (st12 R T I Q u o) ([V.ptr 0 0,V.ptr 5 0],[z1_,mpF I,mpF Q,rO R,rD R,opC o]))) ∧
 ∀ (y7 : { y6 : Unit // chgOp o = true →
 putE (tabR R) o.cl o.nm 0 = 0}),LenR (ints IntKind.u8 o.b).length ∧
 (∀ (y8 : Nat →
 Value),∃ (y9 : List Int),∃ (y10 : List Int),∃ (y11 : List L3),Cnt (dns IntKind.u8 R.c) y9 ∧
 ints IntKind.u8 o.b = ints IntKind.u8 y10 ∧
 Tab T y11 ∧
 RgN R.nu ∧
 RtO o.cl o.nm o.kd o.bk y10.length ∧
 (NoCh o.kd →
 SmF y8 z3_ ∧
 At (st14 R T I Q u o) ([V.ptr 0 0,V.ptr 5 0],[cS R (V.int IntKind.i64 (R.nu + 1)) (V.arr 128 (dns IntKind.u8 (doC y9 o.kd o.bk y10))) (V.sb true) (tbV T) (V.sb true) (V.mp 1) (V.mp 2) (V.ipo u) (V.sl 3 0 (nO R)) (V.sl 4 0 (nD R)),mpF I,mpF Q,rO R,rD R,opC o])) ∧
 (Chg o.kd →
 (NeZ (putE y11 o.cl o.nm 0) →
 SmF y8 z3_ ∧
 At (st14 R T I Q u o) ([V.ptr 0 0,V.ptr 5 0],[cS R (V.int IntKind.i64 (R.nu + 1)) (V.arr 128 (dns IntKind.u8 (doC y9 o.kd o.bk y10))) (V.sb true) (tbV T) (V.sb true) (V.mp 1) (V.mp 2) (V.ipo u) (V.sl 3 0 (nO R)) (V.sl 4 0 (nD R)),mpF I,mpF Q,rO R,rD R,opC o])) ∧
 (EqZ (putE y11 o.cl o.nm 0) →
 SmF y8 z3_ ∧
 At (st14 R T I Q u o) ([V.ptr 0 0,V.ptr 5 0],[cS R (V.int IntKind.i64 (R.nu + 1)) (V.arr 128 (dns IntKind.u8 (doC y9 o.kd o.bk y10))) (V.sb true) (tbV (mset T [o.cl] [dn IntKind.i64 o.nm,D.val (Value.int IntKind.i64 0)])) (V.sb true) (V.mp 1) (V.mp 2) (V.ipo u) (V.sl 3 0 (nO R)) (V.sl 4 0 (nD R)),mpF I,mpF Q,rO R,rD R,opC o])))) ∧
 ∀ (y12 : Unit) (y13 : Nat →
 Value),∃ (y14 : List Int),∃ (y15 : List Int),ints IntKind.i64 R.v.mem = ints IntKind.i64 y14 ∧
 ints IntKind.i64 R.v.joi = ints IntKind.i64 y15 ∧
 Len5 (y14.length + y15.length) ∧
 SmF y13 [1,2,3,4,5,7,8,9,10,13,14,15,16,17,18,19,20,21] ∧
 At (st16 R T I Q u o) ([V.ptr 0 0,V.sl 7 0 (othA R.me y14 y15).length,V.int IntKind.i64 (↑((othA R.me y14 y15).length - 0) : Int),V.int IntKind.i64 0],[cS R (V.int IntKind.i64 (R.nu + 1)) (V.arr 128 (dns IntKind.u8 (doC R.c o.kd o.bk o.b))) (V.sb true) (tbV (tNext T o.cl o.nm o.kd)) (V.sb true) (V.mp 1) (V.mp 5) (V.ipo (some (opD o))) (V.sl 6 0 (nO R)) (V.sl 4 0 (nD R)),mpF I,mpF Q,KO.dead,rD R,mpF [],rO R,KO.row 3 1 (ints IntKind.i64 (othZ R.me y14 y15))]) ∧
 ∀ (y17 : { y16 : Nat // y16 ≤ (oths R).length}),(decide ((↑y17.val : Int) < (↑(oths R).length : Int)) = true →
 InB (↑y17.val : Int) ((oths R).length - 0) ∧
 ∃ (y18 : List D),(ints IntKind.i64 (othZ R.me R.v.mem R.v.joi))[0 + (↑y17.val : Int).toNat]? = some y18 ∧
 ∃ (y19 : Int),y18[0]? = some (D.val (Value.int IntKind.i64 y19)) ∧
 ∀ (y20 : Nat →
 Value),nO R + y17.val = (List.map postD R.out ++ handsD (List.take y17.val (oths R)) R o).length ∧
 LenR (nO R + y17.val) ∧
 ∃ (y21 : List Int),∃ (y22 : Op),Cnt (dns IntKind.u8 (doC R.c o.kd o.bk o.b)) y21 ∧
 some (opD o) = some (opD y22) ∧
 SmF y20 [0,2,3,7,8,9,10,11,12,13,14,15,17,18,19,21] ∧
 Nx (st16 R T I Q u o) y17 ([V.ptr 0 0,V.sl 7 0 (oths R).length,V.int IntKind.i64 (↑(oths R).length : Int),V.int IntKind.i64 (IntKind.i64.wrap ((↑y17.val : Int) + 1))],[cS R (V.int IntKind.i64 (R.nu + 1)) (V.arr 128 (dns IntKind.u8 y21)) (V.sb true) (tbV (tNext T o.cl o.nm o.kd)) (V.sb true) (V.mp 1) (V.mp 5) (V.ipo (some (opD o))) (V.sl 6 0 (nO R + y17.val + 1)) (V.sl 4 0 (nD R)),mpF I,mpF Q,KO.dead,rD R,mpF [],KO.row 76 5 (List.map postD R.out ++ handsD (List.take y17.val (oths R)) R o ++ [[dn IntKind.i64 y19,D.val (Value.int IntKind.i64 12),D.sl 1 [[dn IntKind.i64 R.id],[dn IntKind.i64 R.ep],[dn IntKind.i64 (R.nu + 1)],[dn IntKind.i64 y22.cl],[dn IntKind.i64 y22.nm],[dn IntKind.i64 y22.kd],[dn IntKind.i64 y22.bk],[dn IntKind.i64 (crcI y21)]],D.sl 1 (ints IntKind.u8 y22.b),D.sl 1 []]]),KO.row 3 1 (ints IntKind.i64 (othZ R.me R.v.mem R.v.joi))])) ∧
 (decide ((↑y17.val : Int) < (↑(oths R).length : Int)) = false →
 ∀ (y23 : Nat →
 Value),nD R = (nD R) ∧
 LenR (nD R) ∧
 ∃ (y24 : List Int),∃ (y25 : List Int),∃ (y26 : List Int),∃ (y27 : Op),Cnt (dns IntKind.u8 (doC R.c o.kd o.bk o.b)) y26 ∧
 ints IntKind.i64 R.v.mem = ints IntKind.i64 y24 ∧
 ints IntKind.i64 R.v.joi = ints IntKind.i64 y25 ∧
 Len5 (y24.length + y25.length) ∧
 BoolM [] ∧
 some (opD o) = some (opD y27) ∧
 okI y27.bk ∧
 (allI R.me y24 y25 [] = false →
 SmF y23 [1,2,3,4,5,7,8,9,10,13,14,17,18,19,20] ∧
 K (V.int IntKind.i64 0) [cS R (V.int IntKind.i64 (R.nu + 1)) (V.arr 128 (dns IntKind.u8 (doC R.c o.kd o.bk o.b))) (V.sb true) (tbV (tNext T o.cl o.nm o.kd)) (V.sb true) (V.mp 1) (V.mp 2) (V.ipo (some (opD o))) (V.sl 3 0 (nO R + y17.val)) (V.sl 4 0 (nD R)),mpF I,mpF [],KO.row 76 5 (List.map postD R.out ++ handsD (List.take y17.val (oths R)) R o),rD R]) ∧
 (allI R.me y24 y25 [] = true →
 SmF y23 [1,2,3,4,5,7,8,9,10,13,14,17,18,19,20] ∧
 K (V.int IntKind.i64 0) [cS R (V.int IntKind.i64 (R.nu + 1)) (V.arr 128 (dns IntKind.u8 y26)) (V.sb true) (tbV (tNext T o.cl o.nm o.kd)) (V.sb true) (V.mp 1) (V.mp 2) (V.ipo none) (V.sl 3 0 (nO R + y17.val)) (V.sl 4 0 (nD R + 1)),mpF I,mpF [],KO.row 76 5 (List.map postD R.out ++ handsD (List.take y17.val (oths R)) R o),KO.row 46 7 (List.map dnD R.done ++ [(opD y27 ++ [D.val (Value.int IntKind.i64 0),D.sl 1 (finX y26 y27.kd y27.bk)])])])))))
 ) : runSpec Try.prog XSt (stT R T I Q u o) 11 [.ptr 0 0,.agg [.int .i64 o.cl,.int .i64 o.nm,.int .i64 o.kd,.int .i64 o.bk,.dat (.sl 1 (ints .u8 o.b))]] [cR R (tbV T) (.sb true) (.mp 1) (.mp 2) (.ipo u) (.sl 3 0 (nO R)) (.sl 4 0 (nD R)),mpF I,mpF Q,rO R,rD R] (rootRes K):=by apply Eq.mp (a:=hvc_); kernel_rfl
theorem vcStart_n (R : Rep) (T : ML) (a14 a15 : Value) (o : Op) (K : V→KB→Prop) (hvc_ :
 let z1_ : KB:=[cR R (tbV T) (V.sb false) (V.any a14) (V.any a15) (V.ipo none) (V.sl 1 0 (nO R)) (V.sl 2 0 (nD R)),rO R,rD R]; ∀ (y1 : Nat →
 Value),false = false ∧
 SmF y1 [0,1,2,3,4,5,7,8,9,10,11,12,14,15,17,18,19,20,21] ∧
 (((!rightO o.cl o.nm o.kd o.bk (ints IntKind.u8 o.b).length) = true →
 K (V.int IntKind.i64 1) z1_) ∧
 ((!rightO o.cl o.nm o.kd o.bk (ints IntKind.u8 o.b).length) = false →
 (true = true →
 K (V.int IntKind.i64 12) z1_) ∧
 (true = false →
 (false = true →
 K (V.int IntKind.i64 18) z1_) ∧
 (false = false →
 At deadLI ([],z1_))))) ∧
 True
 ) : runSpec Try.prog XSt0 (cutAt 1008) 11 [.ptr 0 0,.agg [.int .i64 o.cl,.int .i64 o.nm,.int .i64 o.kd,.int .i64 o.bk,.dat (.sl 1 (ints .u8 o.b))]] [cR R (tbV T) (.sb false) (.any a14) (.any a15) (.ipo none) (.sl 1 0 (nO R)) (.sl 2 0 (nD R)),rO R,rD R] (rootRes K):=by apply Eq.mp (a:=hvc_); kernel_rfl
theorem specOk_gv {P : Program} {X : CallT} (hX : CallOk P X) (hm : P.follows .mixedOrders = true) (ms : List Vc.Mode) {f : FuncId} {S : FSpec} (h : ∀ args kb K,S args kb K→∃ T,runSpec P X T f args kb (gvRes ms (tidyRes kb.length K))) : SpecOk P f S :=
  fun args kb K hs => gvTidy_ok (specOk_of' hX hm (S:=fun a k K0 => ∃ T,runSpec P X T f a k K0) fun _ _ _ h => h) ms args kb K (h args kb K hs)
theorem okClB : SpecOk Try.prog 30 SclB:=specOk_gv X0_ok mixed [.give 1] (fun args kb K h => by
  unfold SclB at h; split at h <;> try exact h.elim
  obtain ⟨⟨hn⟩,h⟩:=h
  refine ⟨_,vcClB _ K fun b hb => ⟨fun e => ?_,fun _ => ⟨trivial,Nat.le_refl _,by omega,by simp,?_⟩⟩⟩
  · have:=List.eq_nil_of_length_eq_zero (hb e)
    rw [this] at h; exact h
  · simpa using h)
theorem doC_len {c b : List Int} {cl nm kd bk : Int} (hc : c.length = 128) (h : rightO cl nm kd bk b.length = true) : (doC c kd bk b).length = 128:=by
  simp only [rightO,decide_eq_true_eq] at h
  unfold doC
  split
  · rename_i e
    rw [splice_len (by have:=h.2.2.2.2.2.2.2.2 e; omega),hc]
  · split
    · rw [splice_len (by rw [List.length_replicate]; omega),hc]
    · exact hc
theorem doC_byt {c b : List Int} {kd bk : Int} (hc : Byt c) (h : Byt b) : Byt (doC c kd bk b):=by
  have hs : ∀ (k : Nat) (v : List Int),Byt v→Byt (splice c k v):=fun k v hv x hx => by
    unfold splice at hx
    rcases List.mem_append.1 hx with hx | hx
    · rcases List.mem_append.1 hx with hx | hx
      · exact hc x (List.mem_of_mem_take hx)
      · exact hv x hx
    · exact hc x (List.mem_of_mem_drop hx)
  unfold doC
  split
  · exact hs _ _ h
  · split
    · exact hs _ _ (fun x hx => by rw [List.eq_of_mem_replicate hx]; omega)
    · exact hc
theorem putE_chk {x : List L3} {c n : Int} (h : putE x c n 0 = 0) : ¬ (chkK x c n = 1∨chkK x c n = 2):=by
  unfold putE at h
  split at h
  · omega
  · unfold chkK
    cases hq : numA x c with
    | none => simp
    | some q =>
      rw [hq] at h
      simp only at h ⊢
      split at h
      · omega
      · rename_i hn
        rw [if_pos (by omega)]; simp
theorem finX_rd {c : List Int} {o : Op} : finX c o.kd o.bk = ints .u8 (rdX c o):=by
  unfold finX rdX
  split
  · simp [ints]
  · rfl
theorem inB_of {i n : Nat} (h : i < n) : InB (i : Int) n:=⟨by omega,by omega⟩
theorem ints_getElem? {k : IntKind} {l : List Int} {i : Nat} : (ints k l)[i]? = (l[i]?).map fun n => [D.val (.int k n)]:=by unfold ints; rw [List.getElem?_map]
theorem start_n (R : Rep) (T : ML) (a14 a15 : Value) (o : Op) (hl : R.ld = none) (hB : o.b.length ≤ 100000) {kb : KB} (hkb : RepKB R kb) (hsh : kb = [cR R (tbV T) (.sb false) (.any a14) (.any a15) (.ipo none) (.sl 1 0 (nO R)) (.sl 2 0 (nD R)),rO R,rD R]) (K : V→KB→Prop) (hK : ∀ kb',RepKB (startR R o).2 kb'→K (.int .i64 (startR R o).1) kb') : runSpec Try.prog XSt0 (cutAt 1008) 11 [.ptr 0 0,.agg [.int .i64 o.cl,.int .i64 o.nm,.int .i64 o.kd,.int .i64 o.bk,.dat (.sl 1 (ints .u8 o.b))]] [cR R (tbV T) (.sb false) (.any a14) (.any a15) (.ipo none) (.sl 1 0 (nO R)) (.sl 2 0 (nD R)),rO R,rD R] (rootRes K):=by
  subst hsh
  have fin : ∀ {e : Int} {R' : Rep} {kb' : KB},startR R o = (e,R')→RepKB R' kb'→K (.int .i64 e) kb':=fun {e R' kb'} h1 h2 => by
    have:=hK kb'
    rw [h1] at this
    exact this h2
  have hrti : rtOp o = rightO o.cl o.nm o.kd o.bk (ints .u8 o.b).length:=by unfold rtOp; rw [ints_len]
  exact vcStart_n R T a14 a15 o K fun f => ⟨rfl,⟨by simp [SameL]⟩,⟨fun e => fin (startR_bad (by rw [hrti]; simpa using e)) hkb,fun e => ⟨fun _ => fin (startR_nr (by rw [hrti]; simpa using e) (by simp [readyR,hl])) hkb,fun f => (by cases f)⟩⟩,trivial⟩
theorem start_l (R : Rep) (o : Op) (L : Lead) (T I Q : ML) (hT : Tab T R.t) (hl : R.ld = some L) (hI : MB I L.ins) (hQ : MB Q L.acks) (hR : RepOk R) (hroom : R.out.length + (oths R).length ≤ 100000) (hBy : Byt o.b) (hB : o.b.length ≤ 100000) {kb : KB} (hkb : RepKB R kb)
    (hsh : kb = [cR R (tbV T) (.sb true) (.mp 1) (.mp 2) (.ipo (L.cur.map opD)) (.sl 3 0 (nO R)) (.sl 4 0 (nD R)),mpF I,mpF Q,rO R,rD R]) (K : V→KB→Prop) (hK : ∀ kb',RepKB (startR R o).2 kb'→K (.int .i64 (startR R o).1) kb') : runSpec Try.prog XSt (stT R T I Q (L.cur.map opD) o) 11 [.ptr 0 0,.agg [.int .i64 o.cl,.int .i64 o.nm,.int .i64 o.kd,.int .i64 o.bk,.dat (.sl 1 (ints .u8 o.b))]] [cR R (tbV T) (.sb true) (.mp 1) (.mp 2) (.ipo (L.cur.map opD)) (.sl 3 0 (nO R)) (.sl 4 0 (nD R)),mpF I,mpF Q,rO R,rD R] (rootRes K):=by
  subst hsh
  have fin : ∀ {e : Int} {R' : Rep} {kb' : KB},startR R o = (e,R')→RepKB R' kb'→K (.int .i64 e) kb':=fun {e R' kb'} h1 h2 => by
    have:=hK kb'
    rw [h1] at this
    exact this h2
  have h5 : Len5 (R.v.mem.length + R.v.joi.length):=⟨by have:=hR.vl; omega⟩
  have hcnt : Cnt (dns .u8 R.c) R.c:=⟨rfl,hR.cl,hR.cb⟩
  have hcnt2 : ∀ (h : rtOp o = true),Cnt (dns .u8 (doC R.c o.kd o.bk o.b)) (doC R.c o.kd o.bk o.b):=fun h => ⟨rfl,by rw [doC_len hR.cl h],doC_byt hR.cb hBy⟩
  have hnu : RgN R.nu:=⟨hR.n0,by have:=hR.n1; omega⟩
  have hdl : (List.map dnD R.done).length ≤ 1000000:=by rw [List.length_map]; have:=hR.dl; omega
  have hready : readyR R = allI R.me R.v.mem R.v.joi I:=by unfold readyR; rw [hl,all_allI hI]; rfl
  have hrti : rtOp o = rightO o.cl o.nm o.kd o.bk (ints .u8 o.b).length:=by unfold rtOp; rw [ints_len]
  have htn : ∀ hi : chgOp o = true→putE (tabR R) o.cl o.nm 0 = 0,Tab (tNext T o.cl o.nm o.kd) (doT R.t o):=fun hi => by
    unfold doT tNext
    by_cases hc : chgOp o = true
    · have hc2 : isChg o.kd = true:=hc
      have hz : putE R.t o.cl o.nm 0 = 0:=hi hc
      rw [if_pos hc2,if_pos ⟨hc,hz⟩]
      exact tab_put hT hz
    · have hc2 : ¬ isChg o.kd = true:=hc
      rw [if_neg hc2,if_neg (fun f => hc f.1)]; exact hT
  refine vcStart_l R T I Q _ o K fun f => ⟨R.v.mem,R.v.joi,rfl,rfl,h5,hI.b,rfl,⟨by simp [SameL]⟩,fun e => ?_,fun e => ⟨fun e2 => ?_,fun e2 => ⟨fun e3 => ?_,fun e3 => ⟨?_,?_⟩⟩⟩⟩
  · exact fin (startR_bad (by rw [hrti]; simpa using e)) hkb
  · exact fin (startR_nr (by rw [hrti]; simpa using e) (by rw [hready]; simpa using e2)) hkb
  · exact fin (startR_busy (by rw [hrti]; simpa using e) hl (by rw [hready]; simpa using e2) (by simpa [busyR,curR,hl] using e3)) hkb
  all_goals
    have hcur : L.cur = none:=by simpa using e3
    have hbusy : busyR R = false:=by simp [busyR,curR,hl,hcur]
    have hrt : rtOp o = true:=by rw [hrti]; simpa using e
    have hre : readyR R = true:=by rw [hready]; simpa using e2
  · refine ⟨fun hc f => ⟨rfl,⟨hdl⟩,R.t,hT,fun h1 => ⟨⟨by simp [SameL]⟩,fun _ => ?_,fun e => (by cases e)⟩,fun h1 => ⟨⟨by simp [SameL]⟩,fun _ => ?_,fun e => (by cases e)⟩,fun h1 => ⟨fun hz => ⟨⟨by simp [SameL]⟩,fun _ => ?_,fun e => (by cases e)⟩,fun hz => ⟨⟨by simp [SameL]⟩,fun e => (by cases e),fun _ => ?_⟩⟩⟩,fun hc => ?_⟩
    · have hk1 : knownR R o = some (0,{ R with done:=R.done ++ [⟨o,chkE R.t o.cl o.nm,[]⟩] }):=by unfold knownR tabR; rw [if_pos h1.h]
      refine fin (startR_kn hrt hl hre hbusy hc hk1) ?_
      unfold RepKB
      simp only [hl]
      refine ⟨I,Q,T,hI,hQ,hT,?_⟩
      simp [cR,dnD,opD,dn,ints]
    · have hk1 : knownR R o = some (13,R):=by unfold knownR tabR; rw [if_neg (by rw [h1.h]; decide),if_pos h1.h]
      exact fin (startR_kn hrt hl hre hbusy hc hk1) hkb
    · have hk1 : knownR R o = some (putE R.t o.cl o.nm 0,R):=by unfold knownR tabR; rw [if_neg (by rw [h1.h]; decide),if_neg (by rw [h1.h]; decide),if_neg hz.h]
      exact fin (startR_kn hrt hl hre hbusy hc hk1) hkb
    · exact At.mk' ⟨(),fun _ => hz.h⟩ rfl
    · exact At.mk' ⟨(),fun f => absurd (f.symm.trans hc) (by decide)⟩ rfl
  · have hrt' : rightO o.cl o.nm o.kd o.bk o.b.length = true:=hrt
    rintro ⟨_,hi⟩
    have hkn : chgOp o = true→knownR R o = none:=fun hc => by
      have h2:=hi hc
      unfold knownR; rw [if_neg (fun e => putE_chk h2 (.inl e)),if_neg (fun e => putE_chk h2 (.inr e)),if_pos h2]
    refine ⟨⟨by rw [ints_len]; omega⟩,fun f => ?_,fun _ f => ⟨R.v.mem,R.v.joi,rfl,rfl,h5,⟨by simp [SameL]⟩,At.mk' ⟨0,Nat.zero_le _⟩ ?_,?_⟩⟩
    · refine ⟨R.c,o.b,R.t,hcnt,rfl,hT,hnu,⟨hrt'⟩,fun hc => ⟨⟨by simp [SameL]⟩,At.mk' () ?_⟩,fun hc => ⟨fun hz => ?_,fun hz => ⟨⟨by simp [SameL]⟩,At.mk' () ?_⟩⟩⟩
      · simp only [tNext,hc.h]; rfl
      · exact absurd (hi hc.h) hz.h
      · simp only [tNext,hc.h]; rfl
    · simp [oths,handsD,opD,dn]
    · rintro ⟨i,hile⟩
      refine ⟨fun hlt => ?_,fun hlt => ?_⟩
      · have hlt : i < (oths R).length:=by simpa using hlt
        have hz : i < (othZ R.me R.v.mem R.v.joi).length:=by rw [othZ_len]; exact Nat.lt_of_lt_of_le hlt (othA_len _ _ _)
        have hget : (othZ R.me R.v.mem R.v.joi)[i]? = (oths R)[i]?:=by
          have:=oth_take R.me R.v.mem R.v.joi
          have h2 : (oths R)[i]? = ((othZ R.me R.v.mem R.v.joi).take (oths R).length)[i]?:=by rw [show oths R = othA R.me R.v.mem R.v.joi from rfl,this]
          rw [h2,List.getElem?_take_of_lt hlt]
        refine ⟨inB_of (by simpa using hlt),[dn .i64 (oths R)[i]],?_,(oths R)[i],rfl,fun f => ⟨?_,⟨?_⟩,_,o,hcnt2 hrt,rfl,⟨by simp [SameL]⟩,Nx.mk' ⟨i + 1,hlt⟩ ?_ ?_⟩⟩
        · simp only [Int.toNat_natCast,Nat.zero_add]
          rw [ints_getElem?,hget,List.getElem?_eq_getElem hlt]; rfl
        · simp [handsD]; omega
        · simp; omega
        · have w:=w64 (n:=(i : Int) + 1) (by omega) (by omega)
          simp only [w]
          have eh : handsD ((oths R).take (i + 1)) R o = handsD ((oths R).take i) R o ++ [haP (oths R)[i] R.id R.ep (R.nu + 1) (doC R.c o.kd o.bk o.b) o]:=by
            unfold handsD
            rw [List.take_add_one,List.getElem?_eq_getElem hlt,List.map_append]; rfl
          simp [eh,haP,pst,dn,ints,opD]
          omega
        · show (oths R).length - (i + 1) < (oths R).length - i
          omega
      · have hi2 : i = (oths R).length:=by
          have : ¬ i < (oths R).length:=by simpa using hlt
          omega
        subst hi2
        refine fun f => ⟨rfl,⟨hdl⟩,R.v.mem,R.v.joi,_,o,hcnt2 hrt,rfl,rfl,h5,mb_nil.b,rfl,rt_okI ⟨hrt'⟩,fun e1 => ⟨⟨by simp [SameL]⟩,?_⟩,fun e1 => ⟨⟨by simp [SameL]⟩,?_⟩⟩
        · have hne : oths R ≠ []:=fun hh => by
            rw [all_allI mb_nil] at e1
            have : othA R.me R.v.mem R.v.joi = []:=hh
            rw [this] at e1; simp at e1
          refine fin (startR_go hrt hl hre hbusy hkn) ?_
          rw [beginR_wait hne]
          unfold RepKB
          refine ⟨I,[],_,hI,mb_nil,htn hi,?_⟩
          simp [cR,cS,handsD,handP,haP,postD,msgD,pst,doR,dn,ints,opD,Function.comp_def]
        · have hne : oths R = []:=by
            rw [all_allI mb_nil] at e1
            cases hh : oths R with
            | nil => rfl
            | cons a l =>
              have : othA R.me R.v.mem R.v.joi = a :: l:=hh
              rw [this] at e1; simp at e1
          refine fin (startR_go hrt hl hre hbusy hkn) ?_
          rw [beginR_alone hne]
          unfold RepKB
          refine ⟨I,[],_,hI,mb_nil,htn hi,?_⟩
          simp [cR,cS,hne,handsD,dnD,opD,finX_rd,dn]
theorem stS_ok : AllOk Try.prog stS:=fun f k h => by
  unfold stS at h
  split at h
  · cases h; exact hideIn_ok okLeads _
  · cases h; exact okIsRight
  · cases h; exact okIsChange
  · cases h; exact hideIn_ok okKnown _
  · cases h; exact okClB
  · cases h; exact hideIn_ok okDo _
  · cases h; exact hideIn_ok okOthers _
  · cases h; exact hideIn_ok okHand _
  · cases h; exact hideIn_ok okFinish _
  · cases h
theorem XSt_ok : CallOk Try.prog XSt:=callS_ok mixed stS_ok noT 10
theorem stS0_ok : AllOk Try.prog stS0:=fun f k h => by
  unfold stS0 at h
  split at h
  · cases h; exact hideIn_ok okLeads _
  · exact stS_ok _ _ h
theorem XSt0_ok : CallOk Try.prog XSt0:=callS_ok mixed stS0_ok noT 10
def Mstart : FSpec:=fun args kb K => ∃ R o,args = [.ptr 0 0,.agg [.int .i64 o.cl,.int .i64 o.nm,.int .i64 o.kd,.int .i64 o.bk,.dat (.sl 1 (ints .u8 o.b))]]∧RepKB R kb∧RepOk R∧R.out.length + (oths R).length ≤ 100000∧Byt o.b∧o.b.length ≤ 100000∧∀ kb',RepKB (startR R o).2 kb'→K (.int .i64 (startR R o).1) kb'
theorem okStart : MethOk Try.prog 11 Mstart:=methOk_run1 mixed (fun args kb K h => by
  obtain ⟨R,o,rfl,hkb,hR,hroom,hBy,hB,hK⟩:=h
  have hkb0:=hkb
  unfold RepKB at hkb
  split at hkb
  · rename_i hl
    obtain ⟨a14,a15,T,hT,e⟩:=hkb
    exact ⟨_,_,XSt0_ok,e ▸ start_n R T a14 a15 o hl hB hkb0 e K hK⟩
  · rename_i L hl
    obtain ⟨I,Q,T,hI,hQ,hT,e⟩:=hkb
    exact ⟨_,_,XSt_ok,e ▸ start_l R o L T I Q hT hl hI hQ hR hroom hBy hB hkb0 e K hK⟩)
end Go.Proofs.Ytfcjngcnifdmnaa
namespace Go.Proofs.Ytfcjngcnifdmnaa
open Vc Go
set_option linter.unusedVariables false
set_option linter.unusedSimpArgs false
set_option maxRecDepth 100000
def SclI : FSpec:=fun args kb K => match args,kb with
  | [.dat (.sl 1 B)],[] => LenR B.length∧K (.dat (.sl 1 B)) []
  | _,_ => False
def msLd : List Bool:=[false,false,false,false,false,false,false,false,false,false,false,false,false,false,true,true]
def firstV (R : Rep) (w : Vw) : Bool:=match w.mem with | a :: _ => a == R.me | [] => false
def viewGo (R : Rep) (w : Vw) : Bool:=decide (w.vi = R.id∧R.v.ve ≤ w.ve∧R.ep ≤ w.ve∧1 ≤ w.ve) && !(w.ve == R.v.ve && (leadsR R || !firstV R w))
def leadGo (R : Rep) (w : Vw) : Bool:=firstV R w && !R.lo && !(R.ep == 0 && R.bl)
def viewR (R : Rep) (w : Vw) : Rep :=
  if viewGo R w = false then R else
    let R1 : Rep:={ yieldR R with v:=w }
    if leadGo R w = false then R1 else
      let R2 : Rep:={ R1 with ep:=w.ve,ch:=R.ch || (R.ep != w.ve),ld:=some ⟨fun _ => false,fun _ => false,none⟩ }
      (oths R2).foldl stateR R2
def statesD (l : List Int) (R : Rep) (w : Vw) : List (List D):=l.map fun to => stP to R.id w.ve R.nu R.c R.t
abbrev yD (R : Rep) : List (List D):=R.done.map dnD ++ yl (curR R)
abbrev vw02_n (R : Rep) (T : ML) (a14 a15 : Value) (w : Vw) : LI where
  α:=Unit
  live:=[0,3,4]
  st _:=([.ptr 0 0,.ptr 3 0,.sb (firstV R w)],[cR R (tbV T) (.sb false) (.any a14) (.any a15) (.ipo none) (.sl 1 0 (nO R)) (.sl 2 0 (nD R)),rO R,rD R,vwC w])
  μ _:=0
abbrev vw04_n (R : Rep) (T : ML) (a14 a15 : Value) (w : Vw) : LI where
  α:={_u : Unit // viewGo R w = true}
  live:=[0,3,4]
  st _:=([.ptr 0 0,.ptr 3 0,.sb (firstV R w)],[cR R (tbV T) (.sb false) (.any a14) (.any a15) (.ipo none) (.sl 1 0 (nO R)) (.sl 2 0 (nD R)),rO R,rD R,vwC w])
  μ _:=0
abbrev vw07_n (R : Rep) (T : ML) (a14 a15 : Value) (w : Vw) : LI where
  α:={_u : Unit // viewGo R w = true}
  live:=[0,3,4]
  st _:=([.ptr 0 0,.ptr 4 0,.sb (firstV R w)],[cR R (tbV T) (.sb false) (.any a14) (.any a15) (.ipo none) (.sl 1 0 (nO R)) (.sl 3 0 (yD R).length),rO R,.dead,.row 46 7 (yD R),vwC w])
  μ _:=0
abbrev vw08_n (R : Rep) (T : ML) (a14 a15 : Value) (w : Vw) : LI where
  α:={_u : Unit // viewGo R w = true∧leadGo R w = true}
  live:=[0,3]
  st _:=([.ptr 0 0,.ptr 4 0],[cV R w (.int .i64 R.ep) (.sb R.ch) (tbV T) (.sb false) (.any a14) (.any a15) (.ipo none) (.sl 1 0 (nO R)) (.sl 3 0 (yD R).length),rO R,.dead,.row 46 7 (yD R),vwC w])
  μ _:=0
abbrev vw10_n (R : Rep) (T : ML) (a14 a15 : Value) (w : Vw) : LI where
  α:={_u : Unit // viewGo R w = true∧leadGo R w = true}
  live:=[0]
  st _:=([.ptr 0 0],[cV R w (.int .i64 w.ve) (.sb (R.ch || (R.ep != w.ve))) (tbV T) (.sb false) (.any a14) (.any a15) (.ipo none) (.sl 1 0 (nO R)) (.sl 3 0 (yD R).length),rO R,.dead,.row 46 7 (yD R)])
  μ _:=0
abbrev vw12_n (R : Rep) (T : ML) (a14 a15 : Value) (w : Vw) : LI where
  α:={i : Nat // i ≤ (othA R.me w.mem w.joi).length∧viewGo R w = true∧leadGo R w = true}
  live:=[0,135,136,137]
  nils:=[.mv 0 147]
  st i:=([.ptr 0 0,.sl 7 0 (othA R.me w.mem w.joi).length,.int .i64 ((othA R.me w.mem w.joi).length : Int),.int .i64 (i.1 : Int)],[cV R w (.int .i64 w.ve) (.sb (R.ch || (R.ep != w.ve))) (tbV T) (.sb true) (.mp 3) (.mp 4) (.ipo none) (.sl 5 0 ((nO R) + i.1)) (.sl 6 0 (yD R).length),.dead,.dead,mpF [],mpF [],.row 76 5 (R.out.map postD ++ statesD ((othA R.me w.mem w.joi).take i.1) R w),.row 46 7 (yD R),.row 3 1 (ints .i64 (othZ R.me w.mem w.joi))])
  μ i:=(othA R.me w.mem w.joi).length - i.1
def vwT_n (R : Rep) (T : ML) (a14 a15 : Value) (w : Vw) : Nat→Option LI
  | 1002 => some (vw02_n R T a14 a15 w)
  | 1004 => some (vw04_n R T a14 a15 w)
  | 1006 => some (vw07_n R T a14 a15 w)
  | 1008 => some (vw08_n R T a14 a15 w)
  | 1010 => some (vw10_n R T a14 a15 w)
  | 12 => some (vw12_n R T a14 a15 w)
  | _ => none
abbrev vw02_l (R : Rep) (T : ML) (I Q : ML) (u : Option (List D)) (w : Vw) : LI where
  α:=Unit
  live:=[0,3,4]
  st _:=([.ptr 0 0,.ptr 5 0,.sb (firstV R w)],[cR R (tbV T) (.sb true) (.mp 1) (.mp 2) (.ipo u) (.sl 3 0 (nO R)) (.sl 4 0 (nD R)),mpF I,mpF Q,rO R,rD R,vwC w])
  μ _:=0
abbrev vw04_l (R : Rep) (T : ML) (I Q : ML) (u : Option (List D)) (w : Vw) : LI where
  α:={_u : Unit // viewGo R w = true}
  live:=[0,3,4]
  st _:=([.ptr 0 0,.ptr 5 0,.sb (firstV R w)],[cR R (tbV T) (.sb true) (.mp 1) (.mp 2) (.ipo u) (.sl 3 0 (nO R)) (.sl 4 0 (nD R)),mpF I,mpF Q,rO R,rD R,vwC w])
  μ _:=0
abbrev vw07_l (R : Rep) (T : ML) (I Q : ML) (u : Option (List D)) (w : Vw) : LI where
  α:={_u : Unit // viewGo R w = true}
  live:=[0,3,4]
  st _:=([.ptr 0 0,.ptr 6 0,.sb (firstV R w)],[cR R (tbV T) (.sb false) (.mp 1) (.mp 2) (.ipo none) (.sl 3 0 (nO R)) (.sl 5 0 (yD R).length),mpF I,mpF Q,rO R,.dead,.row 46 7 (yD R),vwC w])
  μ _:=0
abbrev vw08_l (R : Rep) (T : ML) (I Q : ML) (u : Option (List D)) (w : Vw) : LI where
  α:={_u : Unit // viewGo R w = true∧leadGo R w = true}
  live:=[0,3]
  st _:=([.ptr 0 0,.ptr 6 0],[cV R w (.int .i64 R.ep) (.sb R.ch) (tbV T) (.sb false) (.mp 1) (.mp 2) (.ipo none) (.sl 3 0 (nO R)) (.sl 5 0 (yD R).length),mpF I,mpF Q,rO R,.dead,.row 46 7 (yD R),vwC w])
  μ _:=0
abbrev vw10_l (R : Rep) (T : ML) (I Q : ML) (u : Option (List D)) (w : Vw) : LI where
  α:={_u : Unit // viewGo R w = true∧leadGo R w = true}
  live:=[0]
  st _:=([.ptr 0 0],[cV R w (.int .i64 w.ve) (.sb (R.ch || (R.ep != w.ve))) (tbV T) (.sb false) (.mp 1) (.mp 2) (.ipo none) (.sl 3 0 (nO R)) (.sl 5 0 (yD R).length),mpF I,mpF Q,rO R,.dead,.row 46 7 (yD R)])
  μ _:=0
abbrev vw12_l (R : Rep) (T : ML) (I Q : ML) (u : Option (List D)) (w : Vw) : LI where
  α:={i : Nat // i ≤ (othA R.me w.mem w.joi).length∧viewGo R w = true∧leadGo R w = true}
  live:=[0,135,136,137]
  nils:=[.mv 0 147]
  st i:=([.ptr 0 0,.sl 9 0 (othA R.me w.mem w.joi).length,.int .i64 ((othA R.me w.mem w.joi).length : Int),.int .i64 (i.1 : Int)],[cV R w (.int .i64 w.ve) (.sb (R.ch || (R.ep != w.ve))) (tbV T) (.sb true) (.mp 5) (.mp 6) (.ipo none) (.sl 7 0 ((nO R) + i.1)) (.sl 8 0 (yD R).length),mpF I,mpF Q,.dead,.dead,mpF [],mpF [],.row 76 5 (R.out.map postD ++ statesD ((othA R.me w.mem w.joi).take i.1) R w),.row 46 7 (yD R),.row 3 1 (ints .i64 (othZ R.me w.mem w.joi))])
  μ i:=(othA R.me w.mem w.joi).length - i.1
def vwT_l (R : Rep) (T : ML) (I Q : ML) (u : Option (List D)) (w : Vw) : Nat→Option LI
  | 1002 => some (vw02_l R T I Q u w)
  | 1004 => some (vw04_l R T I Q u w)
  | 1006 => some (vw07_l R T I Q u w)
  | 1008 => some (vw08_l R T I Q u w)
  | 1010 => some (vw10_l R T I Q u w)
  | 12 => some (vw12_l R T I Q u w)
  | _ => none
def vwS : FuncId→Option Known
  | 21 => some ⟨[],hideIn [true,true,true,true,true,true,false,true,true,true,true,true,true,false,true,true,false,true,true,true,true,false] Syield⟩
  | 22 => some ⟨[],SclI⟩
  | 23 => some ⟨[],hideIn [false,true,true,true,true,true,false,true,true,true,true,false,false,true,true,true,true,true,true,true,true,true] Sothers⟩
  | 24 => some ⟨[],hideIn [true,false,true,true,false,false,false,false,true,true,true,true,true,true,true,true,true,true,true,true,false,true] Sstate⟩
  | _ => none
noncomputable def XVw : CallT:=callS Try.prog vwS noT 10
theorem vcClI (B : List (List D)) (K : V→KB→Prop) (hvc_ :
 ∀ (y1 : Bool),(y1 = true →
 B.length = 0) →
 (y1 = true →
 K (V.dat (D.sl 1 [])) []) ∧
 (y1 = false →
 True ∧
 0 ≤ 0 ∧
 (0 + B.length) * 8 ≤ 140737488355328 ∧
 0 + B.length ≤ ([] ++ B).length ∧
 K (V.dat (D.sl 1 (List.drop 0 (List.take (0 + B.length) ([] ++ B))))) [])
 ) : runSpec Try.prog X0 (noT 22) 22 [.dat (.sl 1 B)] [] (gvRes [.give 1] (tidyRes 0 K)):=by apply Eq.mp (a:=hvc_); kernel_rfl
theorem vcView_n (R : Rep) (T : ML) (a14 a15 : Value) (w : Vw) (K : V→KB→Prop) (hvc_ :
 let z1_ : KB:=[cR R (tbV T) (V.sb false) (V.any a14) (V.any a15) (V.ipo none) (V.sl 1 0 (nO R)) (V.sl 2 0 (nD R)),rO R,rD R,vwC w]; let z2_:=cV R w (V.int IntKind.i64 R.ep) (V.sb R.ch) (tbV T) (V.sb false) (V.any a14) (V.any a15) (V.ipo none) (V.sl 1 0 (nO R)) (V.sl 3 0 (yD R).length); ((decide ((↑(ints IntKind.i64 w.mem).length : Int) > 0) = true →
 NonN 0 ∧
 ∃ (y1 : List D),(ints IntKind.i64 w.mem)[0]? = some y1 ∧
 ∃ (y2 : Int),y1[0]? = some (D.val (Value.int IntKind.i64 y2)) ∧
 At (vw02_n R T a14 a15 w) ([V.ptr 0 0,V.ptr 3 0,V.sb (y2 == R.me)],z1_)) ∧
 (decide ((↑(ints IntKind.i64 w.mem).length : Int) > 0) = false →
 At (vw02_n R T a14 a15 w) ([V.ptr 0 0,V.ptr 3 0,V.sb false],z1_))) ∧
 ∀ (y3 : Unit),(((w.vi != R.id) = true →
 ∀ (y4 : Nat →
 Value),K (V.tup []) [cR R (tbV T) (V.sb false) (V.any (y4 14)) (V.any (y4 15)) (V.ipo none) (V.sl 1 0 (nO R)) (V.sl 2 0 (nD R)),rO R,rD R]) ∧
 ((w.vi != R.id) = false →
 (decide (w.ve < R.v.ve) = true →
 ∀ (y5 : Nat →
 Value),K (V.tup []) [cR R (tbV T) (V.sb false) (V.any (y5 14)) (V.any (y5 15)) (V.ipo none) (V.sl 1 0 (nO R)) (V.sl 2 0 (nD R)),rO R,rD R]) ∧
 (decide (w.ve < R.v.ve) = false →
 (decide (w.ve < R.ep) = true →
 ∀ (y6 : Nat →
 Value),K (V.tup []) [cR R (tbV T) (V.sb false) (V.any (y6 14)) (V.any (y6 15)) (V.ipo none) (V.sl 1 0 (nO R)) (V.sl 2 0 (nD R)),rO R,rD R]) ∧
 (decide (w.ve < R.ep) = false →
 (decide (w.ve < 1) = true →
 ∀ (y7 : Nat →
 Value),K (V.tup []) [cR R (tbV T) (V.sb false) (V.any (y7 14)) (V.any (y7 15)) (V.ipo none) (V.sl 1 0 (nO R)) (V.sl 2 0 (nD R)),rO R,rD R]) ∧
 (decide (w.ve < 1) = false →
 ((w.ve == R.v.ve) = true →
 (false = true →
 ∀ (y8 : Nat →
 Value),K (V.tup []) [cR R (tbV T) (V.sb false) (V.any (y8 14)) (V.any (y8 15)) (V.ipo none) (V.sl 1 0 (nO R)) (V.sl 2 0 (nD R)),rO R,rD R]) ∧
 (false = false →
 ((!firstV R w) = true →
 ∀ (y9 : Nat →
 Value),K (V.tup []) [cR R (tbV T) (V.sb false) (V.any (y9 14)) (V.any (y9 15)) (V.ipo none) (V.sl 1 0 (nO R)) (V.sl 2 0 (nD R)),rO R,rD R]) ∧
 ((!firstV R w) = false →
 At (vw04_n R T a14 a15 w) ([V.ptr 0 0,V.ptr 3 0,V.sb (firstV R w)],z1_)))) ∧
 ((w.ve == R.v.ve) = false →
 At (vw04_n R T a14 a15 w) ([V.ptr 0 0,V.ptr 3 0,V.sb (firstV R w)],z1_))))))) ∧
 ∀ (y11 : { y10 : Unit // viewGo R w = true}) (y12 : Nat →
 Value),nD R = (nD R) ∧
 LenR (nD R) ∧
 ∃ (y13 : Option Op),none = Option.map opD y13 ∧
 SmF y12 [0,1,2,3,4,5,7,8,9,10,11,12,14,15,17,18,19,20] ∧
 ((LenR (ints IntKind.i64 w.mem).length ∧
 LenR (ints IntKind.i64 w.joi).length ∧
 At (vw07_n R T a14 a15 w) ([V.ptr 0 0,V.ptr 4 0,V.sb (firstV R w)],[cR R (tbV T) (V.sb false) (V.any a14) (V.any a15) (V.ipo none) (V.sl 1 0 (nO R)) (V.sl 3 0 (List.map dnD R.done ++ yl y13).length),rO R,KO.dead,KO.row 46 7 (List.map dnD R.done ++ yl y13),vwC w])) ∧
 LenR (ints IntKind.i64 w.mem).length ∧
 LenR (ints IntKind.i64 w.joi).length ∧
 At (vw07_n R T a14 a15 w) ([V.ptr 0 0,V.ptr 4 0,V.sb (firstV R w)],[cR R (tbV T) (V.sb false) (V.any a14) (V.any a15) (V.ipo none) (V.sl 1 0 (nO R)) (V.sl 3 0 (List.map dnD R.done ++ yl y13).length),rO R,KO.dead,KO.row 46 7 (List.map dnD R.done ++ yl y13),vwC w])) ∧
 ∀ (y15 : { y14 : Unit // viewGo R w = true}),(((!firstV R w) = true →
 ∀ (y16 : Nat →
 Value),K (V.tup []) [cV R w (V.int IntKind.i64 R.ep) (V.sb R.ch) (tbV T) (V.sb false) (V.any (y16 14)) (V.any (y16 15)) (V.ipo none) (V.sl 1 0 (nO R)) (V.sl 2 0 (yD R).length),rO R,KO.row 46 7 (yD R)]) ∧
 ((!firstV R w) = false →
 (R.lo = true →
 ∀ (y17 : Nat →
 Value),K (V.tup []) [cV R w (V.int IntKind.i64 R.ep) (V.sb R.ch) (tbV T) (V.sb false) (V.any (y17 14)) (V.any (y17 15)) (V.ipo none) (V.sl 1 0 (nO R)) (V.sl 2 0 (yD R).length),rO R,KO.row 46 7 (yD R)]) ∧
 (R.lo = false →
 ((R.ep == 0) = true →
 (R.bl = true →
 ∀ (y18 : Nat →
 Value),K (V.tup []) [cV R w (V.int IntKind.i64 R.ep) (V.sb R.ch) (tbV T) (V.sb false) (V.any (y18 14)) (V.any (y18 15)) (V.ipo none) (V.sl 1 0 (nO R)) (V.sl 2 0 (yD R).length),rO R,KO.row 46 7 (yD R)]) ∧
 (R.bl = false →
 At (vw08_n R T a14 a15 w) ([V.ptr 0 0,V.ptr 4 0],[z2_,rO R,KO.dead,KO.row 46 7 (yD R),vwC w]))) ∧
 ((R.ep == 0) = false →
 At (vw08_n R T a14 a15 w) ([V.ptr 0 0,V.ptr 4 0],[z2_,rO R,KO.dead,KO.row 46 7 (yD R),vwC w]))))) ∧
 ∀ (y20 : { y19 : Unit // viewGo R w = true ∧
 leadGo R w = true}),(((R.ep != w.ve) = true →
 At (vw10_n R T a14 a15 w) ([V.ptr 0 0],[cV R w (V.int IntKind.i64 w.ve) (V.sb true) (tbV T) (V.sb false) (V.any a14) (V.any a15) (V.ipo none) (V.sl 1 0 (nO R)) (V.sl 3 0 (yD R).length),rO R,KO.dead,KO.row 46 7 (yD R)])) ∧
 ((R.ep != w.ve) = false →
 At (vw10_n R T a14 a15 w) ([V.ptr 0 0],[z2_,rO R,KO.dead,KO.row 46 7 (yD R)]))) ∧
 ∀ (y22 : { y21 : Unit // viewGo R w = true ∧
 leadGo R w = true}) (y23 : Nat →
 Value),∃ (y24 : List Int),∃ (y25 : List Int),ints IntKind.i64 w.mem = ints IntKind.i64 y24 ∧
 ints IntKind.i64 w.joi = ints IntKind.i64 y25 ∧
 Len5 (y24.length + y25.length) ∧
 SmF y23 [1,2,3,4,5,7,8,9,10,13,14,15,16,17,18,19,20,21] ∧
 At (vw12_n R T a14 a15 w) ([V.ptr 0 0,V.sl 7 0 (othA R.me y24 y25).length,V.int IntKind.i64 (↑((othA R.me y24 y25).length - 0) : Int),V.int IntKind.i64 0],[cV R w (V.int IntKind.i64 w.ve) (V.sb (R.ch || R.ep != w.ve)) (tbV T) (V.sb true) (V.mp 3) (V.mp 4) (V.ipo none) (V.sl 5 0 (nO R)) (V.sl 6 0 (yD R).length),KO.dead,KO.dead,mpF [],mpF [],rO R,KO.row 46 7 (yD R),KO.row 3 1 (ints IntKind.i64 (othZ R.me y24 y25))]) ∧
 ∀ (y27 : { y26 : Nat // y26 ≤ (othA R.me w.mem w.joi).length ∧
 viewGo R w = true ∧
 leadGo R w = true}),(decide ((↑y27.val : Int) < (↑(othA R.me w.mem w.joi).length : Int)) = true →
 InB (↑y27.val : Int) ((othA R.me w.mem w.joi).length - 0) ∧
 ∃ (y28 : List D),(ints IntKind.i64 (othZ R.me w.mem w.joi))[0 + (↑y27.val : Int).toNat]? = some y28 ∧
 ∃ (y29 : Int),y28[0]? = some (D.val (Value.int IntKind.i64 y29)) ∧
 ∀ (y30 : Nat →
 Value),nO R + y27.val = (List.map postD R.out ++ statesD (List.take y27.val (othA R.me w.mem w.joi)) R w).length ∧
 LenR (nO R + y27.val) ∧
 ∃ (y31 : List Int),∃ (y32 : List L3),Cnt (dns IntKind.u8 R.c) y31 ∧
 Tab T y32 ∧
 SmF y30 [0,2,3,8,9,10,11,12,13,14,15,16,17,18,19,21] ∧
 Nx (vw12_n R T a14 a15 w) y27 ([V.ptr 0 0,V.sl 7 0 (othA R.me w.mem w.joi).length,V.int IntKind.i64 (↑(othA R.me w.mem w.joi).length : Int),V.int IntKind.i64 (IntKind.i64.wrap ((↑y27.val : Int) + 1))],[KO.cells [V.int IntKind.i64 R.me,V.int IntKind.i64 R.id,V.sb R.bl,V.sb R.lo,V.int IntKind.i64 w.ve,V.int IntKind.i64 R.nu,V.arr 128 (dns IntKind.u8 y31),tbV T,V.int IntKind.i64 w.vi,V.int IntKind.i64 w.vv,V.int IntKind.i64 w.ve,V.dat (D.sl 1 (ints IntKind.i64 w.mem)),V.dat (D.sl 1 (ints IntKind.i64 w.joi)),V.sb true,V.mp 3,V.mp 4,V.ipo none,V.int IntKind.i64 R.ce,V.sb (R.ch || R.ep != w.ve),V.int IntKind.i64 R.ti,V.sl 5 0 (nO R + y27.val + 1),V.sl 6 0 (yD R).length],KO.dead,KO.dead,mpF [],mpF [],KO.row 76 5 (List.map postD R.out ++ statesD (List.take y27.val (othA R.me w.mem w.joi)) R w ++ [[dn IntKind.i64 y29,D.val (Value.int IntKind.i64 10),D.sl 1 [[dn IntKind.i64 R.id],[dn IntKind.i64 w.ve],[dn IntKind.i64 R.nu]],D.sl 1 (ints IntKind.u8 (sealI y31)),D.sl 1 [[D.sl 1 (ints IntKind.u8 (tabW y32))]]]]),KO.row 46 7 (yD R),KO.row 3 1 (ints IntKind.i64 (othZ R.me w.mem w.joi))])) ∧
 (decide ((↑y27.val : Int) < (↑(othA R.me w.mem w.joi).length : Int)) = false →
 K (V.tup []) [cV R w (V.int IntKind.i64 w.ve) (V.sb (R.ch || R.ep != w.ve)) (tbV T) (V.sb true) (V.mp 1) (V.mp 2) (V.ipo none) (V.sl 3 0 (nO R + y27.val)) (V.sl 4 0 (yD R).length),mpF [],mpF [],KO.row 76 5 (List.map postD R.out ++ statesD (List.take y27.val (othA R.me w.mem w.joi)) R w),KO.row 46 7 (yD R)])
 ) : runSpec Try.prog XVw (vwT_n R T a14 a15 w) 8 [.ptr 0 0,.agg [.int .i64 w.vi,.int .i64 w.vv,.int .i64 w.ve,.dat (.sl 1 (ints .i64 w.mem)),.dat (.sl 1 (ints .i64 w.joi))]] [cR R (tbV T) (.sb false) (.any a14) (.any a15) (.ipo none) (.sl 1 0 (nO R)) (.sl 2 0 (nD R)),rO R,rD R] (rootH 13 msLd K):=by apply Eq.mp (a:=hvc_); kernel_rfl
theorem vcView_l (R : Rep) (T : ML) (I Q : ML) (u : Option (List D)) (w : Vw) (K : V→KB→Prop) (hvc_ :
 let z1_:=cR R (tbV T) (V.sb true) (V.mp 1) (V.mp 2) (V.ipo u) (V.sl 3 0 (nO R)) (V.sl 4 0 (nD R)); let z2_:=cV R w (V.int IntKind.i64 R.ep) (V.sb R.ch) (tbV T) (V.sb false) (V.mp 1) (V.mp 2) (V.ipo none) (V.sl 3 0 (nO R)) (V.sl 5 0 (yD R).length); let z3_ : KB:=[z2_,mpF I,mpF Q,rO R,KO.dead,KO.row 46 7 (yD R),vwC w]; ((decide ((↑(ints IntKind.i64 w.mem).length : Int) > 0) = true →
 NonN 0 ∧
 ∃ (y1 : List D),(ints IntKind.i64 w.mem)[0]? = some y1 ∧
 ∃ (y2 : Int),y1[0]? = some (D.val (Value.int IntKind.i64 y2)) ∧
 At (vw02_l R T I Q u w) ([V.ptr 0 0,V.ptr 5 0,V.sb (y2 == R.me)],[z1_,mpF I,mpF Q,rO R,rD R,vwC w])) ∧
 (decide ((↑(ints IntKind.i64 w.mem).length : Int) > 0) = false →
 At (vw02_l R T I Q u w) ([V.ptr 0 0,V.ptr 5 0,V.sb false],[z1_,mpF I,mpF Q,rO R,rD R,vwC w]))) ∧
 ∀ (y3 : Unit),(((w.vi != R.id) = true →
 K (V.tup []) [z1_,mpF I,mpF Q,rO R,rD R]) ∧
 ((w.vi != R.id) = false →
 (decide (w.ve < R.v.ve) = true →
 K (V.tup []) [z1_,mpF I,mpF Q,rO R,rD R]) ∧
 (decide (w.ve < R.v.ve) = false →
 (decide (w.ve < R.ep) = true →
 K (V.tup []) [z1_,mpF I,mpF Q,rO R,rD R]) ∧
 (decide (w.ve < R.ep) = false →
 (decide (w.ve < 1) = true →
 K (V.tup []) [z1_,mpF I,mpF Q,rO R,rD R]) ∧
 (decide (w.ve < 1) = false →
 ((w.ve == R.v.ve) = true →
 (true = true →
 K (V.tup []) [z1_,mpF I,mpF Q,rO R,rD R]) ∧
 (true = false →
 ((!firstV R w) = true →
 K (V.tup []) [z1_,mpF I,mpF Q,rO R,rD R]) ∧
 ((!firstV R w) = false →
 At (vw04_l R T I Q u w) ([V.ptr 0 0,V.ptr 5 0,V.sb (firstV R w)],[z1_,mpF I,mpF Q,rO R,rD R,vwC w])))) ∧
 ((w.ve == R.v.ve) = false →
 At (vw04_l R T I Q u w) ([V.ptr 0 0,V.ptr 5 0,V.sb (firstV R w)],[z1_,mpF I,mpF Q,rO R,rD R,vwC w]))))))) ∧
 ∀ (y5 : { y4 : Unit // viewGo R w = true}) (y6 : Nat →
 Value),nD R = (nD R) ∧
 LenR (nD R) ∧
 ∃ (y7 : Option Op),u = Option.map opD y7 ∧
 SmF y6 [0,1,2,3,4,5,7,8,9,10,11,12,14,15,17,18,19,20] ∧
 ((LenR (ints IntKind.i64 w.mem).length ∧
 LenR (ints IntKind.i64 w.joi).length ∧
 At (vw07_l R T I Q u w) ([V.ptr 0 0,V.ptr 6 0,V.sb (firstV R w)],[cR R (tbV T) (V.sb false) (V.mp 1) (V.mp 2) (V.ipo none) (V.sl 3 0 (nO R)) (V.sl 5 0 (List.map dnD R.done ++ yl y7).length),mpF I,mpF Q,rO R,KO.dead,KO.row 46 7 (List.map dnD R.done ++ yl y7),vwC w])) ∧
 LenR (ints IntKind.i64 w.mem).length ∧
 LenR (ints IntKind.i64 w.joi).length ∧
 At (vw07_l R T I Q u w) ([V.ptr 0 0,V.ptr 6 0,V.sb (firstV R w)],[cR R (tbV T) (V.sb false) (V.mp 1) (V.mp 2) (V.ipo none) (V.sl 3 0 (nO R)) (V.sl 5 0 (List.map dnD R.done ++ yl y7).length),mpF I,mpF Q,rO R,KO.dead,KO.row 46 7 (List.map dnD R.done ++ yl y7),vwC w])) ∧
 ∀ (y9 : { y8 : Unit // viewGo R w = true}),(((!firstV R w) = true →
 ∀ (y10 : Nat →
 Value),K (V.tup []) [cV R w (V.int IntKind.i64 R.ep) (V.sb R.ch) (tbV T) (V.sb false) (V.any (y10 14)) (V.any (y10 15)) (V.ipo none) (V.sl 1 0 (nO R)) (V.sl 2 0 (yD R).length),rO R,KO.row 46 7 (yD R)]) ∧
 ((!firstV R w) = false →
 (R.lo = true →
 ∀ (y11 : Nat →
 Value),K (V.tup []) [cV R w (V.int IntKind.i64 R.ep) (V.sb R.ch) (tbV T) (V.sb false) (V.any (y11 14)) (V.any (y11 15)) (V.ipo none) (V.sl 1 0 (nO R)) (V.sl 2 0 (yD R).length),rO R,KO.row 46 7 (yD R)]) ∧
 (R.lo = false →
 ((R.ep == 0) = true →
 (R.bl = true →
 ∀ (y12 : Nat →
 Value),K (V.tup []) [cV R w (V.int IntKind.i64 R.ep) (V.sb R.ch) (tbV T) (V.sb false) (V.any (y12 14)) (V.any (y12 15)) (V.ipo none) (V.sl 1 0 (nO R)) (V.sl 2 0 (yD R).length),rO R,KO.row 46 7 (yD R)]) ∧
 (R.bl = false →
 At (vw08_l R T I Q u w) ([V.ptr 0 0,V.ptr 6 0],z3_))) ∧
 ((R.ep == 0) = false →
 At (vw08_l R T I Q u w) ([V.ptr 0 0,V.ptr 6 0],z3_))))) ∧
 ∀ (y14 : { y13 : Unit // viewGo R w = true ∧
 leadGo R w = true}),(((R.ep != w.ve) = true →
 At (vw10_l R T I Q u w) ([V.ptr 0 0],[cV R w (V.int IntKind.i64 w.ve) (V.sb true) (tbV T) (V.sb false) (V.mp 1) (V.mp 2) (V.ipo none) (V.sl 3 0 (nO R)) (V.sl 5 0 (yD R).length),mpF I,mpF Q,rO R,KO.dead,KO.row 46 7 (yD R)])) ∧
 ((R.ep != w.ve) = false →
 At (vw10_l R T I Q u w) ([V.ptr 0 0],[z2_,mpF I,mpF Q,rO R,KO.dead,KO.row 46 7 (yD R)]))) ∧
 ∀ (y16 : { y15 : Unit // viewGo R w = true ∧
 leadGo R w = true}) (y17 : Nat →
 Value),∃ (y18 : List Int),∃ (y19 : List Int),ints IntKind.i64 w.mem = ints IntKind.i64 y18 ∧
 ints IntKind.i64 w.joi = ints IntKind.i64 y19 ∧
 Len5 (y18.length + y19.length) ∧
 SmF y17 [1,2,3,4,5,7,8,9,10,13,14,15,16,17,18,19,20,21] ∧
 At (vw12_l R T I Q u w) ([V.ptr 0 0,V.sl 9 0 (othA R.me y18 y19).length,V.int IntKind.i64 (↑((othA R.me y18 y19).length - 0) : Int),V.int IntKind.i64 0],[cV R w (V.int IntKind.i64 w.ve) (V.sb (R.ch || R.ep != w.ve)) (tbV T) (V.sb true) (V.mp 5) (V.mp 6) (V.ipo none) (V.sl 7 0 (nO R)) (V.sl 8 0 (yD R).length),mpF I,mpF Q,KO.dead,KO.dead,mpF [],mpF [],rO R,KO.row 46 7 (yD R),KO.row 3 1 (ints IntKind.i64 (othZ R.me y18 y19))]) ∧
 ∀ (y21 : { y20 : Nat // y20 ≤ (othA R.me w.mem w.joi).length ∧
 viewGo R w = true ∧
 leadGo R w = true}),(decide ((↑y21.val : Int) < (↑(othA R.me w.mem w.joi).length : Int)) = true →
 InB (↑y21.val : Int) ((othA R.me w.mem w.joi).length - 0) ∧
 ∃ (y22 : List D),(ints IntKind.i64 (othZ R.me w.mem w.joi))[0 + (↑y21.val : Int).toNat]? = some y22 ∧
 ∃ (y23 : Int),y22[0]? = some (D.val (Value.int IntKind.i64 y23)) ∧
 ∀ (y24 : Nat →
 Value),nO R + y21.val = (List.map postD R.out ++ statesD (List.take y21.val (othA R.me w.mem w.joi)) R w).length ∧
 LenR (nO R + y21.val) ∧
 ∃ (y25 : List Int),∃ (y26 : List L3),Cnt (dns IntKind.u8 R.c) y25 ∧
 Tab T y26 ∧
 SmF y24 [0,2,3,8,9,10,11,12,13,14,15,16,17,18,19,21] ∧
 Nx (vw12_l R T I Q u w) y21 ([V.ptr 0 0,V.sl 9 0 (othA R.me w.mem w.joi).length,V.int IntKind.i64 (↑(othA R.me w.mem w.joi).length : Int),V.int IntKind.i64 (IntKind.i64.wrap ((↑y21.val : Int) + 1))],[KO.cells [V.int IntKind.i64 R.me,V.int IntKind.i64 R.id,V.sb R.bl,V.sb R.lo,V.int IntKind.i64 w.ve,V.int IntKind.i64 R.nu,V.arr 128 (dns IntKind.u8 y25),tbV T,V.int IntKind.i64 w.vi,V.int IntKind.i64 w.vv,V.int IntKind.i64 w.ve,V.dat (D.sl 1 (ints IntKind.i64 w.mem)),V.dat (D.sl 1 (ints IntKind.i64 w.joi)),V.sb true,V.mp 5,V.mp 6,V.ipo none,V.int IntKind.i64 R.ce,V.sb (R.ch || R.ep != w.ve),V.int IntKind.i64 R.ti,V.sl 7 0 (nO R + y21.val + 1),V.sl 8 0 (yD R).length],mpF I,mpF Q,KO.dead,KO.dead,mpF [],mpF [],KO.row 76 5 (List.map postD R.out ++ statesD (List.take y21.val (othA R.me w.mem w.joi)) R w ++ [[dn IntKind.i64 y23,D.val (Value.int IntKind.i64 10),D.sl 1 [[dn IntKind.i64 R.id],[dn IntKind.i64 w.ve],[dn IntKind.i64 R.nu]],D.sl 1 (ints IntKind.u8 (sealI y25)),D.sl 1 [[D.sl 1 (ints IntKind.u8 (tabW y26))]]]]),KO.row 46 7 (yD R),KO.row 3 1 (ints IntKind.i64 (othZ R.me w.mem w.joi))])) ∧
 (decide ((↑y21.val : Int) < (↑(othA R.me w.mem w.joi).length : Int)) = false →
 K (V.tup []) [cV R w (V.int IntKind.i64 w.ve) (V.sb (R.ch || R.ep != w.ve)) (tbV T) (V.sb true) (V.mp 1) (V.mp 2) (V.ipo none) (V.sl 3 0 (nO R + y21.val)) (V.sl 4 0 (yD R).length),mpF [],mpF [],KO.row 76 5 (List.map postD R.out ++ statesD (List.take y21.val (othA R.me w.mem w.joi)) R w),KO.row 46 7 (yD R)])
 ) : runSpec Try.prog XVw (vwT_l R T I Q u w) 8 [.ptr 0 0,.agg [.int .i64 w.vi,.int .i64 w.vv,.int .i64 w.ve,.dat (.sl 1 (ints .i64 w.mem)),.dat (.sl 1 (ints .i64 w.joi))]] [cR R (tbV T) (.sb true) (.mp 1) (.mp 2) (.ipo u) (.sl 3 0 (nO R)) (.sl 4 0 (nD R)),mpF I,mpF Q,rO R,rD R] (rootH 13 msLd K):=by apply Eq.mp (a:=hvc_); kernel_rfl
theorem okClI : SpecOk Try.prog 22 SclI:=specOk_gv X0_ok mixed [.give 1] (fun args kb K h => by
  unfold SclI at h; split at h <;> try exact h.elim
  rename_i B
  obtain ⟨⟨hn⟩,h⟩:=h
  refine ⟨_,vcClI B K fun b hb => ⟨fun e => ?_,fun _ => ⟨trivial,Nat.le_refl _,by omega,by simp,?_⟩⟩⟩
  · have:=List.eq_nil_of_length_eq_zero (hb e)
    rw [this] at h; exact h
  · simpa using h)
theorem ints_nil {k : IntKind} : ints k [] = []:=rfl
theorem viewR_no {R : Rep} {w : Vw} (h : viewGo R w = false) : viewR R w = R:=by unfold viewR; rw [if_pos h]
theorem viewR_quiet {R : Rep} {w : Vw} (h : viewGo R w = true) (h2 : leadGo R w = false) : viewR R w = { yieldR R with v:=w }:=by
  unfold viewR; rw [if_neg (by simp [h])]; simp only [if_pos h2]
theorem viewR_lead {R : Rep} {w : Vw} (h : viewGo R w = true) (h2 : leadGo R w = true) : viewR R w = { R with v:=w,ep:=w.ve,ch:=R.ch || (R.ep != w.ve),ld:=some ⟨fun _ => false,fun _ => false,none⟩,done:=(yieldR R).done,out:=R.out ++ (othA R.me w.mem w.joi).map fun to => ⟨to,⟨10,[R.id,w.ve,R.nu],sealI R.c,[tabW (tabR R)]⟩⟩ }:=by
  unfold viewR
  rw [if_neg (by simp [h])]
  simp only [h2,states_fold]
  rfl
theorem vwS_ok : AllOk Try.prog vwS:=fun f k h => by
  unfold vwS at h
  split at h
  · cases h; exact hideIn_ok okYield _
  · cases h; exact okClI
  · cases h; exact hideIn_ok okOthers _
  · cases h; exact hideIn_ok okState _
  · cases h
theorem XVw_ok : CallOk Try.prog XVw:=callS_ok mixed vwS_ok noT 10
theorem go_vi {R : Rep} {w : Vw} (h : w.vi ≠ R.id) : viewGo R w = false:=by simp [viewGo,h]
theorem go_ve {R : Rep} {w : Vw} (h : w.ve < R.v.ve∨w.ve < R.ep∨w.ve < 1) : viewGo R w = false:=by
  have : ¬ (w.vi = R.id∧R.v.ve ≤ w.ve∧R.ep ≤ w.ve∧1 ≤ w.ve):=by omega
  simp only [viewGo,decide_eq_false this,Bool.false_and]
theorem go_eq {R : Rep} {w : Vw} (h : w.ve = R.v.ve) (h2 : leadsR R = true∨firstV R w = false) : viewGo R w = false:=by
  rcases h2 with h2 | h2 <;> simp [viewGo,h,h2]
theorem go_yes {R : Rep} {w : Vw} (h1 : w.vi = R.id) (h2 : ¬ w.ve < R.v.ve) (h3 : ¬ w.ve < R.ep) (h4 : ¬ w.ve < 1) (h5 : w.ve = R.v.ve→leadsR R = false∧firstV R w = true) : viewGo R w = true:=by
  have : w.vi = R.id∧R.v.ve ≤ w.ve∧R.ep ≤ w.ve∧1 ≤ w.ve:=by omega
  simp only [viewGo,decide_eq_true this,Bool.true_and]
  by_cases e : w.ve = R.v.ve
  · obtain ⟨a,b⟩:=h5 e
    simp [a,b]
  · simp [e]
theorem yield_done (R : Rep) : List.map dnD (yieldR R).done = yD R:=by
  unfold yieldR yD
  cases curR R with
  | none => simp [yl]
  | some o => simp [yl,dnD,dnE,opD,dn,ints]
theorem oth_get {me : Int} {m j : List Int} {i : Nat} (hlt : i < (othA me m j).length) : (othZ me m j)[i]? = (othA me m j)[i]?:=by
  have h2 : (othA me m j)[i]? = ((othZ me m j).take (othA me m j).length)[i]?:=by rw [oth_take]
  rw [h2,List.getElem?_take_of_lt hlt]
theorem view_n (R : Rep) (T : ML) (a14 a15 : Value) (w : Vw) (hT : Tab T R.t) (hl : R.ld = none) (hR : RepOk R) (hw : w.mem.length + w.joi.length ≤ 1000) (hroom : R.out.length + (othA R.me w.mem w.joi).length ≤ 100000) (hkbA : ∀ a14 a15,RepKB R [cR R (tbV T) (.sb false) (.any a14) (.any a15) (.ipo none) (.sl 1 0 (nO R)) (.sl 2 0 (nD R)),rO R,rD R]) (K : V→KB→Prop) (hK : ∀ kb',RepKB (viewR R w) kb'→K (.tup []) kb') : runSpec Try.prog XVw (vwT_n R T a14 a15 w) 8 [.ptr 0 0,.agg [.int .i64 w.vi,.int .i64 w.vv,.int .i64 w.ve,.dat (.sl 1 (ints .i64 w.mem)),.dat (.sl 1 (ints .i64 w.joi))]] [cR R (tbV T) (.sb false) (.any a14) (.any a15) (.ipo none) (.sl 1 0 (nO R)) (.sl 2 0 (nD R)),rO R,rD R] (rootH 13 msLd K):=by
  have fin : ∀ {R' : Rep} {kb' : KB},viewR R w = R'→RepKB R' kb'→K (.tup []) kb':=fun {R' kb'} h1 h2 => by
    have:=hK kb'
    rw [h1] at this
    exact this h2
  have h5 : Len5 (w.mem.length + w.joi.length):=⟨by omega⟩
  have hdl : (List.map dnD R.done).length ≤ 1000000:=by rw [List.length_map]; have:=hR.dl; omega
  have hlead : leadsR R = false:=by simp [leadsR,hl]
  have hcq : none = (curR R).map opD:=by simp [curR,hl]
  have hlm : w.mem.length ≤ 1000000:=by omega
  have hlj : w.joi.length ≤ 1000000:=by omega
  refine vcView_n R T a14 a15 w K ⟨⟨fun _ => ?_,fun e0 => At.mk' () ?_⟩,fun _ => ⟨⟨fun e1 => fun f => fin (viewR_no (go_vi (by simpa using e1))) (hkbA _ _),fun e1 => ⟨fun e2 => fun f => fin (viewR_no (go_ve (.inl (by simpa using e2)))) (hkbA _ _),fun e2 => ⟨fun e3 => fun f => fin (viewR_no (go_ve (.inr (.inl (by simpa using e3))))) (hkbA _ _),fun e3 => ⟨fun e4 => fun f => fin (viewR_no (go_ve (.inr (.inr (by simpa using e4))))) (hkbA _ _),fun e4 => ⟨fun e5 => ⟨fun f => (by cases f),fun _ => ⟨fun e6 => fun f => fin (viewR_no (go_eq (by simpa using e5) (.inr (by simpa using e6)))) (hkbA _ _),fun e6 => At.mk' ⟨(),go_yes (by simpa using e1) (by simpa using e2) (by simpa using e3) (by simpa using e4) (fun _ => ⟨hlead,by simpa using e6⟩)⟩ rfl⟩⟩,fun e5 => At.mk' ⟨(),go_yes (by simpa using e1) (by simpa using e2) (by simpa using e3) (by simpa using e4) (fun h => absurd h (by simpa using e5))⟩ rfl⟩⟩⟩⟩⟩,fun hgo f => ⟨rfl,⟨hdl⟩,curR R,hcq,⟨by simp [SameL]⟩,⟨⟨⟨by rw [ints_len]; exact hlm⟩,⟨by rw [ints_len]; exact hlj⟩,At.mk' hgo rfl⟩,⟨by rw [ints_len]; exact hlm⟩,⟨by rw [ints_len]; exact hlj⟩,At.mk' hgo rfl⟩,fun hgo => ⟨?_,fun hg2 => ⟨⟨fun e1 => At.mk' ⟨(),hg2.2⟩ ?_,fun e1 => At.mk' ⟨(),hg2.2⟩ ?_⟩,fun _ f => ⟨w.mem,w.joi,rfl,rfl,h5,⟨by simp [SameL]⟩,At.mk' ⟨0,Nat.zero_le _,hg2.2⟩ ?_,?_⟩⟩⟩⟩⟩⟩
  · cases hm : w.mem with
    | nil => rename_i e0; rw [hm] at e0; simp [ints] at e0
    | cons b l =>
      refine ⟨Int.le_refl _,[dn .i64 b],by simp [ints,dn],b,rfl,At.mk' () ?_⟩
      have : firstV R w = (b == R.me):=by simp [firstV,hm]
      simp only [this,hm]
  · have : w.mem = []:=by
      cases hm : w.mem with
      | nil => rfl
      | cons b l => rw [hm] at e0; simp [ints] at e0
    have h2 : firstV R w = false:=by simp [firstV,this]
    simp only [h2]
  · have qui : leadGo R w = false→∀ f : Nat→Value,K (.tup []) [cV R w (.int .i64 R.ep) (.sb R.ch) (tbV T) (.sb false) (.any (f 14)) (.any (f 15)) (.ipo none) (.sl 1 0 (nO R)) (.sl 2 0 (yD R).length),rO R,.row 46 7 (yD R)]:=fun h f => fin (viewR_quiet hgo.2 h) (by
      unfold RepKB
      refine ⟨f 14,f 15,T,hT,?_⟩
      simp only [nD,rD,yield_done]
      rfl)
    refine ⟨fun e1 f => qui (by simp [leadGo,show firstV R w = false by simpa using e1]) f,fun e1 => ⟨fun e2 f => qui (by simp [leadGo,e2]) f,fun e2 => ⟨fun e3 => ⟨fun e4 f => qui (by simp [leadGo,e4,show R.ep = 0 by simpa using e3]) f,fun e4 => At.mk' ⟨(),hgo.2,by simp [leadGo,e2,e4,show firstV R w = true by simpa using e1]⟩ rfl⟩,fun e3 => At.mk' ⟨(),hgo.2,by simp [leadGo,e2,show ¬ R.ep = 0 by simpa using e3,show firstV R w = true by simpa using e1]⟩ rfl⟩⟩⟩
  · have e1 : (R.ep != w.ve) = true:=e1
    simp only [e1,Bool.or_true]
    try rfl
  · have e1 : (R.ep != w.ve) = false:=e1
    have e2 : R.ep = w.ve:=by simpa using e1
    simp only [e2,bne_self_eq_false,Bool.or_false]
    try rfl
  · simp [statesD]
    try rfl
  · rintro ⟨i,hile,hg⟩
    refine ⟨fun hlt => ?_,fun hlt => ?_⟩
    · have hlt : i < (othA R.me w.mem w.joi).length:=by simpa using hlt
      have hget : (othZ R.me w.mem w.joi)[i]? = (othA R.me w.mem w.joi)[i]?:=oth_get hlt
      refine ⟨inB_of (by simpa using hlt),[dn .i64 (othA R.me w.mem w.joi)[i]],?_,(othA R.me w.mem w.joi)[i],rfl,fun f => ⟨?_,⟨?_⟩,R.c,R.t,⟨rfl,hR.cl,hR.cb⟩,hT,⟨by simp [SameL]⟩,Nx.mk' ⟨i + 1,hlt,hg⟩ ?_ ?_⟩⟩
      · simp only [Int.toNat_natCast,Nat.zero_add]
        rw [ints_getElem?,hget,List.getElem?_eq_getElem hlt]; rfl
      · simp [statesD,nO]; omega
      · simp [nO]; omega
      · have wz:=w64 (n:=(i : Int) + 1) (by omega) (by omega)
        have eh : statesD ((othA R.me w.mem w.joi).take (i + 1)) R w = statesD ((othA R.me w.mem w.joi).take i) R w ++ [stP (othA R.me w.mem w.joi)[i] R.id w.ve R.nu R.c R.t]:=by
          unfold statesD
          rw [List.take_add_one,List.getElem?_eq_getElem hlt,List.map_append]; rfl
        simp only [wz]
        simp [eh,stP,pst,dn,ints,cV]
        first
          | omega
          | exact ⟨by omega,rfl⟩
          | exact ⟨by omega,rfl,rfl⟩
      · show (othA R.me w.mem w.joi).length - (i + 1) < (othA R.me w.mem w.joi).length - i
        omega
    · have hi2 : i = (othA R.me w.mem w.joi).length:=by
        have : ¬ i < (othA R.me w.mem w.joi).length:=by simpa using hlt
        omega
      subst hi2
      refine fin (viewR_lead hg.1 hg.2) ?_
      unfold RepKB
      refine ⟨[],[],T,mb_nil,mb_nil,hT,?_⟩
      simp only [nD,rD,yield_done]
      simp [cR,cV,statesD,stP,pst,tabR,dn,postD,msgD,ints,Function.comp_def]
theorem view_l (R : Rep) (T : ML) (I Q : ML) (L : Lead) (w : Vw) (hT : Tab T R.t) (hl : R.ld = some L) (hR : RepOk R) (hw : w.mem.length + w.joi.length ≤ 1000) (hroom : R.out.length + (othA R.me w.mem w.joi).length ≤ 100000) (hkb : RepKB R [cR R (tbV T) (.sb true) (.mp 1) (.mp 2) (.ipo (L.cur.map opD)) (.sl 3 0 (nO R)) (.sl 4 0 (nD R)),mpF I,mpF Q,rO R,rD R]) (K : V→KB→Prop) (hK : ∀ kb',RepKB (viewR R w) kb'→K (.tup []) kb') : runSpec Try.prog XVw (vwT_l R T I Q (L.cur.map opD) w) 8 [.ptr 0 0,.agg [.int .i64 w.vi,.int .i64 w.vv,.int .i64 w.ve,.dat (.sl 1 (ints .i64 w.mem)),.dat (.sl 1 (ints .i64 w.joi))]] [cR R (tbV T) (.sb true) (.mp 1) (.mp 2) (.ipo (L.cur.map opD)) (.sl 3 0 (nO R)) (.sl 4 0 (nD R)),mpF I,mpF Q,rO R,rD R] (rootH 13 msLd K):=by
  have fin : ∀ {R' : Rep} {kb' : KB},viewR R w = R'→RepKB R' kb'→K (.tup []) kb':=fun {R' kb'} h1 h2 => by
    have:=hK kb'
    rw [h1] at this
    exact this h2
  have h5 : Len5 (w.mem.length + w.joi.length):=⟨by omega⟩
  have hdl : (List.map dnD R.done).length ≤ 1000000:=by rw [List.length_map]; have:=hR.dl; omega
  have hlead : leadsR R = true:=by simp [leadsR,hl]
  have hcq : L.cur.map opD = (curR R).map opD:=by simp [curR,hl]
  have hlm : w.mem.length ≤ 1000000:=by omega
  have hlj : w.joi.length ≤ 1000000:=by omega
  refine vcView_l R T I Q (L.cur.map opD) w K ⟨⟨fun _ => ?_,fun e0 => At.mk' () ?_⟩,fun _ => ⟨⟨fun e1 => fin (viewR_no (go_vi (by simpa using e1))) hkb,fun e1 => ⟨fun e2 => fin (viewR_no (go_ve (.inl (by simpa using e2)))) hkb,fun e2 => ⟨fun e3 => fin (viewR_no (go_ve (.inr (.inl (by simpa using e3))))) hkb,fun e3 => ⟨fun e4 => fin (viewR_no (go_ve (.inr (.inr (by simpa using e4))))) hkb,fun e4 => ⟨fun e5 => ⟨fun _ => fin (viewR_no (go_eq (by simpa using e5) (.inl hlead))) hkb,fun f => (by cases f)⟩,fun e5 => At.mk' ⟨(),go_yes (by simpa using e1) (by simpa using e2) (by simpa using e3) (by simpa using e4) (fun h => absurd h (by simpa using e5))⟩ rfl⟩⟩⟩⟩⟩,fun hgo f => ⟨rfl,⟨hdl⟩,curR R,hcq,⟨by simp [SameL]⟩,⟨⟨⟨by rw [ints_len]; exact hlm⟩,⟨by rw [ints_len]; exact hlj⟩,At.mk' hgo rfl⟩,⟨by rw [ints_len]; exact hlm⟩,⟨by rw [ints_len]; exact hlj⟩,At.mk' hgo rfl⟩,fun hgo => ⟨?_,fun hg2 => ⟨⟨fun e1 => At.mk' ⟨(),hg2.2⟩ ?_,fun e1 => At.mk' ⟨(),hg2.2⟩ ?_⟩,fun _ f => ⟨w.mem,w.joi,rfl,rfl,h5,⟨by simp [SameL]⟩,At.mk' ⟨0,Nat.zero_le _,hg2.2⟩ ?_,?_⟩⟩⟩⟩⟩⟩
  · cases hm : w.mem with
    | nil => rename_i e0; rw [hm] at e0; simp [ints] at e0
    | cons b l =>
      refine ⟨Int.le_refl _,[dn .i64 b],by simp [ints,dn],b,rfl,At.mk' () ?_⟩
      have : firstV R w = (b == R.me):=by simp [firstV,hm]
      simp only [this,hm]
  · have : w.mem = []:=by
      cases hm : w.mem with
      | nil => rfl
      | cons b l => rw [hm] at e0; simp [ints] at e0
    have h2 : firstV R w = false:=by simp [firstV,this]
    simp only [h2]
  · have qui : leadGo R w = false→∀ f : Nat→Value,K (.tup []) [cV R w (.int .i64 R.ep) (.sb R.ch) (tbV T) (.sb false) (.any (f 14)) (.any (f 15)) (.ipo none) (.sl 1 0 (nO R)) (.sl 2 0 (yD R).length),rO R,.row 46 7 (yD R)]:=fun h f => fin (viewR_quiet hgo.2 h) (by
      unfold RepKB
      refine ⟨f 14,f 15,T,hT,?_⟩
      simp only [nD,rD,yield_done]
      rfl)
    refine ⟨fun e1 f => qui (by simp [leadGo,show firstV R w = false by simpa using e1]) f,fun e1 => ⟨fun e2 f => qui (by simp [leadGo,e2]) f,fun e2 => ⟨fun e3 => ⟨fun e4 f => qui (by simp [leadGo,e4,show R.ep = 0 by simpa using e3]) f,fun e4 => At.mk' ⟨(),hgo.2,by simp [leadGo,e2,e4,show firstV R w = true by simpa using e1]⟩ rfl⟩,fun e3 => At.mk' ⟨(),hgo.2,by simp [leadGo,e2,show ¬ R.ep = 0 by simpa using e3,show firstV R w = true by simpa using e1]⟩ rfl⟩⟩⟩
  · have e1 : (R.ep != w.ve) = true:=e1
    simp only [e1,Bool.or_true]
    try rfl
  · have e1 : (R.ep != w.ve) = false:=e1
    have e2 : R.ep = w.ve:=by simpa using e1
    simp only [e2,bne_self_eq_false,Bool.or_false]
    try rfl
  · simp [statesD]
    try rfl
  · rintro ⟨i,hile,hg⟩
    refine ⟨fun hlt => ?_,fun hlt => ?_⟩
    · have hlt : i < (othA R.me w.mem w.joi).length:=by simpa using hlt
      have hget : (othZ R.me w.mem w.joi)[i]? = (othA R.me w.mem w.joi)[i]?:=oth_get hlt
      refine ⟨inB_of (by simpa using hlt),[dn .i64 (othA R.me w.mem w.joi)[i]],?_,(othA R.me w.mem w.joi)[i],rfl,fun f => ⟨?_,⟨?_⟩,R.c,R.t,⟨rfl,hR.cl,hR.cb⟩,hT,⟨by simp [SameL]⟩,Nx.mk' ⟨i + 1,hlt,hg⟩ ?_ ?_⟩⟩
      · simp only [Int.toNat_natCast,Nat.zero_add]
        rw [ints_getElem?,hget,List.getElem?_eq_getElem hlt]; rfl
      · simp [statesD,nO]; omega
      · simp [nO]; omega
      · have wz:=w64 (n:=(i : Int) + 1) (by omega) (by omega)
        have eh : statesD ((othA R.me w.mem w.joi).take (i + 1)) R w = statesD ((othA R.me w.mem w.joi).take i) R w ++ [stP (othA R.me w.mem w.joi)[i] R.id w.ve R.nu R.c R.t]:=by
          unfold statesD
          rw [List.take_add_one,List.getElem?_eq_getElem hlt,List.map_append]; rfl
        simp only [wz]
        simp [eh,stP,pst,dn,ints,cV]
        first
          | omega
          | exact ⟨by omega,rfl⟩
          | exact ⟨by omega,rfl,rfl⟩
      · show (othA R.me w.mem w.joi).length - (i + 1) < (othA R.me w.mem w.joi).length - i
        omega
    · have hi2 : i = (othA R.me w.mem w.joi).length:=by
        have : ¬ i < (othA R.me w.mem w.joi).length:=by simpa using hlt
        omega
      subst hi2
      refine fin (viewR_lead hg.1 hg.2) ?_
      unfold RepKB
      refine ⟨[],[],T,mb_nil,mb_nil,hT,?_⟩
      simp only [nD,rD,yield_done]
      simp [cR,cV,statesD,stP,pst,tabR,dn,postD,msgD,ints,Function.comp_def]
def Mview : FSpec:=fun args kb K => ∃ R w,args = [.ptr 0 0,.agg [.int .i64 w.vi,.int .i64 w.vv,.int .i64 w.ve,.dat (.sl 1 (ints .i64 w.mem)),.dat (.sl 1 (ints .i64 w.joi))]]∧RepKB R kb∧RepOk R∧w.mem.length + w.joi.length ≤ 1000∧R.out.length + (othA R.me w.mem w.joi).length ≤ 100000∧∀ kb',RepKB (viewR R w) kb'→K (.tup []) kb'
theorem okView : MethOk Try.prog 8 Mview:=methOk_runH mixed 13 msLd (fun args kb K h => by
  obtain ⟨R,w,rfl,hkb,hR,hw,hroom,hK⟩:=h
  have hkb0:=hkb
  unfold RepKB at hkb
  split at hkb
  · rename_i hl
    obtain ⟨a14,a15,T,hT,rfl⟩:=hkb
    exact ⟨_,_,XVw_ok,view_n R T a14 a15 w hT hl hR hw hroom (fun a b => by unfold RepKB; simp only [hl]; exact ⟨a,b,T,hT,rfl⟩) K hK⟩
  · rename_i L hl
    obtain ⟨I,Q,T,hI,hQ,hT,rfl⟩:=hkb
    exact ⟨_,_,XVw_ok,view_l R T I Q L w hT hl hR hw hroom hkb0 K hK⟩)
end Go.Proofs.Ytfcjngcnifdmnaa
namespace Go.Proofs.Ytfcjngcnifdmnaa
open Vc Go
set_option linter.unusedVariables false
set_option linter.unusedSimpArgs false
set_option maxRecDepth 100000
def mAt (m : Msg) (i : Nat) : Int:=m.n.getD i 0
def loadC (b : List Int) : Option (List Int):=match openI b with | some c => if c.length = 128 then some c else none | none => none
open Classical in
noncomputable def loadT (b : List Int) : Option (List L3):=if h : ∃ x,OkX x∧b = tabW x then some h.choose else none
noncomputable def syncR (R : Rep) (fr : Int) (m : Msg) : Rep :=
  if mAt m 1 < R.ep∨mAt m 1 = R.ep∧(mAt m 2 < R.nu∨leadsR R = true)∨m.l.length ≠ 1 then nackR R fr else
  match loadC m.b,loadT (m.l.getD 0 []) with
  | some c,some t => sendR { yieldR R with ep:=mAt m 1,nu:=mAt m 2,c:=c,t:=t,ch:=true } fr 11 [mAt m 2] [] []
  | _,_ => R
def mark (f : Int→Bool) (k : Int) (v : Bool) : Int→Bool:=fun n => if n = k then v else f n
def syncOkR (R : Rep) (fr : Int) (m : Msg) : Rep:=match R.ld with
  | none => R
  | some L => if mAt m 1 ≠ R.ep∨mAt m 2 ≠ R.nu then R else match L.cur with
    | none => { R with ld:=some ⟨mark L.ins fr true,L.acks,none⟩ }
    | some o => finishR { R with ld:=some ⟨mark L.ins fr true,mark L.acks fr true,some o⟩ }
def opOf (m : Msg) : Op:=⟨mAt m 3,mAt m 4,mAt m 5,mAt m 6,m.b⟩
def opR (R : Rep) (fr : Int) (m : Msg) : Rep :=
  if mAt m 1 = R.ep∧mAt m 2 = R.nu∧leadsR R = false then sendR R fr 13 [R.nu] [] []
  else if mAt m 1 = R.ep∧mAt m 2 = R.nu + 1∧leadsR R = false∧rtOp (opOf m) = true∧(mAt m 5 ≠ 4∨crcI R.c = mAt m 7) then sendR (doR R (opOf m)) fr 13 [R.nu + 1] [] []
  else nackR R fr
def opOkR (R : Rep) (fr : Int) (m : Msg) : Rep:=match R.ld with
  | none => R
  | some L => match L.cur with
    | none => R
    | some o => if mAt m 1 = R.ep∧mAt m 2 = R.nu then finishR { R with ld:=some ⟨L.ins,mark L.acks fr true,some o⟩ } else R
def refusedR (R : Rep) (fr : Int) (m : Msg) : Rep:=match R.ld with
  | none => R
  | some L => if R.ep < mAt m 1 then yieldR R else if mAt m 1 = R.ep∧R.nu < mAt m 2 then yieldR { R with lo:=true }
    else stateR { R with ld:=some { L with ins:=mark L.ins fr false } } fr
def cntM (kd : Int) : Nat:=if kd = 12 then 8 else 3
def msgGo (R : Rep) (fr : Int) (m : Msg) : Bool:=decide (10 ≤ m.kd∧m.kd ≤ 14∧m.n.length = cntM m.kd∧mAt m 0 = R.id∧fr ≠ R.me) && !m.n.any isWrong
noncomputable def handleR (R : Rep) (fr : Int) (m : Msg) : Rep :=
  if msgGo R fr m = false then R
  else if m.kd = 10 then syncR R fr m else if m.kd = 11 then syncOkR R fr m else if m.kd = 12 then opR R fr m else if m.kd = 13 then opOkR R fr m else refusedR R fr m
def lsD (ls : List (List Int)) : List (List D):=ls.map fun x => [.sl 1 (ints .u8 x)]
def syNk (R : Rep) (q1 q2 : Int) (ls : List (List Int)) : Prop:=q1 < R.ep∨q1 = R.ep∧(q2 < R.nu∨leadsR R = true)∨ls.length ≠ 1
structure LdC (b : List Int) (is : Bool) (cc : List Int) : Prop where
  c1 : is = true→loadC b = some cc
  c0 : is = false→loadC b = none
structure LdA (b y : List Int) (is ok : Bool) (cc : List Int) (x : List L3) (M : ML) : Prop where
  c1 : is = true→loadC b = some cc
  c0 : is = false→loadC b = none
  t1 : ok = true→loadT y = some x∧Tab M x
  t0 : ok = false→loadT y = none
abbrev sy04_n (R : Rep) (T : ML) (a14 a15 : Value) (fr kd q0 q1 q2 : Int) (b : List Int) (ls : List (List Int)) : LI where
  α:={_u : Unit // ¬ syNk R q1 q2 ls}
  live:=[0,1,5,6,7]
  st _:=([.ptr 0 0,.int .i64 fr,.ptr 3 0,.int .i64 q1,.int .i64 q2],[cR R (tbV T) (.sb false) (.any a14) (.any a15) (.ipo none) (.sl 1 0 (nO R)) (.sl 2 0 (nD R)),rO R,rD R,.cells [.int .i64 kd,.dat (.sl 1 [[dn .i64 q0],[dn .i64 q1],[dn .i64 q2]]),.dat (.sl 1 (ints .u8 b)),.dat (.sl 1 (lsD ls))]])
  μ _:=0
abbrev sy05_n (R : Rep) (T : ML) (a14 a15 : Value) (fr kd q0 q1 q2 : Int) (b : List Int) (ls : List (List Int)) : LI where
  α:={p : Bool × List Int // ¬ syNk R q1 q2 ls∧LdC b p.1 p.2}
  live:=[0,1,5,6,7,8,9]
  st i:=([.ptr 0 0,.int .i64 fr,.ptr 3 0,.int .i64 q1,.int .i64 q2,.ptr 4 0,.sb i.1.1],[cR R (tbV T) (.sb false) (.any a14) (.any a15) (.ipo none) (.sl 1 0 (nO R)) (.sl 2 0 (nD R)),rO R,rD R,.cells [.int .i64 kd,.dat (.sl 1 [[dn .i64 q0],[dn .i64 q1],[dn .i64 q2]]),.dat (.sl 1 (ints .u8 b)),.dat (.sl 1 (lsD ls))],.cells [.arr 128 (dns .u8 i.1.2)]])
  μ _:=0
abbrev sy09_n (R : Rep) (T : ML) (a14 a15 : Value) (fr kd q0 q1 q2 : Int) (b : List Int) (ls : List (List Int)) (cc : List Int) (M : ML) : LI where
  α:=Unit
  live:=[0,1,7]
  st _:=([.ptr 0 0,.int .i64 fr,.int .i64 q2],[cG R (.sb R.lo) (.int .i64 q1) (.int .i64 q2) (.arr 128 (dns .u8 cc)) (.sb true) (tbV M) (.sb false) (.any a14) (.any a15) (.ipo none) (.sl 1 0 (nO R)) (.sl 3 0 (yD R).length),rO R,.dead,.row 46 7 (yD R)])
  μ _:=0
abbrev sy06_n (R : Rep) (T : ML) (a14 a15 : Value) (fr kd q0 q1 q2 : Int) (b : List Int) (ls : List (List Int)) : LI where
  α:={p : Bool × Bool × List Int × List L3 × ML // ¬ syNk R q1 q2 ls∧LdA b (ls.getD 0 []) p.1 p.2.1 p.2.2.1 p.2.2.2.1 p.2.2.2.2}
  live:=[0,1,6,7,8,9,10,11]
  nils:=[.impC 4 0 [.i64] false true 2]
  st i:=([.ptr 0 0,.int .i64 fr,.int .i64 q1,.int .i64 q2,.ptr 3 0,.sb i.1.1,.ptr 4 0,.sb i.1.2.1],[cR R (tbV T) (.sb false) (.any a14) (.any a15) (.ipo none) (.sl 1 0 (nO R)) (.sl 2 0 (nD R)),rO R,rD R,.cells [.arr 128 (dns .u8 i.1.2.2.1)],.cells [tbV i.1.2.2.2.2]])
  μ _:=0
  sub i r:=match r with
    | 1009 => some (sy09_n R T a14 a15 fr kd q0 q1 q2 b ls i.1.2.2.1 i.1.2.2.2.2)
    | _ => none
def syT_n (R : Rep) (T : ML) (a14 a15 : Value) (fr kd q0 q1 q2 : Int) (b : List Int) (ls : List (List Int)) : Nat→Option LI
  | 1004 => some (sy04_n R T a14 a15 fr kd q0 q1 q2 b ls)
  | 1005 => some (sy05_n R T a14 a15 fr kd q0 q1 q2 b ls)
  | 1006 => some (sy06_n R T a14 a15 fr kd q0 q1 q2 b ls)
  | _ => none
abbrev sy04_l (R : Rep) (T : ML) (I Q : ML) (u : Option (List D)) (fr kd q0 q1 q2 : Int) (b : List Int) (ls : List (List Int)) : LI where
  α:={_u : Unit // ¬ syNk R q1 q2 ls}
  live:=[0,1,5,6,7]
  st _:=([.ptr 0 0,.int .i64 fr,.ptr 5 0,.int .i64 q1,.int .i64 q2],[cR R (tbV T) (.sb true) (.mp 1) (.mp 2) (.ipo u) (.sl 3 0 (nO R)) (.sl 4 0 (nD R)),mpF I,mpF Q,rO R,rD R,.cells [.int .i64 kd,.dat (.sl 1 [[dn .i64 q0],[dn .i64 q1],[dn .i64 q2]]),.dat (.sl 1 (ints .u8 b)),.dat (.sl 1 (lsD ls))]])
  μ _:=0
abbrev sy05_l (R : Rep) (T : ML) (I Q : ML) (u : Option (List D)) (fr kd q0 q1 q2 : Int) (b : List Int) (ls : List (List Int)) : LI where
  α:={p : Bool × List Int // ¬ syNk R q1 q2 ls∧LdC b p.1 p.2}
  live:=[0,1,5,6,7,8,9]
  st i:=([.ptr 0 0,.int .i64 fr,.ptr 5 0,.int .i64 q1,.int .i64 q2,.ptr 6 0,.sb i.1.1],[cR R (tbV T) (.sb true) (.mp 1) (.mp 2) (.ipo u) (.sl 3 0 (nO R)) (.sl 4 0 (nD R)),mpF I,mpF Q,rO R,rD R,.cells [.int .i64 kd,.dat (.sl 1 [[dn .i64 q0],[dn .i64 q1],[dn .i64 q2]]),.dat (.sl 1 (ints .u8 b)),.dat (.sl 1 (lsD ls))],.cells [.arr 128 (dns .u8 i.1.2)]])
  μ _:=0
abbrev sy09_l (R : Rep) (T : ML) (I Q : ML) (u : Option (List D)) (fr kd q0 q1 q2 : Int) (b : List Int) (ls : List (List Int)) (cc : List Int) (M : ML) : LI where
  α:=Unit
  live:=[0,1,7]
  st _:=([.ptr 0 0,.int .i64 fr,.int .i64 q2],[cG R (.sb R.lo) (.int .i64 q1) (.int .i64 q2) (.arr 128 (dns .u8 cc)) (.sb true) (tbV M) (.sb false) (.mp 1) (.mp 2) (.ipo none) (.sl 3 0 (nO R)) (.sl 5 0 (yD R).length),mpF I,mpF Q,rO R,.dead,.row 46 7 (yD R)])
  μ _:=0
abbrev sy06_l (R : Rep) (T : ML) (I Q : ML) (u : Option (List D)) (fr kd q0 q1 q2 : Int) (b : List Int) (ls : List (List Int)) : LI where
  α:={p : Bool × Bool × List Int × List L3 × ML // ¬ syNk R q1 q2 ls∧LdA b (ls.getD 0 []) p.1 p.2.1 p.2.2.1 p.2.2.2.1 p.2.2.2.2}
  live:=[0,1,6,7,8,9,10,11]
  nils:=[.impC 6 0 [.i64] false true 2]
  st i:=([.ptr 0 0,.int .i64 fr,.int .i64 q1,.int .i64 q2,.ptr 5 0,.sb i.1.1,.ptr 6 0,.sb i.1.2.1],[cR R (tbV T) (.sb true) (.mp 1) (.mp 2) (.ipo u) (.sl 3 0 (nO R)) (.sl 4 0 (nD R)),mpF I,mpF Q,rO R,rD R,.cells [.arr 128 (dns .u8 i.1.2.2.1)],.cells [tbV i.1.2.2.2.2]])
  μ _:=0
  sub i r:=match r with
    | 1009 => some (sy09_l R T I Q u fr kd q0 q1 q2 b ls i.1.2.2.1 i.1.2.2.2.2)
    | _ => none
def syT_l (R : Rep) (T : ML) (I Q : ML) (u : Option (List D)) (fr kd q0 q1 q2 : Int) (b : List Int) (ls : List (List Int)) : Nat→Option LI
  | 1004 => some (sy04_l R T I Q u fr kd q0 q1 q2 b ls)
  | 1005 => some (sy05_l R T I Q u fr kd q0 q1 q2 b ls)
  | 1006 => some (sy06_l R T I Q u fr kd q0 q1 q2 b ls)
  | _ => none
def msS : FuncId→Option Known
  | 65 => some ⟨[],hideIn [true,false,true,true,false,false,false,true,true,true,true,true,true,true,true,true,true,true,true,true,false,true] Snack⟩
  | 45 => some ⟨[],SbLoad⟩
  | 46 => some ⟨[],SLoad⟩
  | 21 => some ⟨[],hideIn [true,true,true,true,true,true,false,true,true,true,true,true,true,false,true,true,false,true,true,true,true,false] Syield⟩
  | 27 => some ⟨[],SisRight⟩
  | 34 => some ⟨[],hideIn [true,true,true,true,true,true,false,true,true,true,true,true,true,true,true,true,true,true,true,true,true,true] Scsum⟩
  | 31 => some ⟨[],hideIn [true,true,true,true,true,false,false,false,true,true,true,true,true,true,true,true,true,true,false,true,true,true] Sdo⟩
  | 33 => some ⟨[],hideIn [false,true,true,true,true,true,false,true,true,true,true,false,false,true,true,false,false,true,true,true,true,false] Sfinish⟩
  | 24 => some ⟨[],hideIn [true,false,true,true,false,false,false,false,true,true,true,true,true,true,true,true,true,true,true,true,false,true] Sstate⟩
  | 56 => some ⟨[.asis,.asis,.asis,.give 1,.give 1,.give 1],hideIn [true,false,true,true,false,true,false,true,true,true,true,true,true,true,true,true,true,true,true,true,false,true] Ssend⟩
  | _ => none
noncomputable def XMs : CallT:=callS Try.prog msS noT 10
theorem vcSync_n (R : Rep) (T : ML) (a14 a15 : Value) (fr kd q0 q1 q2 : Int) (b : List Int) (ls : List (List Int)) (K : V→KB→Prop) (hvc_ :
 let z1_:=KO.row 76 5 (List.map postD R.out ++ [[dn IntKind.i64 fr,D.val (Value.int IntKind.i64 14),D.sl 1 [[dn IntKind.i64 R.id],[dn IntKind.i64 R.ep],[dn IntKind.i64 R.nu]],D.sl 1 [],D.sl 1 []]]); let z2_:=[V.ptr 0 0,V.int IntKind.i64 fr,V.int IntKind.i64 q2]; let z5_:=[[dn IntKind.i64 q0],[dn IntKind.i64 q1],[dn IntKind.i64 q2]]; let z3_:=KO.cells [V.int IntKind.i64 kd,V.dat (D.sl 1 z5_),V.dat (D.sl 1 (ints IntKind.u8 b)),V.dat (D.sl 1 (lsD ls))]; let z4_:=cR R (tbV T) (V.sb false) (V.any a14) (V.any a15) (V.ipo none) (V.sl 1 0 (nO R)) (V.sl 2 0 (nD R)); NonN 1 ∧
 ∃ (y1 : List D),z5_[1]? = some y1 ∧
 ∃ (y2 : Int),y1[0]? = some (D.val (Value.int IntKind.i64 y2)) ∧
 NonN 2 ∧
 ∃ (y3 : List D),z5_[2]? = some y3 ∧
 ∃ (y4 : Int),y3[0]? = some (D.val (Value.int IntKind.i64 y4)) ∧
 ((decide (y2 < R.ep) = true →
 ∀ (y5 : Nat →
 Value),nO R = (nO R) ∧
 LenR (nO R) ∧
 SmF y5 [0,2,3,7,8,9,10,11,12,13,14,15,16,17,18,19,21] ∧
 ∀ (y6 : Nat →
 Value),K (V.tup []) [cR R (tbV T) (V.sb false) (V.any (y6 14)) (V.any (y6 15)) (V.ipo none) (V.sl 1 0 (nO R + 1)) (V.sl 2 0 (nD R)),z1_,rD R]) ∧
 (decide (y2 < R.ep) = false →
 ((y2 == R.ep) = true →
 (decide (y4 < R.nu) = true →
 ∀ (y7 : Nat →
 Value),nO R = (nO R) ∧
 LenR (nO R) ∧
 SmF y7 [0,2,3,7,8,9,10,11,12,13,14,15,16,17,18,19,21] ∧
 ∀ (y8 : Nat →
 Value),K (V.tup []) [cR R (tbV T) (V.sb false) (V.any (y8 14)) (V.any (y8 15)) (V.ipo none) (V.sl 1 0 (nO R + 1)) (V.sl 2 0 (nD R)),z1_,rD R]) ∧
 (decide (y4 < R.nu) = false →
 (false = true →
 ∀ (y9 : Nat →
 Value),nO R = (nO R) ∧
 LenR (nO R) ∧
 SmF y9 [0,2,3,7,8,9,10,11,12,13,14,15,16,17,18,19,21] ∧
 ∀ (y10 : Nat →
 Value),K (V.tup []) [cR R (tbV T) (V.sb false) (V.any (y10 14)) (V.any (y10 15)) (V.ipo none) (V.sl 1 0 (nO R + 1)) (V.sl 2 0 (nD R)),z1_,rD R]) ∧
 (false = false →
 (((↑(lsD ls).length : Int) != 1) = true →
 ∀ (y11 : Nat →
 Value),nO R = (nO R) ∧
 LenR (nO R) ∧
 SmF y11 [0,2,3,7,8,9,10,11,12,13,14,15,16,17,18,19,21] ∧
 ∀ (y12 : Nat →
 Value),K (V.tup []) [cR R (tbV T) (V.sb false) (V.any (y12 14)) (V.any (y12 15)) (V.ipo none) (V.sl 1 0 (nO R + 1)) (V.sl 2 0 (nD R)),z1_,rD R]) ∧
 (((↑(lsD ls).length : Int) != 1) = false →
 At (sy04_n R T a14 a15 fr kd q0 q1 q2 b ls) ([V.ptr 0 0,V.int IntKind.i64 fr,V.ptr 3 0,V.int IntKind.i64 y2,V.int IntKind.i64 y4],[z4_,rO R,rD R,z3_]))))) ∧
 ((y2 == R.ep) = false →
 (((↑(lsD ls).length : Int) != 1) = true →
 ∀ (y13 : Nat →
 Value),nO R = (nO R) ∧
 LenR (nO R) ∧
 SmF y13 [0,2,3,7,8,9,10,11,12,13,14,15,16,17,18,19,21] ∧
 ∀ (y14 : Nat →
 Value),K (V.tup []) [cR R (tbV T) (V.sb false) (V.any (y14 14)) (V.any (y14 15)) (V.ipo none) (V.sl 1 0 (nO R + 1)) (V.sl 2 0 (nD R)),z1_,rD R]) ∧
 (((↑(lsD ls).length : Int) != 1) = false →
 At (sy04_n R T a14 a15 fr kd q0 q1 q2 b ls) ([V.ptr 0 0,V.int IntKind.i64 fr,V.ptr 3 0,V.int IntKind.i64 y2,V.int IntKind.i64 y4],[z4_,rO R,rD R,z3_]))))) ∧
 ∀ (y16 : { y15 : Unit // ¬syNk R q1 q2 ls}),(∃ (y17 : List Int),ints IntKind.u8 b = ints IntKind.u8 y17 ∧
 (∀ (y18 : Int),List.Mem y18 y17 →
 0 ≤ y18 ∧
 y18 < 256) ∧
 y17.length ≤ 900000 ∧
 (∀ (y19 : List Int),openI y17 = some y19 →
 y19.length = 128 →
 At (sy05_n R T a14 a15 fr kd q0 q1 q2 b ls) ([V.ptr 0 0,V.int IntKind.i64 fr,V.ptr 3 0,V.int IntKind.i64 q1,V.int IntKind.i64 q2,V.ptr 4 0,V.sb true],[z4_,rO R,rD R,z3_,KO.cells [V.arr 128 (dns IntKind.u8 y19)]])) ∧
 ((∀ (y20 : List Int),openI y17 = some y20 →
 y20.length = 128 →
 False) →
 At (sy05_n R T a14 a15 fr kd q0 q1 q2 b ls) ([V.ptr 0 0,V.int IntKind.i64 fr,V.ptr 3 0,V.int IntKind.i64 q1,V.int IntKind.i64 q2,V.ptr 4 0,V.sb false],[z4_,rO R,rD R,z3_,KO.cells [V.arr 128 (List.replicate 128 (D.val (Value.int IntKind.u8 0)))]]))) ∧
 ∀ (y22 : { y21 : Bool × List Int // ¬syNk R q1 q2 ls ∧
 LdC b y21.fst y21.snd}),(NonN 0 ∧
 ∃ (y23 : List D),(lsD ls)[0]? = some y23 ∧
 ∃ (y24 : List (List D)),y23[0]? = some (D.sl 1 y24) ∧
 ∃ (y25 : List Int),y24 = ints IntKind.u8 y25 ∧
 (∀ (y26 : Int),List.Mem y26 y25 →
 0 ≤ y26 ∧
 y26 < 256) ∧
 y25.length ≤ 140737488355328 ∧
 (((∃ (y27 : List L3),OkX y27 ∧
 y25 = tabW y27) →
 False) →
 At (sy06_n R T a14 a15 fr kd q0 q1 q2 b ls) ([V.ptr 0 0,V.int IntKind.i64 fr,V.int IntKind.i64 q1,V.int IntKind.i64 q2,V.ptr 3 0,V.sb y22.val.fst,V.ptr 4 0,V.sb false],[z4_,rO R,rD R,KO.cells [V.arr 128 (dns IntKind.u8 y22.val.snd)],KO.cells [tbV []]])) ∧
 ∀ (y28 : List L3) (y29 : ML),Tab y29 y28 →
 y25 = tabW y28 →
 At (sy06_n R T a14 a15 fr kd q0 q1 q2 b ls) ([V.ptr 0 0,V.int IntKind.i64 fr,V.int IntKind.i64 q1,V.int IntKind.i64 q2,V.ptr 3 0,V.sb y22.val.fst,V.ptr 4 0,V.sb true],[z4_,rO R,rD R,KO.cells [V.arr 128 (dns IntKind.u8 y22.val.snd)],KO.cells [tbV y29]])) ∧
 ∀ (y31 : { y30 : Bool × Bool × List Int × List L3 × ML // ¬syNk R q1 q2 ls ∧
 LdA b (ls.getD 0 []) y30.fst y30.snd.fst y30.snd.snd.fst y30.snd.snd.snd.fst y30.snd.snd.snd.snd}),((!y31.val.fst) = true →
 ∀ (y32 : Nat →
 Value),K (V.tup []) [cR R (tbV T) (V.sb false) (V.any (y32 14)) (V.any (y32 15)) (V.ipo none) (V.sl 1 0 (nO R)) (V.sl 2 0 (nD R)),rO R,rD R]) ∧
 ((!y31.val.fst) = false →
 ((!y31.val.snd.fst) = true →
 ∀ (y33 : Nat →
 Value),K (V.tup []) [cR R (tbV T) (V.sb false) (V.any (y33 14)) (V.any (y33 15)) (V.ipo none) (V.sl 1 0 (nO R)) (V.sl 2 0 (nD R)),rO R,rD R]) ∧
 ((!y31.val.snd.fst) = false →
 ∀ (y34 : Nat →
 Value),nD R = (nD R) ∧
 LenR (nD R) ∧
 ∃ (y35 : Option Op),none = Option.map opD y35 ∧
 SmF y34 [0,1,2,3,4,5,7,8,9,10,11,12,14,15,17,18,19,20] ∧
 ((At (sy09_n R T a14 a15 fr kd q0 q1 q2 b ls y31.val.snd.snd.fst y31.val.snd.snd.snd.snd) (z2_,[cG R (V.sb R.lo) (V.int IntKind.i64 q1) (V.int IntKind.i64 q2) (V.arr 128 (dns IntKind.u8 y31.val.snd.snd.fst)) (V.sb true) (tbV y31.val.snd.snd.snd.snd) (V.sb false) (V.any a14) (V.any a15) (V.ipo none) (V.sl 1 0 (nO R)) (V.sl 3 0 (List.map dnD R.done ++ yl y35).length),rO R,KO.dead,KO.row 46 7 (List.map dnD R.done ++ yl y35)]) ∧
 At (sy09_n R T a14 a15 fr kd q0 q1 q2 b ls y31.val.snd.snd.fst y31.val.snd.snd.snd.snd) (z2_,[cG R (V.sb R.lo) (V.int IntKind.i64 q1) (V.int IntKind.i64 q2) (V.arr 128 (dns IntKind.u8 y31.val.snd.snd.fst)) (V.sb true) (tbV y31.val.snd.snd.snd.snd) (V.sb false) (V.any a14) (V.any a15) (V.ipo none) (V.sl 1 0 (nO R)) (V.sl 3 0 (List.map dnD R.done ++ yl y35).length),rO R,KO.dead,KO.row 46 7 (List.map dnD R.done ++ yl y35)]) ∧
 At (sy09_n R T a14 a15 fr kd q0 q1 q2 b ls y31.val.snd.snd.fst y31.val.snd.snd.snd.snd) (z2_,[cG R (V.sb R.lo) (V.int IntKind.i64 q1) (V.int IntKind.i64 q2) (V.arr 128 (dns IntKind.u8 y31.val.snd.snd.fst)) (V.sb true) (tbV y31.val.snd.snd.snd.snd) (V.sb false) (V.any a14) (V.any a15) (V.ipo none) (V.sl 1 0 (nO R)) (V.sl 3 0 (List.map dnD R.done ++ yl y35).length),rO R,KO.dead,KO.row 46 7 (List.map dnD R.done ++ yl y35)]) ∧
 At (sy09_n R T a14 a15 fr kd q0 q1 q2 b ls y31.val.snd.snd.fst y31.val.snd.snd.snd.snd) (z2_,[cG R (V.sb R.lo) (V.int IntKind.i64 q1) (V.int IntKind.i64 q2) (V.arr 128 (dns IntKind.u8 y31.val.snd.snd.fst)) (V.sb true) (tbV y31.val.snd.snd.snd.snd) (V.sb false) (V.any a14) (V.any a15) (V.ipo none) (V.sl 1 0 (nO R)) (V.sl 3 0 (List.map dnD R.done ++ yl y35).length),rO R,KO.dead,KO.row 46 7 (List.map dnD R.done ++ yl y35)])) ∧
 (At (sy09_n R T a14 a15 fr kd q0 q1 q2 b ls y31.val.snd.snd.fst y31.val.snd.snd.snd.snd) (z2_,[cG R (V.sb R.lo) (V.int IntKind.i64 q1) (V.int IntKind.i64 q2) (V.arr 128 (dns IntKind.u8 y31.val.snd.snd.fst)) (V.sb true) (tbV y31.val.snd.snd.snd.snd) (V.sb false) (V.any a14) (V.any a15) (V.ipo none) (V.sl 1 0 (nO R)) (V.sl 3 0 (List.map dnD R.done ++ yl y35).length),rO R,KO.dead,KO.row 46 7 (List.map dnD R.done ++ yl y35)]) ∧
 At (sy09_n R T a14 a15 fr kd q0 q1 q2 b ls y31.val.snd.snd.fst y31.val.snd.snd.snd.snd) (z2_,[cG R (V.sb R.lo) (V.int IntKind.i64 q1) (V.int IntKind.i64 q2) (V.arr 128 (dns IntKind.u8 y31.val.snd.snd.fst)) (V.sb true) (tbV y31.val.snd.snd.snd.snd) (V.sb false) (V.any a14) (V.any a15) (V.ipo none) (V.sl 1 0 (nO R)) (V.sl 3 0 (List.map dnD R.done ++ yl y35).length),rO R,KO.dead,KO.row 46 7 (List.map dnD R.done ++ yl y35)]) ∧
 At (sy09_n R T a14 a15 fr kd q0 q1 q2 b ls y31.val.snd.snd.fst y31.val.snd.snd.snd.snd) (z2_,[cG R (V.sb R.lo) (V.int IntKind.i64 q1) (V.int IntKind.i64 q2) (V.arr 128 (dns IntKind.u8 y31.val.snd.snd.fst)) (V.sb true) (tbV y31.val.snd.snd.snd.snd) (V.sb false) (V.any a14) (V.any a15) (V.ipo none) (V.sl 1 0 (nO R)) (V.sl 3 0 (List.map dnD R.done ++ yl y35).length),rO R,KO.dead,KO.row 46 7 (List.map dnD R.done ++ yl y35)])) ∧
 (At (sy09_n R T a14 a15 fr kd q0 q1 q2 b ls y31.val.snd.snd.fst y31.val.snd.snd.snd.snd) (z2_,[cG R (V.sb R.lo) (V.int IntKind.i64 q1) (V.int IntKind.i64 q2) (V.arr 128 (dns IntKind.u8 y31.val.snd.snd.fst)) (V.sb true) (tbV y31.val.snd.snd.snd.snd) (V.sb false) (V.any a14) (V.any a15) (V.ipo none) (V.sl 1 0 (nO R)) (V.sl 3 0 (List.map dnD R.done ++ yl y35).length),rO R,KO.dead,KO.row 46 7 (List.map dnD R.done ++ yl y35)]) ∧
 At (sy09_n R T a14 a15 fr kd q0 q1 q2 b ls y31.val.snd.snd.fst y31.val.snd.snd.snd.snd) (z2_,[cG R (V.sb R.lo) (V.int IntKind.i64 q1) (V.int IntKind.i64 q2) (V.arr 128 (dns IntKind.u8 y31.val.snd.snd.fst)) (V.sb true) (tbV y31.val.snd.snd.snd.snd) (V.sb false) (V.any a14) (V.any a15) (V.ipo none) (V.sl 1 0 (nO R)) (V.sl 3 0 (List.map dnD R.done ++ yl y35).length),rO R,KO.dead,KO.row 46 7 (List.map dnD R.done ++ yl y35)]) ∧
 At (sy09_n R T a14 a15 fr kd q0 q1 q2 b ls y31.val.snd.snd.fst y31.val.snd.snd.snd.snd) (z2_,[cG R (V.sb R.lo) (V.int IntKind.i64 q1) (V.int IntKind.i64 q2) (V.arr 128 (dns IntKind.u8 y31.val.snd.snd.fst)) (V.sb true) (tbV y31.val.snd.snd.snd.snd) (V.sb false) (V.any a14) (V.any a15) (V.ipo none) (V.sl 1 0 (nO R)) (V.sl 3 0 (List.map dnD R.done ++ yl y35).length),rO R,KO.dead,KO.row 46 7 (List.map dnD R.done ++ yl y35)])) ∧
 (At (sy09_n R T a14 a15 fr kd q0 q1 q2 b ls y31.val.snd.snd.fst y31.val.snd.snd.snd.snd) (z2_,[cG R (V.sb R.lo) (V.int IntKind.i64 q1) (V.int IntKind.i64 q2) (V.arr 128 (dns IntKind.u8 y31.val.snd.snd.fst)) (V.sb true) (tbV y31.val.snd.snd.snd.snd) (V.sb false) (V.any a14) (V.any a15) (V.ipo none) (V.sl 1 0 (nO R)) (V.sl 3 0 (List.map dnD R.done ++ yl y35).length),rO R,KO.dead,KO.row 46 7 (List.map dnD R.done ++ yl y35)]) ∧
 At (sy09_n R T a14 a15 fr kd q0 q1 q2 b ls y31.val.snd.snd.fst y31.val.snd.snd.snd.snd) (z2_,[cG R (V.sb R.lo) (V.int IntKind.i64 q1) (V.int IntKind.i64 q2) (V.arr 128 (dns IntKind.u8 y31.val.snd.snd.fst)) (V.sb true) (tbV y31.val.snd.snd.snd.snd) (V.sb false) (V.any a14) (V.any a15) (V.ipo none) (V.sl 1 0 (nO R)) (V.sl 3 0 (List.map dnD R.done ++ yl y35).length),rO R,KO.dead,KO.row 46 7 (List.map dnD R.done ++ yl y35)])) ∧
 At (sy09_n R T a14 a15 fr kd q0 q1 q2 b ls y31.val.snd.snd.fst y31.val.snd.snd.snd.snd) (z2_,[cG R (V.sb R.lo) (V.int IntKind.i64 q1) (V.int IntKind.i64 q2) (V.arr 128 (dns IntKind.u8 y31.val.snd.snd.fst)) (V.sb true) (tbV y31.val.snd.snd.snd.snd) (V.sb false) (V.any a14) (V.any a15) (V.ipo none) (V.sl 1 0 (nO R)) (V.sl 3 0 (List.map dnD R.done ++ yl y35).length),rO R,KO.dead,KO.row 46 7 (List.map dnD R.done ++ yl y35)]) ∧
 At (sy09_n R T a14 a15 fr kd q0 q1 q2 b ls y31.val.snd.snd.fst y31.val.snd.snd.snd.snd) (z2_,[cG R (V.sb R.lo) (V.int IntKind.i64 q1) (V.int IntKind.i64 q2) (V.arr 128 (dns IntKind.u8 y31.val.snd.snd.fst)) (V.sb true) (tbV y31.val.snd.snd.snd.snd) (V.sb false) (V.any a14) (V.any a15) (V.ipo none) (V.sl 1 0 (nO R)) (V.sl 3 0 (List.map dnD R.done ++ yl y35).length),rO R,KO.dead,KO.row 46 7 (List.map dnD R.done ++ yl y35)])) ∧
 ∀ (y36 : Unit),1 ≤ 1 ∧
 ∀ (y37 : Nat →
 Value),nO R = (nO R) ∧
 LenR (nO R) ∧
 LenR 1 ∧
 SmF y37 [0,2,3,5,7,8,9,10,11,12,13,14,15,16,17,18,19,21] ∧
 ∀ (y38 : Nat →
 Value),K (V.tup []) [cG R (V.sb R.lo) (V.int IntKind.i64 q1) (V.int IntKind.i64 q2) (V.arr 128 (dns IntKind.u8 y31.val.snd.snd.fst)) (V.sb true) (tbV y31.val.snd.snd.snd.snd) (V.sb false) (V.any (y38 14)) (V.any (y38 15)) (V.ipo none) (V.sl 1 0 (nO R + 1)) (V.sl 2 0 (yD R).length),KO.row 76 5 (List.map postD R.out ++ [[dn IntKind.i64 fr,D.val (Value.int IntKind.i64 11),D.sl 1 [[dn IntKind.i64 R.id],[dn IntKind.i64 q1],[D.val (Value.int IntKind.i64 q2)]],D.sl 1 [],D.sl 1 []]]),KO.row 46 7 (yD R)]))
 ) : runSpec Try.prog XMs (syT_n R T a14 a15 fr kd q0 q1 q2 b ls) 35 [.ptr 0 0,.int .i64 fr,.agg [.int .i64 kd,.dat (.sl 1 [[dn .i64 q0],[dn .i64 q1],[dn .i64 q2]]),.dat (.sl 1 (ints .u8 b)),.dat (.sl 1 (lsD ls))]] [cR R (tbV T) (.sb false) (.any a14) (.any a15) (.ipo none) (.sl 1 0 (nO R)) (.sl 2 0 (nD R)),rO R,rD R] (rootH 13 msLd K):=by apply Eq.mp (a:=hvc_); kernel_rfl
theorem vcSync_l (R : Rep) (T : ML) (I Q : ML) (u : Option (List D)) (fr kd q0 q1 q2 : Int) (b : List Int) (ls : List (List Int)) (K : V→KB→Prop) (hvc_ :
 let z1_ : KB:=[cR R (tbV T) (V.sb true) (V.mp 1) (V.mp 2) (V.ipo u) (V.sl 3 0 (nO R + 1)) (V.sl 4 0 (nD R)),mpF I,mpF Q,KO.row 76 5 (List.map postD R.out ++ [[dn IntKind.i64 fr,D.val (Value.int IntKind.i64 14),D.sl 1 [[dn IntKind.i64 R.id],[dn IntKind.i64 R.ep],[dn IntKind.i64 R.nu]],D.sl 1 [],D.sl 1 []]]),rD R]; let z2_:=[V.ptr 0 0,V.int IntKind.i64 fr,V.int IntKind.i64 q2]; let z3_:=cR R (tbV T) (V.sb true) (V.mp 1) (V.mp 2) (V.ipo u) (V.sl 3 0 (nO R)) (V.sl 4 0 (nD R)); let z5_:=[[dn IntKind.i64 q0],[dn IntKind.i64 q1],[dn IntKind.i64 q2]]; let z4_:=KO.cells [V.int IntKind.i64 kd,V.dat (D.sl 1 z5_),V.dat (D.sl 1 (ints IntKind.u8 b)),V.dat (D.sl 1 (lsD ls))]; NonN 1 ∧
 ∃ (y1 : List D),z5_[1]? = some y1 ∧
 ∃ (y2 : Int),y1[0]? = some (D.val (Value.int IntKind.i64 y2)) ∧
 NonN 2 ∧
 ∃ (y3 : List D),z5_[2]? = some y3 ∧
 ∃ (y4 : Int),y3[0]? = some (D.val (Value.int IntKind.i64 y4)) ∧
 ((decide (y2 < R.ep) = true →
 ∀ (y5 : Nat →
 Value),nO R = (nO R) ∧
 LenR (nO R) ∧
 SmF y5 [0,2,3,7,8,9,10,11,12,13,14,15,16,17,18,19,21] ∧
 K (V.tup []) z1_) ∧
 (decide (y2 < R.ep) = false →
 ((y2 == R.ep) = true →
 (decide (y4 < R.nu) = true →
 ∀ (y6 : Nat →
 Value),nO R = (nO R) ∧
 LenR (nO R) ∧
 SmF y6 [0,2,3,7,8,9,10,11,12,13,14,15,16,17,18,19,21] ∧
 K (V.tup []) z1_) ∧
 (decide (y4 < R.nu) = false →
 (true = true →
 ∀ (y7 : Nat →
 Value),nO R = (nO R) ∧
 LenR (nO R) ∧
 SmF y7 [0,2,3,7,8,9,10,11,12,13,14,15,16,17,18,19,21] ∧
 K (V.tup []) z1_) ∧
 (true = false →
 (((↑(lsD ls).length : Int) != 1) = true →
 ∀ (y8 : Nat →
 Value),nO R = (nO R) ∧
 LenR (nO R) ∧
 SmF y8 [0,2,3,7,8,9,10,11,12,13,14,15,16,17,18,19,21] ∧
 K (V.tup []) z1_) ∧
 (((↑(lsD ls).length : Int) != 1) = false →
 At (sy04_l R T I Q u fr kd q0 q1 q2 b ls) ([V.ptr 0 0,V.int IntKind.i64 fr,V.ptr 5 0,V.int IntKind.i64 y2,V.int IntKind.i64 y4],[z3_,mpF I,mpF Q,rO R,rD R,z4_]))))) ∧
 ((y2 == R.ep) = false →
 (((↑(lsD ls).length : Int) != 1) = true →
 ∀ (y9 : Nat →
 Value),nO R = (nO R) ∧
 LenR (nO R) ∧
 SmF y9 [0,2,3,7,8,9,10,11,12,13,14,15,16,17,18,19,21] ∧
 K (V.tup []) z1_) ∧
 (((↑(lsD ls).length : Int) != 1) = false →
 At (sy04_l R T I Q u fr kd q0 q1 q2 b ls) ([V.ptr 0 0,V.int IntKind.i64 fr,V.ptr 5 0,V.int IntKind.i64 y2,V.int IntKind.i64 y4],[z3_,mpF I,mpF Q,rO R,rD R,z4_]))))) ∧
 ∀ (y11 : { y10 : Unit // ¬syNk R q1 q2 ls}),(∃ (y12 : List Int),ints IntKind.u8 b = ints IntKind.u8 y12 ∧
 (∀ (y13 : Int),List.Mem y13 y12 →
 0 ≤ y13 ∧
 y13 < 256) ∧
 y12.length ≤ 900000 ∧
 (∀ (y14 : List Int),openI y12 = some y14 →
 y14.length = 128 →
 At (sy05_l R T I Q u fr kd q0 q1 q2 b ls) ([V.ptr 0 0,V.int IntKind.i64 fr,V.ptr 5 0,V.int IntKind.i64 q1,V.int IntKind.i64 q2,V.ptr 6 0,V.sb true],[z3_,mpF I,mpF Q,rO R,rD R,z4_,KO.cells [V.arr 128 (dns IntKind.u8 y14)]])) ∧
 ((∀ (y15 : List Int),openI y12 = some y15 →
 y15.length = 128 →
 False) →
 At (sy05_l R T I Q u fr kd q0 q1 q2 b ls) ([V.ptr 0 0,V.int IntKind.i64 fr,V.ptr 5 0,V.int IntKind.i64 q1,V.int IntKind.i64 q2,V.ptr 6 0,V.sb false],[z3_,mpF I,mpF Q,rO R,rD R,z4_,KO.cells [V.arr 128 (List.replicate 128 (D.val (Value.int IntKind.u8 0)))]]))) ∧
 ∀ (y17 : { y16 : Bool × List Int // ¬syNk R q1 q2 ls ∧
 LdC b y16.fst y16.snd}),(NonN 0 ∧
 ∃ (y18 : List D),(lsD ls)[0]? = some y18 ∧
 ∃ (y19 : List (List D)),y18[0]? = some (D.sl 1 y19) ∧
 ∃ (y20 : List Int),y19 = ints IntKind.u8 y20 ∧
 (∀ (y21 : Int),List.Mem y21 y20 →
 0 ≤ y21 ∧
 y21 < 256) ∧
 y20.length ≤ 140737488355328 ∧
 (((∃ (y22 : List L3),OkX y22 ∧
 y20 = tabW y22) →
 False) →
 At (sy06_l R T I Q u fr kd q0 q1 q2 b ls) ([V.ptr 0 0,V.int IntKind.i64 fr,V.int IntKind.i64 q1,V.int IntKind.i64 q2,V.ptr 5 0,V.sb y17.val.fst,V.ptr 6 0,V.sb false],[z3_,mpF I,mpF Q,rO R,rD R,KO.cells [V.arr 128 (dns IntKind.u8 y17.val.snd)],KO.cells [tbV []]])) ∧
 ∀ (y23 : List L3) (y24 : ML),Tab y24 y23 →
 y20 = tabW y23 →
 At (sy06_l R T I Q u fr kd q0 q1 q2 b ls) ([V.ptr 0 0,V.int IntKind.i64 fr,V.int IntKind.i64 q1,V.int IntKind.i64 q2,V.ptr 5 0,V.sb y17.val.fst,V.ptr 6 0,V.sb true],[z3_,mpF I,mpF Q,rO R,rD R,KO.cells [V.arr 128 (dns IntKind.u8 y17.val.snd)],KO.cells [tbV y24]])) ∧
 ∀ (y26 : { y25 : Bool × Bool × List Int × List L3 × ML // ¬syNk R q1 q2 ls ∧
 LdA b (ls.getD 0 []) y25.fst y25.snd.fst y25.snd.snd.fst y25.snd.snd.snd.fst y25.snd.snd.snd.snd}),((!y26.val.fst) = true →
 K (V.tup []) [z3_,mpF I,mpF Q,rO R,rD R]) ∧
 ((!y26.val.fst) = false →
 ((!y26.val.snd.fst) = true →
 K (V.tup []) [z3_,mpF I,mpF Q,rO R,rD R]) ∧
 ((!y26.val.snd.fst) = false →
 ∀ (y27 : Nat →
 Value),nD R = (nD R) ∧
 LenR (nD R) ∧
 ∃ (y28 : Option Op),u = Option.map opD y28 ∧
 SmF y27 [0,1,2,3,4,5,7,8,9,10,11,12,14,15,17,18,19,20] ∧
 ((At (sy09_l R T I Q u fr kd q0 q1 q2 b ls y26.val.snd.snd.fst y26.val.snd.snd.snd.snd) (z2_,[cG R (V.sb R.lo) (V.int IntKind.i64 q1) (V.int IntKind.i64 q2) (V.arr 128 (dns IntKind.u8 y26.val.snd.snd.fst)) (V.sb true) (tbV y26.val.snd.snd.snd.snd) (V.sb false) (V.mp 1) (V.mp 2) (V.ipo none) (V.sl 3 0 (nO R)) (V.sl 5 0 (List.map dnD R.done ++ yl y28).length),mpF I,mpF Q,rO R,KO.dead,KO.row 46 7 (List.map dnD R.done ++ yl y28)]) ∧
 At (sy09_l R T I Q u fr kd q0 q1 q2 b ls y26.val.snd.snd.fst y26.val.snd.snd.snd.snd) (z2_,[cG R (V.sb R.lo) (V.int IntKind.i64 q1) (V.int IntKind.i64 q2) (V.arr 128 (dns IntKind.u8 y26.val.snd.snd.fst)) (V.sb true) (tbV y26.val.snd.snd.snd.snd) (V.sb false) (V.mp 1) (V.mp 2) (V.ipo none) (V.sl 3 0 (nO R)) (V.sl 5 0 (List.map dnD R.done ++ yl y28).length),mpF I,mpF Q,rO R,KO.dead,KO.row 46 7 (List.map dnD R.done ++ yl y28)]) ∧
 At (sy09_l R T I Q u fr kd q0 q1 q2 b ls y26.val.snd.snd.fst y26.val.snd.snd.snd.snd) (z2_,[cG R (V.sb R.lo) (V.int IntKind.i64 q1) (V.int IntKind.i64 q2) (V.arr 128 (dns IntKind.u8 y26.val.snd.snd.fst)) (V.sb true) (tbV y26.val.snd.snd.snd.snd) (V.sb false) (V.mp 1) (V.mp 2) (V.ipo none) (V.sl 3 0 (nO R)) (V.sl 5 0 (List.map dnD R.done ++ yl y28).length),mpF I,mpF Q,rO R,KO.dead,KO.row 46 7 (List.map dnD R.done ++ yl y28)]) ∧
 At (sy09_l R T I Q u fr kd q0 q1 q2 b ls y26.val.snd.snd.fst y26.val.snd.snd.snd.snd) (z2_,[cG R (V.sb R.lo) (V.int IntKind.i64 q1) (V.int IntKind.i64 q2) (V.arr 128 (dns IntKind.u8 y26.val.snd.snd.fst)) (V.sb true) (tbV y26.val.snd.snd.snd.snd) (V.sb false) (V.mp 1) (V.mp 2) (V.ipo none) (V.sl 3 0 (nO R)) (V.sl 5 0 (List.map dnD R.done ++ yl y28).length),mpF I,mpF Q,rO R,KO.dead,KO.row 46 7 (List.map dnD R.done ++ yl y28)])) ∧
 (At (sy09_l R T I Q u fr kd q0 q1 q2 b ls y26.val.snd.snd.fst y26.val.snd.snd.snd.snd) (z2_,[cG R (V.sb R.lo) (V.int IntKind.i64 q1) (V.int IntKind.i64 q2) (V.arr 128 (dns IntKind.u8 y26.val.snd.snd.fst)) (V.sb true) (tbV y26.val.snd.snd.snd.snd) (V.sb false) (V.mp 1) (V.mp 2) (V.ipo none) (V.sl 3 0 (nO R)) (V.sl 5 0 (List.map dnD R.done ++ yl y28).length),mpF I,mpF Q,rO R,KO.dead,KO.row 46 7 (List.map dnD R.done ++ yl y28)]) ∧
 At (sy09_l R T I Q u fr kd q0 q1 q2 b ls y26.val.snd.snd.fst y26.val.snd.snd.snd.snd) (z2_,[cG R (V.sb R.lo) (V.int IntKind.i64 q1) (V.int IntKind.i64 q2) (V.arr 128 (dns IntKind.u8 y26.val.snd.snd.fst)) (V.sb true) (tbV y26.val.snd.snd.snd.snd) (V.sb false) (V.mp 1) (V.mp 2) (V.ipo none) (V.sl 3 0 (nO R)) (V.sl 5 0 (List.map dnD R.done ++ yl y28).length),mpF I,mpF Q,rO R,KO.dead,KO.row 46 7 (List.map dnD R.done ++ yl y28)]) ∧
 At (sy09_l R T I Q u fr kd q0 q1 q2 b ls y26.val.snd.snd.fst y26.val.snd.snd.snd.snd) (z2_,[cG R (V.sb R.lo) (V.int IntKind.i64 q1) (V.int IntKind.i64 q2) (V.arr 128 (dns IntKind.u8 y26.val.snd.snd.fst)) (V.sb true) (tbV y26.val.snd.snd.snd.snd) (V.sb false) (V.mp 1) (V.mp 2) (V.ipo none) (V.sl 3 0 (nO R)) (V.sl 5 0 (List.map dnD R.done ++ yl y28).length),mpF I,mpF Q,rO R,KO.dead,KO.row 46 7 (List.map dnD R.done ++ yl y28)])) ∧
 (At (sy09_l R T I Q u fr kd q0 q1 q2 b ls y26.val.snd.snd.fst y26.val.snd.snd.snd.snd) (z2_,[cG R (V.sb R.lo) (V.int IntKind.i64 q1) (V.int IntKind.i64 q2) (V.arr 128 (dns IntKind.u8 y26.val.snd.snd.fst)) (V.sb true) (tbV y26.val.snd.snd.snd.snd) (V.sb false) (V.mp 1) (V.mp 2) (V.ipo none) (V.sl 3 0 (nO R)) (V.sl 5 0 (List.map dnD R.done ++ yl y28).length),mpF I,mpF Q,rO R,KO.dead,KO.row 46 7 (List.map dnD R.done ++ yl y28)]) ∧
 At (sy09_l R T I Q u fr kd q0 q1 q2 b ls y26.val.snd.snd.fst y26.val.snd.snd.snd.snd) (z2_,[cG R (V.sb R.lo) (V.int IntKind.i64 q1) (V.int IntKind.i64 q2) (V.arr 128 (dns IntKind.u8 y26.val.snd.snd.fst)) (V.sb true) (tbV y26.val.snd.snd.snd.snd) (V.sb false) (V.mp 1) (V.mp 2) (V.ipo none) (V.sl 3 0 (nO R)) (V.sl 5 0 (List.map dnD R.done ++ yl y28).length),mpF I,mpF Q,rO R,KO.dead,KO.row 46 7 (List.map dnD R.done ++ yl y28)]) ∧
 At (sy09_l R T I Q u fr kd q0 q1 q2 b ls y26.val.snd.snd.fst y26.val.snd.snd.snd.snd) (z2_,[cG R (V.sb R.lo) (V.int IntKind.i64 q1) (V.int IntKind.i64 q2) (V.arr 128 (dns IntKind.u8 y26.val.snd.snd.fst)) (V.sb true) (tbV y26.val.snd.snd.snd.snd) (V.sb false) (V.mp 1) (V.mp 2) (V.ipo none) (V.sl 3 0 (nO R)) (V.sl 5 0 (List.map dnD R.done ++ yl y28).length),mpF I,mpF Q,rO R,KO.dead,KO.row 46 7 (List.map dnD R.done ++ yl y28)])) ∧
 (At (sy09_l R T I Q u fr kd q0 q1 q2 b ls y26.val.snd.snd.fst y26.val.snd.snd.snd.snd) (z2_,[cG R (V.sb R.lo) (V.int IntKind.i64 q1) (V.int IntKind.i64 q2) (V.arr 128 (dns IntKind.u8 y26.val.snd.snd.fst)) (V.sb true) (tbV y26.val.snd.snd.snd.snd) (V.sb false) (V.mp 1) (V.mp 2) (V.ipo none) (V.sl 3 0 (nO R)) (V.sl 5 0 (List.map dnD R.done ++ yl y28).length),mpF I,mpF Q,rO R,KO.dead,KO.row 46 7 (List.map dnD R.done ++ yl y28)]) ∧
 At (sy09_l R T I Q u fr kd q0 q1 q2 b ls y26.val.snd.snd.fst y26.val.snd.snd.snd.snd) (z2_,[cG R (V.sb R.lo) (V.int IntKind.i64 q1) (V.int IntKind.i64 q2) (V.arr 128 (dns IntKind.u8 y26.val.snd.snd.fst)) (V.sb true) (tbV y26.val.snd.snd.snd.snd) (V.sb false) (V.mp 1) (V.mp 2) (V.ipo none) (V.sl 3 0 (nO R)) (V.sl 5 0 (List.map dnD R.done ++ yl y28).length),mpF I,mpF Q,rO R,KO.dead,KO.row 46 7 (List.map dnD R.done ++ yl y28)])) ∧
 At (sy09_l R T I Q u fr kd q0 q1 q2 b ls y26.val.snd.snd.fst y26.val.snd.snd.snd.snd) (z2_,[cG R (V.sb R.lo) (V.int IntKind.i64 q1) (V.int IntKind.i64 q2) (V.arr 128 (dns IntKind.u8 y26.val.snd.snd.fst)) (V.sb true) (tbV y26.val.snd.snd.snd.snd) (V.sb false) (V.mp 1) (V.mp 2) (V.ipo none) (V.sl 3 0 (nO R)) (V.sl 5 0 (List.map dnD R.done ++ yl y28).length),mpF I,mpF Q,rO R,KO.dead,KO.row 46 7 (List.map dnD R.done ++ yl y28)]) ∧
 At (sy09_l R T I Q u fr kd q0 q1 q2 b ls y26.val.snd.snd.fst y26.val.snd.snd.snd.snd) (z2_,[cG R (V.sb R.lo) (V.int IntKind.i64 q1) (V.int IntKind.i64 q2) (V.arr 128 (dns IntKind.u8 y26.val.snd.snd.fst)) (V.sb true) (tbV y26.val.snd.snd.snd.snd) (V.sb false) (V.mp 1) (V.mp 2) (V.ipo none) (V.sl 3 0 (nO R)) (V.sl 5 0 (List.map dnD R.done ++ yl y28).length),mpF I,mpF Q,rO R,KO.dead,KO.row 46 7 (List.map dnD R.done ++ yl y28)])) ∧
 ∀ (y29 : Unit),1 ≤ 1 ∧
 ∀ (y30 : Nat →
 Value),nO R = (nO R) ∧
 LenR (nO R) ∧
 LenR 1 ∧
 SmF y30 [0,2,3,5,7,8,9,10,11,12,13,14,15,16,17,18,19,21] ∧
 ∀ (y31 : Nat →
 Value),K (V.tup []) [cG R (V.sb R.lo) (V.int IntKind.i64 q1) (V.int IntKind.i64 q2) (V.arr 128 (dns IntKind.u8 y26.val.snd.snd.fst)) (V.sb true) (tbV y26.val.snd.snd.snd.snd) (V.sb false) (V.any (y31 14)) (V.any (y31 15)) (V.ipo none) (V.sl 1 0 (nO R + 1)) (V.sl 2 0 (yD R).length),KO.row 76 5 (List.map postD R.out ++ [[dn IntKind.i64 fr,D.val (Value.int IntKind.i64 11),D.sl 1 [[dn IntKind.i64 R.id],[dn IntKind.i64 q1],[D.val (Value.int IntKind.i64 q2)]],D.sl 1 [],D.sl 1 []]]),KO.row 46 7 (yD R)]))
 ) : runSpec Try.prog XMs (syT_l R T I Q u fr kd q0 q1 q2 b ls) 35 [.ptr 0 0,.int .i64 fr,.agg [.int .i64 kd,.dat (.sl 1 [[dn .i64 q0],[dn .i64 q1],[dn .i64 q2]]),.dat (.sl 1 (ints .u8 b)),.dat (.sl 1 (lsD ls))]] [cR R (tbV T) (.sb true) (.mp 1) (.mp 2) (.ipo u) (.sl 3 0 (nO R)) (.sl 4 0 (nD R)),mpF I,mpF Q,rO R,rD R] (rootH 13 msLd K):=by apply Eq.mp (a:=hvc_); kernel_rfl
theorem tabW_inj {x y : List L3} (hx : OkX x) (hy : OkX y) (h : tabW x = tabW y) : x = y:=by
  obtain ⟨h1,h2⟩:=lIt_of hx
  obtain ⟨h3,h4⟩:=lIt_of hy
  have hlen : x.length = y.length:=by rw [← h1,h,h3]
  have e1:=h2 x.length (Nat.le_refl _)
  have e2:=h4 y.length (Nat.le_refl _)
  rw [List.take_length] at e1 e2
  rw [h,hlen,e2] at e1
  exact (congrArg (·.2) e1).symm
theorem okX_nil : OkX []:=⟨List.Pairwise.nil,fun p hp => (by cases hp),by simp⟩
theorem tab_okX {M : ML} {x : List L3} (h : Tab M x) : OkX x:=⟨h.inc,h.rg,h.len⟩
theorem loadT_none {b : List Int} (h : ¬ ∃ x,OkX x∧b = tabW x) : loadT b = none:=by unfold loadT; rw [dif_neg h]
theorem loadT_of {b : List Int} {x : List L3} (hx : OkX x) (h : b = tabW x) : loadT b = some x:=by
  have hex : ∃ x,OkX x∧b = tabW x:=⟨x,hx,h⟩
  have hc:=hex.choose_spec
  have e : hex.choose = x:=tabW_inj hc.1 hx (hc.2.symm.trans h)
  unfold loadT
  rw [dif_pos hex,e]
theorem syncR_nk {R : Rep} {fr kd q0 q1 q2 : Int} {b : List Int} {ls : List (List Int)} (h : syNk R q1 q2 ls) : syncR R fr ⟨kd,[q0,q1,q2],b,ls⟩ = nackR R fr:=by
  unfold syncR; exact if_pos h
theorem syncR_bad {R : Rep} {fr kd q0 q1 q2 : Int} {b : List Int} {ls : List (List Int)} (h : ¬ syNk R q1 q2 ls) (h2 : loadC b = none∨loadT (ls.getD 0 []) = none) : syncR R fr ⟨kd,[q0,q1,q2],b,ls⟩ = R:=by
  unfold syncR
  refine (if_neg h).trans ?_
  rcases h2 with h2 | h2
  · simp only [h2]
  · simp only [h2]
    cases loadC b <;> rfl
theorem syncR_ok {R : Rep} {fr kd q0 q1 q2 : Int} {b c : List Int} {t : List L3} {ls : List (List Int)} (h : ¬ syNk R q1 q2 ls) (hc : loadC b = some c) (ht : loadT (ls.getD 0 []) = some t) :
    syncR R fr ⟨kd,[q0,q1,q2],b,ls⟩ = { R with ld:=none,done:=(yieldR R).done,ep:=q1,nu:=q2,c:=c,t:=t,ch:=true,out:=R.out ++ [⟨fr,⟨11,[R.id,q1,q2],[],[]⟩⟩] }:=by
  unfold syncR
  refine (if_neg h).trans ?_
  simp only [hc,ht]
  rfl
theorem msS_ok : AllOk Try.prog msS:=fun f k h => by
  unfold msS at h
  split at h
  · cases h; exact hideIn_ok okNack _
  · cases h; exact okBLoad
  · cases h; exact okLoad
  · cases h; exact hideIn_ok okYield _
  · cases h; exact okIsRight
  · cases h; exact hideIn_ok okCSum _
  · cases h; exact hideIn_ok okDo _
  · cases h; exact hideIn_ok okFinish _
  · cases h; exact hideIn_ok okState _
  · cases h; exact hideIn_ok okSend _
  · cases h
theorem XMs_ok : CallOk Try.prog XMs:=callS_ok mixed msS_ok noT 10
theorem loadC_none {b : List Int} (h : ∀ m,openI b = some m→m.length = 128→False) : loadC b = none:=by
  unfold loadC
  cases ho : openI b with
  | none => rfl
  | some m => simp only; rw [if_neg (h m ho)]
theorem sync_n (R : Rep) (T : ML) (a14 a15 : Value) (fr kd q0 q1 q2 : Int) (b : List Int) (ls : List (List Int)) (hT : Tab T R.t) (hl : R.ld = none) (hR : RepOk R) (hb : Byt b) (hbl : b.length ≤ 900000) (hls : ∀ y ∈ ls,Byt y∧y.length ≤ 140737488355328) (hkbA : ∀ a14 a15,RepKB R [cR R (tbV T) (.sb false) (.any a14) (.any a15) (.ipo none) (.sl 1 0 (nO R)) (.sl 2 0 (nD R)),rO R,rD R]) (K : V→KB→Prop) (hK : ∀ kb',RepKB (syncR R fr ⟨kd,[q0,q1,q2],b,ls⟩) kb'→K (.tup []) kb') : runSpec Try.prog XMs (syT_n R T a14 a15 fr kd q0 q1 q2 b ls) 35 [.ptr 0 0,.int .i64 fr,.agg [.int .i64 kd,.dat (.sl 1 [[dn .i64 q0],[dn .i64 q1],[dn .i64 q2]]),.dat (.sl 1 (ints .u8 b)),.dat (.sl 1 (lsD ls))]] [cR R (tbV T) (.sb false) (.any a14) (.any a15) (.ipo none) (.sl 1 0 (nO R)) (.sl 2 0 (nD R)),rO R,rD R] (rootH 13 msLd K):=by
  have fin : ∀ {R' : Rep} {kb' : KB},syncR R fr ⟨kd,[q0,q1,q2],b,ls⟩ = R'→RepKB R' kb'→K (.tup []) kb':=fun {R' kb'} h1 h2 => by
    have:=hK kb'
    rw [h1] at this
    exact this h2
  have hol : nO R ≤ 1000000:=by show (List.map postD R.out).length ≤ _; rw [List.length_map]; have:=hR.ol; omega
  have hdl : nD R ≤ 1000000:=by show (List.map dnD R.done).length ≤ _; rw [List.length_map]; have:=hR.dl; omega
  have hlead : leadsR R = false:=by simp [leadsR,hl]
  have hcq : none = (curR R).map opD:=by simp [curR,hl]
  have nk : syNk R q1 q2 ls→∀ f : Nat→Value,K (.tup []) [cR R (tbV T) (.sb false) (.any (f 14)) (.any (f 15)) (.ipo none) (.sl 1 0 (nO R + 1)) (.sl 2 0 (nD R)),.row 76 5 (List.map postD R.out ++ [pst fr 14 R.id R.ep [[dn .i64 R.nu]] [] []]),rD R]:=fun h f => fin (syncR_nk h) (by
    unfold RepKB nackR sendR
    simp only [hl]
    refine ⟨f 14,f 15,T,hT,?_⟩
    simp [cR,postD,msgD,pst,dn,ints,ints_nil])
  have sm : ¬ syNk R q1 q2 ls→(loadC b = none∨loadT (ls.getD 0 []) = none)→∀ f : Nat→Value,K (.tup []) [cR R (tbV T) (.sb false) (.any (f 14)) (.any (f 15)) (.ipo none) (.sl 1 0 (nO R)) (.sl 2 0 (nD R)),rO R,rD R]:=fun h h2 f => fin (syncR_bad h h2) (hkbA _ _)
  have okb : ∀ cc y M,Tab M y→¬ syNk R q1 q2 ls→loadC b = some cc→loadT (ls.getD 0 []) = some y→∀ f : Nat→Value,K (.tup []) [cG R (.sb R.lo) (.int .i64 q1) (.int .i64 q2) (.arr 128 (dns .u8 cc)) (.sb true) (tbV M) (.sb false) (.any (f 14)) (.any (f 15)) (.ipo none) (.sl 1 0 (nO R + 1)) (.sl 2 0 (yD R).length),.row 76 5 (List.map postD R.out ++ [pst fr 11 R.id q1 [[dn .i64 q2]] [] []]),.row 46 7 (yD R)]:=fun cc y M hM h hc ht2 f => fin (syncR_ok h hc ht2) (by
    unfold RepKB
    refine ⟨f 14,f 15,M,hM,?_⟩
    simp only [nD,rD,yield_done]
    simp [cR,cG,postD,msgD,pst,dn,ints,ints_nil])
  refine vcSync_n R T a14 a15 fr kd q0 q1 q2 b ls K ⟨(by decide : (0 : Int) ≤ 1),_,rfl,q1,rfl,(by decide : (0 : Int) ≤ 2),_,rfl,q2,rfl,⟨fun e1 => fun f => ⟨rfl,⟨hol⟩,⟨by simp [SameL]⟩,fun f => nk (.inl (show q1 < R.ep by simpa using e1)) f⟩,fun e1 => ⟨fun e2 => ⟨fun e3 => fun f => ⟨rfl,⟨hol⟩,⟨by simp [SameL]⟩,fun f => nk (.inr (.inl ⟨show q1 = R.ep by simpa using e2,.inl (show q2 < R.nu by simpa using e3)⟩)) f⟩,fun e3 => ⟨fun f => (by cases f),fun _ => ⟨fun e4 => fun f => ⟨rfl,⟨hol⟩,⟨by simp [SameL]⟩,fun f => nk (.inr (.inr (by have:=e4; simp [lsD] at this; omega))) f⟩,fun e4 => At.mk' ⟨(),fun h => h.elim (fun h => absurd h (show ¬ q1 < R.ep by simpa using e1)) (fun h => h.elim (fun h => h.2.elim (fun h => absurd h (show ¬ q2 < R.nu by simpa using e3)) (fun h => absurd h (by rw [hlead]; decide))) (fun h => h (show ls.length = 1 by have:=e4; simp [lsD] at this; omega)))⟩ rfl⟩⟩⟩,fun e2 => ⟨fun e4 => fun f => ⟨rfl,⟨hol⟩,⟨by simp [SameL]⟩,fun f => nk (.inr (.inr (by have:=e4; simp [lsD] at this; omega))) f⟩,fun e4 => At.mk' ⟨(),fun h => h.elim (fun h => absurd h (show ¬ q1 < R.ep by simpa using e1)) (fun h => h.elim (fun h => absurd h.1 (show ¬ q1 = R.ep by simpa using e2)) (fun h => h (show ls.length = 1 by have:=e4; simp [lsD] at this; omega)))⟩ rfl⟩⟩⟩,fun i4 => ⟨⟨b,rfl,hb,hbl,fun m h1 h2 => At.mk' ⟨(true,m),i4.2,fun _ => by simp [loadC,h1,h2],fun f => (by cases f)⟩ rfl,fun h => At.mk' ⟨(false,z128),i4.2,fun f => (by cases f),fun _ => loadC_none h⟩ rfl⟩,fun i5 => ⟨?_,fun a => ⟨fun e => fun f => sm a.2.1 (.inl (a.2.2.c0 (by simpa using e))) f,fun e => ⟨fun e2 => fun f => sm a.2.1 (.inr (a.2.2.t0 (by simpa using e2))) f,fun e2 f => ⟨rfl,⟨hdl⟩,curR R,hcq,⟨by simp [SameL]⟩,?_,fun _ => ⟨Nat.le_refl _,fun f => ⟨rfl,⟨hol⟩,⟨by decide⟩,⟨by simp [SameL]⟩,fun f => okb _ _ _ (a.2.2.t1 (by simpa using e2)).2 a.2.1 (a.2.2.c1 (by simpa using e)) (a.2.2.t1 (by simpa using e2)).1 f⟩⟩⟩⟩⟩⟩⟩⟩
  · obtain ⟨y,rfl⟩ : ∃ y,ls = [y]:=by
      have : ls.length = 1:=Decidable.byContradiction fun h => i5.2.1 (.inr (.inr h))
      match ls,this with
      | [y],_ => exact ⟨y,rfl⟩
    obtain ⟨hy,hyl⟩:=hls y (by simp)
    exact ⟨Int.le_refl _,_,rfl,_,rfl,y,rfl,hy,by omega,fun h => At.mk' ⟨(i5.1.1,false,i5.1.2,[],[]),i5.2.1,i5.2.2.c1,i5.2.2.c0,fun f => (by cases f),fun _ => loadT_none h⟩ rfl,fun x M hM h => At.mk' ⟨(i5.1.1,true,i5.1.2,x,M),i5.2.1,i5.2.2.c1,i5.2.2.c0,fun _ => ⟨loadT_of (tab_okX hM) h,hM⟩,fun f => (by cases f)⟩ rfl⟩
  · repeat' first
      | exact At.mk' () rfl
      | rfl
      | refine And.intro ?_ ?_
theorem sync_l (R : Rep) (T : ML) (I Q : ML) (L : Lead) (fr kd q0 q1 q2 : Int) (b : List Int) (ls : List (List Int)) (hT : Tab T R.t) (hl : R.ld = some L) (hI : MB I L.ins) (hQ : MB Q L.acks) (hR : RepOk R) (hb : Byt b) (hbl : b.length ≤ 900000) (hls : ∀ y ∈ ls,Byt y∧y.length ≤ 140737488355328) (hkb : RepKB R [cR R (tbV T) (.sb true) (.mp 1) (.mp 2) (.ipo (L.cur.map opD)) (.sl 3 0 (nO R)) (.sl 4 0 (nD R)),mpF I,mpF Q,rO R,rD R]) (K : V→KB→Prop) (hK : ∀ kb',RepKB (syncR R fr ⟨kd,[q0,q1,q2],b,ls⟩) kb'→K (.tup []) kb') : runSpec Try.prog XMs (syT_l R T I Q (L.cur.map opD) fr kd q0 q1 q2 b ls) 35 [.ptr 0 0,.int .i64 fr,.agg [.int .i64 kd,.dat (.sl 1 [[dn .i64 q0],[dn .i64 q1],[dn .i64 q2]]),.dat (.sl 1 (ints .u8 b)),.dat (.sl 1 (lsD ls))]] [cR R (tbV T) (.sb true) (.mp 1) (.mp 2) (.ipo (L.cur.map opD)) (.sl 3 0 (nO R)) (.sl 4 0 (nD R)),mpF I,mpF Q,rO R,rD R] (rootH 13 msLd K):=by
  have fin : ∀ {R' : Rep} {kb' : KB},syncR R fr ⟨kd,[q0,q1,q2],b,ls⟩ = R'→RepKB R' kb'→K (.tup []) kb':=fun {R' kb'} h1 h2 => by
    have:=hK kb'
    rw [h1] at this
    exact this h2
  have hol : nO R ≤ 1000000:=by show (List.map postD R.out).length ≤ _; rw [List.length_map]; have:=hR.ol; omega
  have hdl : nD R ≤ 1000000:=by show (List.map dnD R.done).length ≤ _; rw [List.length_map]; have:=hR.dl; omega
  have hlead : leadsR R = true:=by simp [leadsR,hl]
  have hcq : L.cur.map opD = (curR R).map opD:=by simp [curR,hl]
  have nk : syNk R q1 q2 ls→K (.tup []) [cR R (tbV T) (.sb true) (.mp 1) (.mp 2) (.ipo (L.cur.map opD)) (.sl 3 0 (nO R + 1)) (.sl 4 0 (nD R)),mpF I,mpF Q,.row 76 5 (List.map postD R.out ++ [pst fr 14 R.id R.ep [[dn .i64 R.nu]] [] []]),rD R]:=fun h => fin (syncR_nk h) (by
    unfold RepKB nackR sendR
    simp only [hl]
    refine ⟨I,Q,T,hI,hQ,hT,?_⟩
    simp [cR,postD,msgD,pst,dn,ints,ints_nil])
  have sm : ¬ syNk R q1 q2 ls→(loadC b = none∨loadT (ls.getD 0 []) = none)→K (.tup []) [cR R (tbV T) (.sb true) (.mp 1) (.mp 2) (.ipo (L.cur.map opD)) (.sl 3 0 (nO R)) (.sl 4 0 (nD R)),mpF I,mpF Q,rO R,rD R]:=fun h h2 => fin (syncR_bad h h2) hkb
  have okb : ∀ cc y M,Tab M y→¬ syNk R q1 q2 ls→loadC b = some cc→loadT (ls.getD 0 []) = some y→∀ f : Nat→Value,K (.tup []) [cG R (.sb R.lo) (.int .i64 q1) (.int .i64 q2) (.arr 128 (dns .u8 cc)) (.sb true) (tbV M) (.sb false) (.any (f 14)) (.any (f 15)) (.ipo none) (.sl 1 0 (nO R + 1)) (.sl 2 0 (yD R).length),.row 76 5 (List.map postD R.out ++ [pst fr 11 R.id q1 [[dn .i64 q2]] [] []]),.row 46 7 (yD R)]:=fun cc y M hM h hc ht2 f => fin (syncR_ok h hc ht2) (by
    unfold RepKB
    refine ⟨f 14,f 15,M,hM,?_⟩
    simp only [nD,rD,yield_done]
    simp [cR,cG,postD,msgD,pst,dn,ints,ints_nil])
  refine vcSync_l R T I Q (L.cur.map opD) fr kd q0 q1 q2 b ls K ⟨(by decide : (0 : Int) ≤ 1),_,rfl,q1,rfl,(by decide : (0 : Int) ≤ 2),_,rfl,q2,rfl,⟨fun e1 => fun f => ⟨rfl,⟨hol⟩,⟨by simp [SameL]⟩,nk (.inl (show q1 < R.ep by simpa using e1))⟩,fun e1 => ⟨fun e2 => ⟨fun e3 => fun f => ⟨rfl,⟨hol⟩,⟨by simp [SameL]⟩,nk (.inr (.inl ⟨show q1 = R.ep by simpa using e2,.inl (show q2 < R.nu by simpa using e3)⟩))⟩,fun e3 => ⟨fun _ => fun f => ⟨rfl,⟨hol⟩,⟨by simp [SameL]⟩,nk (.inr (.inl ⟨show q1 = R.ep by simpa using e2,.inr hlead⟩))⟩,fun f => (by cases f)⟩⟩,fun e2 => ⟨fun e4 => fun f => ⟨rfl,⟨hol⟩,⟨by simp [SameL]⟩,nk (.inr (.inr (by have:=e4; simp [lsD] at this; omega)))⟩,fun e4 => At.mk' ⟨(),fun h => h.elim (fun h => absurd h (show ¬ q1 < R.ep by simpa using e1)) (fun h => h.elim (fun h => absurd h.1 (show ¬ q1 = R.ep by simpa using e2)) (fun h => h (show ls.length = 1 by have:=e4; simp [lsD] at this; omega)))⟩ rfl⟩⟩⟩,fun i4 => ⟨⟨b,rfl,hb,hbl,fun m h1 h2 => At.mk' ⟨(true,m),i4.2,fun _ => by simp [loadC,h1,h2],fun f => (by cases f)⟩ rfl,fun h => At.mk' ⟨(false,z128),i4.2,fun f => (by cases f),fun _ => loadC_none h⟩ rfl⟩,fun i5 => ⟨?_,fun a => ⟨fun e => sm a.2.1 (.inl (a.2.2.c0 (by simpa using e))),fun e => ⟨fun e2 => sm a.2.1 (.inr (a.2.2.t0 (by simpa using e2))),fun e2 f => ⟨rfl,⟨hdl⟩,curR R,hcq,⟨by simp [SameL]⟩,?_,fun _ => ⟨Nat.le_refl _,fun f => ⟨rfl,⟨hol⟩,⟨by decide⟩,⟨by simp [SameL]⟩,fun f => okb _ _ _ (a.2.2.t1 (by simpa using e2)).2 a.2.1 (a.2.2.c1 (by simpa using e)) (a.2.2.t1 (by simpa using e2)).1 f⟩⟩⟩⟩⟩⟩⟩⟩
  · obtain ⟨y,rfl⟩ : ∃ y,ls = [y]:=by
      have : ls.length = 1:=Decidable.byContradiction fun h => i5.2.1 (.inr (.inr h))
      match ls,this with
      | [y],_ => exact ⟨y,rfl⟩
    obtain ⟨hy,hyl⟩:=hls y (by simp)
    exact ⟨Int.le_refl _,_,rfl,_,rfl,y,rfl,hy,by omega,fun h => At.mk' ⟨(i5.1.1,false,i5.1.2,[],[]),i5.2.1,i5.2.2.c1,i5.2.2.c0,fun f => (by cases f),fun _ => loadT_none h⟩ rfl,fun x M hM h => At.mk' ⟨(i5.1.1,true,i5.1.2,x,M),i5.2.1,i5.2.2.c1,i5.2.2.c0,fun _ => ⟨loadT_of (tab_okX hM) h,hM⟩,fun f => (by cases f)⟩ rfl⟩
  · repeat' first
      | exact At.mk' () rfl
      | rfl
      | refine And.intro ?_ ?_
def Msync : FSpec:=fun args kb K => ∃ R fr kd q0 q1 q2 b ls,args = [.ptr 0 0,.int .i64 fr,.agg [.int .i64 kd,.dat (.sl 1 [[dn .i64 q0],[dn .i64 q1],[dn .i64 q2]]),.dat (.sl 1 (ints .u8 b)),.dat (.sl 1 (lsD ls))]]∧RepKB R kb∧RepOk R∧Byt b∧b.length ≤ 900000∧(∀ y ∈ ls,Byt y∧y.length ≤ 140737488355328)∧∀ kb',RepKB (syncR R fr ⟨kd,[q0,q1,q2],b,ls⟩) kb'→K (.tup []) kb'
theorem okSync : MethOk Try.prog 35 Msync:=methOk_runH mixed 13 msLd (fun args kb K h => by
  obtain ⟨R,fr,kd,q0,q1,q2,b,ls,rfl,hkb,hR,hb,hbl,hls,hK⟩:=h
  have hkb0:=hkb
  unfold RepKB at hkb
  split at hkb
  · rename_i hl
    obtain ⟨a14,a15,T,hT,rfl⟩:=hkb
    exact ⟨_,_,XMs_ok,sync_n R T a14 a15 fr kd q0 q1 q2 b ls hT hl hR hb hbl hls (fun a b => by unfold RepKB; simp only [hl]; exact ⟨a,b,T,hT,rfl⟩) K hK⟩
  · rename_i L hl
    obtain ⟨I,Q,T,hI,hQ,hT,rfl⟩:=hkb
    exact ⟨_,_,XMs_ok,sync_l R T I Q L fr kd q0 q1 q2 b ls hT hl hI hQ hR hb hbl hls hkb0 K hK⟩)
end Go.Proofs.Ytfcjngcnifdmnaa
