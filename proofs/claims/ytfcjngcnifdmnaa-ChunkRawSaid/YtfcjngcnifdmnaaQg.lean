import Derived.Test.YtfcjngcnifdmnaaQf
import Derived.KernelRfl
namespace Go.Proofs.Ytfcjngcnifdmnaa
open Vc Go
set_option linter.unusedVariables false
set_option linter.unusedSimpArgs false
set_option maxRecDepth 100000
theorem vcSyncOk_n (R : Rep) (T : ML) (a14 a15 : Value) (fr kd q0 q1 q2 : Int) (b : List Int) (ls : List (List Int)) (K : V→KB→Prop) (hvc_ :
 let z1_:=[[dn IntKind.i64 q0],[dn IntKind.i64 q1],[dn IntKind.i64 q2]]; (true = true →
 ∀ (y1 : Nat →
 Value),K (V.tup []) [cR R (tbV T) (V.sb false) (V.any (y1 14)) (V.any (y1 15)) (V.ipo none) (V.sl 1 0 (nO R)) (V.sl 2 0 (nD R)),rO R,rD R]) ∧
 (true = false →
 NonN 1 ∧
 ∃ (y2 : List D),z1_[1]? = some y2 ∧
 ∃ (y3 : Int),y2[0]? = some (D.val (Value.int IntKind.i64 y3)) ∧
 ((y3 != R.ep) = true →
 ∀ (y4 : Nat →
 Value),K (V.tup []) [cR R (tbV T) (V.sb false) (V.any (y4 14)) (V.any (y4 15)) (V.ipo none) (V.sl 1 0 (nO R)) (V.sl 2 0 (nD R)),rO R,rD R]) ∧
 ((y3 != R.ep) = false →
 NonN 2 ∧
 ∃ (y5 : List D),z1_[2]? = some y5 ∧
 ∃ (y6 : Int),y5[0]? = some (D.val (Value.int IntKind.i64 y6)) ∧
 ((y6 != R.nu) = true →
 ∀ (y7 : Nat →
 Value),K (V.tup []) [cR R (tbV T) (V.sb false) (V.any (y7 14)) (V.any (y7 15)) (V.ipo none) (V.sl 1 0 (nO R)) (V.sl 2 0 (nD R)),rO R,rD R]) ∧
 ((y6 != R.nu) = false →
 False)))
 ) : runSpec Try.prog XMs (fun _ => none) 36 [.ptr 0 0,.int .i64 fr,.agg [.int .i64 kd,.dat (.sl 1 [[dn .i64 q0],[dn .i64 q1],[dn .i64 q2]]),.dat (.sl 1 (ints .u8 b)),.dat (.sl 1 (lsD ls))]] [cR R (tbV T) (.sb false) (.any a14) (.any a15) (.ipo none) (.sl 1 0 (nO R)) (.sl 2 0 (nD R)),rO R,rD R] (rootH 13 msLd K):=by apply Eq.mp (a:=hvc_); kernel_rfl
theorem vcSyncOk_l (R : Rep) (T : ML) (I Q : ML) (u : Option (List D)) (fr kd q0 q1 q2 : Int) (b : List Int) (ls : List (List Int)) (K : V→KB→Prop) (hvc_ :
 let z1_:=cR R (tbV T) (V.sb true) (V.mp 1) (V.mp 2) (V.ipo u) (V.sl 3 0 (nO R)) (V.sl 4 0 (nD R)); let z2_:=[[dn IntKind.i64 q0],[dn IntKind.i64 q1],[dn IntKind.i64 q2]]; (false = true →
 K (V.tup []) [z1_,mpF I,mpF Q,rO R,rD R]) ∧
 (false = false →
 NonN 1 ∧
 ∃ (y1 : List D),z2_[1]? = some y1 ∧
 ∃ (y2 : Int),y1[0]? = some (D.val (Value.int IntKind.i64 y2)) ∧
 ((y2 != R.ep) = true →
 K (V.tup []) [z1_,mpF I,mpF Q,rO R,rD R]) ∧
 ((y2 != R.ep) = false →
 NonN 2 ∧
 ∃ (y3 : List D),z2_[2]? = some y3 ∧
 ∃ (y4 : Int),y3[0]? = some (D.val (Value.int IntKind.i64 y4)) ∧
 ((y4 != R.nu) = true →
 K (V.tup []) [z1_,mpF I,mpF Q,rO R,rD R]) ∧
 ((y4 != R.nu) = false →
 ((!u.isNone) = true →
 ∀ (y5 : Nat →
 Value),nD R = (nD R) ∧
 LenR (nD R) ∧
 ∃ (y6 : List Int),∃ (y7 : List Int),∃ (y8 : List Int),∃ (y9 : Op),Cnt (dns IntKind.u8 R.c) y8 ∧
 ints IntKind.i64 R.v.mem = ints IntKind.i64 y6 ∧
 ints IntKind.i64 R.v.joi = ints IntKind.i64 y7 ∧
 Len5 (y6.length + y7.length) ∧
 BoolM (mset Q [fr] [D.val (Value.bool true)]) ∧
 u = some (opD y9) ∧
 okI y9.bk ∧
 (allI R.me y6 y7 (mset Q [fr] [D.val (Value.bool true)]) = false →
 SmF y5 [1,2,3,4,5,7,8,9,10,13,14,17,18,19,20] ∧
 K (V.tup []) [z1_,mpF (mset I [fr] [D.val (Value.bool true)]),mpF (mset Q [fr] [D.val (Value.bool true)]),rO R,rD R]) ∧
 (allI R.me y6 y7 (mset Q [fr] [D.val (Value.bool true)]) = true →
 SmF y5 [1,2,3,4,5,7,8,9,10,13,14,17,18,19,20] ∧
 K (V.tup []) [cS R (V.int IntKind.i64 R.nu) (V.arr 128 (dns IntKind.u8 y8)) (V.sb R.ch) (tbV T) (V.sb true) (V.mp 1) (V.mp 2) (V.ipo none) (V.sl 3 0 (nO R)) (V.sl 4 0 (nD R + 1)),mpF (mset I [fr] [D.val (Value.bool true)]),mpF (mset Q [fr] [D.val (Value.bool true)]),rO R,KO.row 46 7 (List.map dnD R.done ++ [(opD y9 ++ [D.val (Value.int IntKind.i64 0),D.sl 1 (finX y8 y9.kd y9.bk)])])])) ∧
 ((!u.isNone) = false →
 K (V.tup []) [z1_,mpF (mset I [fr] [D.val (Value.bool true)]),mpF Q,rO R,rD R]))))
 ) : runSpec Try.prog XMs (fun _ => none) 36 [.ptr 0 0,.int .i64 fr,.agg [.int .i64 kd,.dat (.sl 1 [[dn .i64 q0],[dn .i64 q1],[dn .i64 q2]]),.dat (.sl 1 (ints .u8 b)),.dat (.sl 1 (lsD ls))]] [cR R (tbV T) (.sb true) (.mp 1) (.mp 2) (.ipo u) (.sl 3 0 (nO R)) (.sl 4 0 (nD R)),mpF I,mpF Q,rO R,rD R] (rootH 13 msLd K):=by apply Eq.mp (a:=hvc_); kernel_rfl
theorem vcOpOk_n (R : Rep) (T : ML) (a14 a15 : Value) (fr kd q0 q1 q2 : Int) (b : List Int) (ls : List (List Int)) (K : V→KB→Prop) (hvc_ :
 let z1_:=[[dn IntKind.i64 q0],[dn IntKind.i64 q1],[dn IntKind.i64 q2]]; (false = true →
 NonN 1 ∧
 ∃ (y1 : List D),z1_[1]? = some y1 ∧
 ∃ (y2 : Int),y1[0]? = some (D.val (Value.int IntKind.i64 y2)) ∧
 ((y2 == R.ep) = true →
 NonN 2 ∧
 ∃ (y3 : List D),z1_[2]? = some y3 ∧
 ∃ (y4 : Int),y3[0]? = some (D.val (Value.int IntKind.i64 y4)) ∧
 ((y4 == R.nu) = true →
 (false = true →
 False) ∧
 (false = false →
 ∀ (y5 : Nat →
 Value),K (V.tup []) [cR R (tbV T) (V.sb false) (V.any (y5 14)) (V.any (y5 15)) (V.ipo none) (V.sl 1 0 (nO R)) (V.sl 2 0 (nD R)),rO R,rD R])) ∧
 ((y4 == R.nu) = false →
 ∀ (y6 : Nat →
 Value),K (V.tup []) [cR R (tbV T) (V.sb false) (V.any (y6 14)) (V.any (y6 15)) (V.ipo none) (V.sl 1 0 (nO R)) (V.sl 2 0 (nD R)),rO R,rD R])) ∧
 ((y2 == R.ep) = false →
 ∀ (y7 : Nat →
 Value),K (V.tup []) [cR R (tbV T) (V.sb false) (V.any (y7 14)) (V.any (y7 15)) (V.ipo none) (V.sl 1 0 (nO R)) (V.sl 2 0 (nD R)),rO R,rD R])) ∧
 (false = false →
 ∀ (y8 : Nat →
 Value),K (V.tup []) [cR R (tbV T) (V.sb false) (V.any (y8 14)) (V.any (y8 15)) (V.ipo none) (V.sl 1 0 (nO R)) (V.sl 2 0 (nD R)),rO R,rD R])
 ) : runSpec Try.prog XMs (fun _ => none) 38 [.ptr 0 0,.int .i64 fr,.agg [.int .i64 kd,.dat (.sl 1 [[dn .i64 q0],[dn .i64 q1],[dn .i64 q2]]),.dat (.sl 1 (ints .u8 b)),.dat (.sl 1 (lsD ls))]] [cR R (tbV T) (.sb false) (.any a14) (.any a15) (.ipo none) (.sl 1 0 (nO R)) (.sl 2 0 (nD R)),rO R,rD R] (rootH 13 msLd K):=by apply Eq.mp (a:=hvc_); kernel_rfl
theorem vcOpOk_l (R : Rep) (T : ML) (I Q : ML) (u : Option (List D)) (fr kd q0 q1 q2 : Int) (b : List Int) (ls : List (List Int)) (K : V→KB→Prop) (hvc_ :
 let z1_ : KB:=[cR R (tbV T) (V.sb true) (V.mp 1) (V.mp 2) (V.ipo u) (V.sl 3 0 (nO R)) (V.sl 4 0 (nD R)),mpF I,mpF Q,rO R,rD R]; let z2_:=[[dn IntKind.i64 q0],[dn IntKind.i64 q1],[dn IntKind.i64 q2]]; (true = true →
 NonN 1 ∧
 ∃ (y1 : List D),z2_[1]? = some y1 ∧
 ∃ (y2 : Int),y1[0]? = some (D.val (Value.int IntKind.i64 y2)) ∧
 ((y2 == R.ep) = true →
 NonN 2 ∧
 ∃ (y3 : List D),z2_[2]? = some y3 ∧
 ∃ (y4 : Int),y3[0]? = some (D.val (Value.int IntKind.i64 y4)) ∧
 ((y4 == R.nu) = true →
 ((!u.isNone) = true →
 ∀ (y5 : Nat →
 Value),nD R = (nD R) ∧
 LenR (nD R) ∧
 ∃ (y6 : List Int),∃ (y7 : List Int),∃ (y8 : List Int),∃ (y9 : Op),Cnt (dns IntKind.u8 R.c) y8 ∧
 ints IntKind.i64 R.v.mem = ints IntKind.i64 y6 ∧
 ints IntKind.i64 R.v.joi = ints IntKind.i64 y7 ∧
 Len5 (y6.length + y7.length) ∧
 BoolM (mset Q [fr] [D.val (Value.bool true)]) ∧
 u = some (opD y9) ∧
 okI y9.bk ∧
 (allI R.me y6 y7 (mset Q [fr] [D.val (Value.bool true)]) = false →
 SmF y5 [1,2,3,4,5,7,8,9,10,13,14,17,18,19,20] ∧
 K (V.tup []) [cR R (tbV T) (V.sb true) (V.mp 1) (V.mp 2) (V.ipo u) (V.sl 3 0 (nO R)) (V.sl 4 0 (nD R)),mpF I,mpF (mset Q [fr] [D.val (Value.bool true)]),rO R,rD R]) ∧
 (allI R.me y6 y7 (mset Q [fr] [D.val (Value.bool true)]) = true →
 SmF y5 [1,2,3,4,5,7,8,9,10,13,14,17,18,19,20] ∧
 K (V.tup []) [cS R (V.int IntKind.i64 R.nu) (V.arr 128 (dns IntKind.u8 y8)) (V.sb R.ch) (tbV T) (V.sb true) (V.mp 1) (V.mp 2) (V.ipo none) (V.sl 3 0 (nO R)) (V.sl 4 0 (nD R + 1)),mpF I,mpF (mset Q [fr] [D.val (Value.bool true)]),rO R,KO.row 46 7 (List.map dnD R.done ++ [(opD y9 ++ [D.val (Value.int IntKind.i64 0),D.sl 1 (finX y8 y9.kd y9.bk)])])])) ∧
 ((!u.isNone) = false →
 K (V.tup []) z1_)) ∧
 ((y4 == R.nu) = false →
 K (V.tup []) z1_)) ∧
 ((y2 == R.ep) = false →
 K (V.tup []) z1_)) ∧
 (true = false →
 K (V.tup []) z1_)
 ) : runSpec Try.prog XMs (fun _ => none) 38 [.ptr 0 0,.int .i64 fr,.agg [.int .i64 kd,.dat (.sl 1 [[dn .i64 q0],[dn .i64 q1],[dn .i64 q2]]),.dat (.sl 1 (ints .u8 b)),.dat (.sl 1 (lsD ls))]] [cR R (tbV T) (.sb true) (.mp 1) (.mp 2) (.ipo u) (.sl 3 0 (nO R)) (.sl 4 0 (nD R)),mpF I,mpF Q,rO R,rD R] (rootH 13 msLd K):=by apply Eq.mp (a:=hvc_); kernel_rfl
theorem vcRefused_n (R : Rep) (T : ML) (a14 a15 : Value) (fr kd q0 q1 q2 : Int) (b : List Int) (ls : List (List Int)) (K : V→KB→Prop) (hvc_ :
 let z1_:=[[dn IntKind.i64 q0],[dn IntKind.i64 q1],[dn IntKind.i64 q2]]; (true = true →
 ∀ (y1 : Nat →
 Value),K (V.tup []) [cR R (tbV T) (V.sb false) (V.any (y1 14)) (V.any (y1 15)) (V.ipo none) (V.sl 1 0 (nO R)) (V.sl 2 0 (nD R)),rO R,rD R]) ∧
 (true = false →
 NonN 1 ∧
 ∃ (y2 : List D),z1_[1]? = some y2 ∧
 ∃ (y3 : Int),y2[0]? = some (D.val (Value.int IntKind.i64 y3)) ∧
 (decide (y3 > R.ep) = true →
 ∀ (y4 : Nat →
 Value),nD R = (nD R) ∧
 LenR (nD R) ∧
 ∃ (y5 : Option Op),none = Option.map opD y5 ∧
 SmF y4 [0,1,2,3,4,5,7,8,9,10,11,12,14,15,17,18,19,20] ∧
 ∀ (y6 : Nat →
 Value),K (V.tup []) [cR R (tbV T) (V.sb false) (V.any (y6 14)) (V.any (y6 15)) (V.ipo none) (V.sl 1 0 (nO R)) (V.sl 2 0 (List.map dnD R.done ++ yl y5).length),rO R,KO.row 46 7 (List.map dnD R.done ++ yl y5)]) ∧
 (decide (y3 > R.ep) = false →
 NonN 1 ∧
 ∃ (y7 : List D),z1_[1]? = some y7 ∧
 ∃ (y8 : Int),y7[0]? = some (D.val (Value.int IntKind.i64 y8)) ∧
 ((y8 == R.ep) = true →
 NonN 2 ∧
 ∃ (y9 : List D),z1_[2]? = some y9 ∧
 ∃ (y10 : Int),y9[0]? = some (D.val (Value.int IntKind.i64 y10)) ∧
 (decide (y10 > R.nu) = true →
 ∀ (y11 : Nat →
 Value),nD R = (nD R) ∧
 LenR (nD R) ∧
 ∃ (y12 : Option Op),none = Option.map opD y12 ∧
 SmF y11 [0,1,2,3,4,5,7,8,9,10,11,12,14,15,17,18,19,20] ∧
 ∀ (y13 : Nat →
 Value),K (V.tup []) [cG R (V.sb true) (V.int IntKind.i64 R.ep) (V.int IntKind.i64 R.nu) (V.arr 128 (dns IntKind.u8 R.c)) (V.sb R.ch) (tbV T) (V.sb false) (V.any (y13 14)) (V.any (y13 15)) (V.ipo none) (V.sl 1 0 (nO R)) (V.sl 2 0 (List.map dnD R.done ++ yl y12).length),rO R,KO.row 46 7 (List.map dnD R.done ++ yl y12)]) ∧
 (decide (y10 > R.nu) = false →
 False)) ∧
 ((y8 == R.ep) = false →
 False)))
 ) : runSpec Try.prog XMs (fun _ => none) 39 [.ptr 0 0,.int .i64 fr,.agg [.int .i64 kd,.dat (.sl 1 [[dn .i64 q0],[dn .i64 q1],[dn .i64 q2]]),.dat (.sl 1 (ints .u8 b)),.dat (.sl 1 (lsD ls))]] [cR R (tbV T) (.sb false) (.any a14) (.any a15) (.ipo none) (.sl 1 0 (nO R)) (.sl 2 0 (nD R)),rO R,rD R] (rootH 13 msLd K):=by apply Eq.mp (a:=hvc_); kernel_rfl
theorem vcRefused_l (R : Rep) (T : ML) (I Q : ML) (u : Option (List D)) (fr kd q0 q1 q2 : Int) (b : List Int) (ls : List (List Int)) (K : V→KB→Prop) (hvc_ :
 let z1_:=[[dn IntKind.i64 q0],[dn IntKind.i64 q1],[dn IntKind.i64 q2]]; let z2_:=D.sl 1 [[dn IntKind.i64 R.id],[dn IntKind.i64 R.ep],[dn IntKind.i64 R.nu]]; (false = true →
 K (V.tup []) [cR R (tbV T) (V.sb true) (V.mp 1) (V.mp 2) (V.ipo u) (V.sl 3 0 (nO R)) (V.sl 4 0 (nD R)),mpF I,mpF Q,rO R,rD R]) ∧
 (false = false →
 NonN 1 ∧
 ∃ (y1 : List D),z1_[1]? = some y1 ∧
 ∃ (y2 : Int),y1[0]? = some (D.val (Value.int IntKind.i64 y2)) ∧
 (decide (y2 > R.ep) = true →
 ∀ (y3 : Nat →
 Value),nD R = (nD R) ∧
 LenR (nD R) ∧
 ∃ (y4 : Option Op),u = Option.map opD y4 ∧
 SmF y3 [0,1,2,3,4,5,7,8,9,10,11,12,14,15,17,18,19,20] ∧
 ∀ (y5 : Nat →
 Value),K (V.tup []) [cR R (tbV T) (V.sb false) (V.any (y5 14)) (V.any (y5 15)) (V.ipo none) (V.sl 1 0 (nO R)) (V.sl 2 0 (List.map dnD R.done ++ yl y4).length),rO R,KO.row 46 7 (List.map dnD R.done ++ yl y4)]) ∧
 (decide (y2 > R.ep) = false →
 NonN 1 ∧
 ∃ (y6 : List D),z1_[1]? = some y6 ∧
 ∃ (y7 : Int),y6[0]? = some (D.val (Value.int IntKind.i64 y7)) ∧
 ((y7 == R.ep) = true →
 NonN 2 ∧
 ∃ (y8 : List D),z1_[2]? = some y8 ∧
 ∃ (y9 : Int),y8[0]? = some (D.val (Value.int IntKind.i64 y9)) ∧
 (decide (y9 > R.nu) = true →
 ∀ (y10 : Nat →
 Value),nD R = (nD R) ∧
 LenR (nD R) ∧
 ∃ (y11 : Option Op),u = Option.map opD y11 ∧
 SmF y10 [0,1,2,3,4,5,7,8,9,10,11,12,14,15,17,18,19,20] ∧
 ∀ (y12 : Nat →
 Value),K (V.tup []) [cG R (V.sb true) (V.int IntKind.i64 R.ep) (V.int IntKind.i64 R.nu) (V.arr 128 (dns IntKind.u8 R.c)) (V.sb R.ch) (tbV T) (V.sb false) (V.any (y12 14)) (V.any (y12 15)) (V.ipo none) (V.sl 1 0 (nO R)) (V.sl 2 0 (List.map dnD R.done ++ yl y11).length),rO R,KO.row 46 7 (List.map dnD R.done ++ yl y11)]) ∧
 (decide (y9 > R.nu) = false →
 ∀ (y13 : Nat →
 Value),nO R = (nO R) ∧
 LenR (nO R) ∧
 ∃ (y14 : List Int),∃ (y15 : List L3),Cnt (dns IntKind.u8 R.c) y14 ∧
 Tab T y15 ∧
 SmF y13 [0,2,3,8,9,10,11,12,13,14,15,16,17,18,19,21] ∧
 K (V.tup []) [cS R (V.int IntKind.i64 R.nu) (V.arr 128 (dns IntKind.u8 y14)) (V.sb R.ch) (tbV T) (V.sb true) (V.mp 1) (V.mp 2) (V.ipo u) (V.sl 3 0 (nO R + 1)) (V.sl 4 0 (nD R)),mpF (mset I [fr] [D.val (Value.bool false)]),mpF Q,KO.row 76 5 (List.map postD R.out ++ [[dn IntKind.i64 fr,D.val (Value.int IntKind.i64 10),z2_,D.sl 1 (ints IntKind.u8 (sealI y14)),D.sl 1 [[D.sl 1 (ints IntKind.u8 (tabW y15))]]]]),rD R])) ∧
 ((y7 == R.ep) = false →
 ∀ (y16 : Nat →
 Value),nO R = (nO R) ∧
 LenR (nO R) ∧
 ∃ (y17 : List Int),∃ (y18 : List L3),Cnt (dns IntKind.u8 R.c) y17 ∧
 Tab T y18 ∧
 SmF y16 [0,2,3,8,9,10,11,12,13,14,15,16,17,18,19,21] ∧
 K (V.tup []) [cS R (V.int IntKind.i64 R.nu) (V.arr 128 (dns IntKind.u8 y17)) (V.sb R.ch) (tbV T) (V.sb true) (V.mp 1) (V.mp 2) (V.ipo u) (V.sl 3 0 (nO R + 1)) (V.sl 4 0 (nD R)),mpF (mset I [fr] [D.val (Value.bool false)]),mpF Q,KO.row 76 5 (List.map postD R.out ++ [[dn IntKind.i64 fr,D.val (Value.int IntKind.i64 10),z2_,D.sl 1 (ints IntKind.u8 (sealI y17)),D.sl 1 [[D.sl 1 (ints IntKind.u8 (tabW y18))]]]]),rD R])))
 ) : runSpec Try.prog XMs (fun _ => none) 39 [.ptr 0 0,.int .i64 fr,.agg [.int .i64 kd,.dat (.sl 1 [[dn .i64 q0],[dn .i64 q1],[dn .i64 q2]]),.dat (.sl 1 (ints .u8 b)),.dat (.sl 1 (lsD ls))]] [cR R (tbV T) (.sb true) (.mp 1) (.mp 2) (.ipo u) (.sl 3 0 (nO R)) (.sl 4 0 (nD R)),mpF I,mpF Q,rO R,rD R] (rootH 13 msLd K):=by apply Eq.mp (a:=hvc_); kernel_rfl
theorem finishR_no {R : Rep} {L : Lead} {o : Op} (hl : R.ld = some L) (hc : L.cur = some o) (h : (oths R).all L.acks = false) : finishR R = R:=by
  unfold finishR; rw [hl]; simp only [hc]; rw [if_neg (by rw [h]; decide)]
theorem finishR_yes {R : Rep} {L : Lead} {o : Op} (hl : R.ld = some L) (hc : L.cur = some o) (h : (oths R).all L.acks = true) : finishR R = { R with ld:=some { L with cur:=none },done:=R.done ++ [⟨o,0,rdX R.c o⟩] }:=by
  unfold finishR; rw [hl]; simp only [hc]; rw [if_pos h]
theorem syncOkR_none {R : Rep} {fr kd q0 q1 q2 : Int} {b : List Int} {ls : List (List Int)} (hl : R.ld = none) : syncOkR R fr ⟨kd,[q0,q1,q2],b,ls⟩ = R:=by unfold syncOkR; rw [hl]
theorem syncOkR_not {R : Rep} {L : Lead} {fr kd q0 q1 q2 : Int} {b : List Int} {ls : List (List Int)} (hl : R.ld = some L) (h : q1 ≠ R.ep∨q2 ≠ R.nu) : syncOkR R fr ⟨kd,[q0,q1,q2],b,ls⟩ = R:=by
  unfold syncOkR; rw [hl]; exact if_pos h
theorem syncOkR_0 {R : Rep} {L : Lead} {fr kd q0 q1 q2 : Int} {b : List Int} {ls : List (List Int)} (hl : R.ld = some L) (hc : L.cur = none) (h1 : q1 = R.ep) (h2 : q2 = R.nu) : syncOkR R fr ⟨kd,[q0,q1,q2],b,ls⟩ = { R with ld:=some ⟨mark L.ins fr true,L.acks,none⟩ }:=by
  unfold syncOkR; rw [hl]
  refine (if_neg (show ¬ (q1 ≠ R.ep∨q2 ≠ R.nu) by simp [h1,h2])).trans ?_
  simp only [hc]
theorem syncOkR_1 {R : Rep} {L : Lead} {o : Op} {fr kd q0 q1 q2 : Int} {b : List Int} {ls : List (List Int)} (hl : R.ld = some L) (hc : L.cur = some o) (h1 : q1 = R.ep) (h2 : q2 = R.nu) : syncOkR R fr ⟨kd,[q0,q1,q2],b,ls⟩ = finishR { R with ld:=some ⟨mark L.ins fr true,mark L.acks fr true,some o⟩ }:=by
  unfold syncOkR; rw [hl]
  refine (if_neg (show ¬ (q1 ≠ R.ep∨q2 ≠ R.nu) by simp [h1,h2])).trans ?_
  simp only [hc]
theorem opOkR_none {R : Rep} {fr kd q0 q1 q2 : Int} {b : List Int} {ls : List (List Int)} (hl : R.ld = none) : opOkR R fr ⟨kd,[q0,q1,q2],b,ls⟩ = R:=by unfold opOkR; rw [hl]
theorem opOkR_0 {R : Rep} {L : Lead} {fr kd q0 q1 q2 : Int} {b : List Int} {ls : List (List Int)} (hl : R.ld = some L) (hc : L.cur = none) : opOkR R fr ⟨kd,[q0,q1,q2],b,ls⟩ = R:=by unfold opOkR; rw [hl]; simp only [hc]
theorem opOkR_not {R : Rep} {L : Lead} {o : Op} {fr kd q0 q1 q2 : Int} {b : List Int} {ls : List (List Int)} (hl : R.ld = some L) (hc : L.cur = some o) (h : ¬ (q1 = R.ep∧q2 = R.nu)) : opOkR R fr ⟨kd,[q0,q1,q2],b,ls⟩ = R:=by
  unfold opOkR; rw [hl]; simp only [hc]; exact if_neg h
theorem opOkR_1 {R : Rep} {L : Lead} {o : Op} {fr kd q0 q1 q2 : Int} {b : List Int} {ls : List (List Int)} (hl : R.ld = some L) (hc : L.cur = some o) (h1 : q1 = R.ep) (h2 : q2 = R.nu) : opOkR R fr ⟨kd,[q0,q1,q2],b,ls⟩ = finishR { R with ld:=some ⟨L.ins,mark L.acks fr true,some o⟩ }:=by
  unfold opOkR; rw [hl]; simp only [hc]; exact if_pos ⟨h1,h2⟩
theorem refusedR_none {R : Rep} {fr kd q0 q1 q2 : Int} {b : List Int} {ls : List (List Int)} (hl : R.ld = none) : refusedR R fr ⟨kd,[q0,q1,q2],b,ls⟩ = R:=by unfold refusedR; rw [hl]
theorem refusedR_ep {R : Rep} {L : Lead} {fr kd q0 q1 q2 : Int} {b : List Int} {ls : List (List Int)} (hl : R.ld = some L) (h : R.ep < q1) : refusedR R fr ⟨kd,[q0,q1,q2],b,ls⟩ = yieldR R:=by
  unfold refusedR; rw [hl]; exact if_pos h
theorem refusedR_nu {R : Rep} {L : Lead} {fr kd q0 q1 q2 : Int} {b : List Int} {ls : List (List Int)} (hl : R.ld = some L) (h : q1 = R.ep) (h2 : R.nu < q2) : refusedR R fr ⟨kd,[q0,q1,q2],b,ls⟩ = yieldR { R with lo:=true }:=by
  unfold refusedR; rw [hl]
  refine (if_neg (show ¬ R.ep < q1 by omega)).trans ?_
  exact if_pos ⟨h,h2⟩
theorem refusedR_st {R : Rep} {L : Lead} {fr kd q0 q1 q2 : Int} {b : List Int} {ls : List (List Int)} (hl : R.ld = some L) (h : ¬ R.ep < q1) (h2 : ¬ (q1 = R.ep∧R.nu < q2)) : refusedR R fr ⟨kd,[q0,q1,q2],b,ls⟩ = stateR { R with ld:=some { L with ins:=mark L.ins fr false } } fr:=by
  unfold refusedR; rw [hl]
  exact (if_neg h).trans (if_neg h2)
theorem syncOk_n (R : Rep) (T : ML) (a14 a15 : Value) (fr kd q0 q1 q2 : Int) (b : List Int) (ls : List (List Int)) (hT : Tab T R.t) (hl : R.ld = none) (hR : RepOk R) (hkbA : ∀ a14 a15,RepKB R [cR R (tbV T) (.sb false) (.any a14) (.any a15) (.ipo none) (.sl 1 0 (nO R)) (.sl 2 0 (nD R)),rO R,rD R]) (K : V→KB→Prop) (hK : ∀ kb',RepKB (syncOkR R fr ⟨kd,[q0,q1,q2],b,ls⟩) kb'→K (.tup []) kb') : runSpec Try.prog XMs (fun _ => none) 36 [.ptr 0 0,.int .i64 fr,.agg [.int .i64 kd,.dat (.sl 1 [[dn .i64 q0],[dn .i64 q1],[dn .i64 q2]]),.dat (.sl 1 (ints .u8 b)),.dat (.sl 1 (lsD ls))]] [cR R (tbV T) (.sb false) (.any a14) (.any a15) (.ipo none) (.sl 1 0 (nO R)) (.sl 2 0 (nD R)),rO R,rD R] (rootH 13 msLd K):=by
  have fin : ∀ {R' : Rep} {kb' : KB},syncOkR R fr ⟨kd,[q0,q1,q2],b,ls⟩ = R'→RepKB R' kb'→K (.tup []) kb':=fun {R' kb'} h1 h2 => by
    have:=hK kb'
    rw [h1] at this
    exact this h2
  exact vcSyncOk_n R T a14 a15 fr kd q0 q1 q2 b ls K ⟨fun _ f => fin (syncOkR_none hl) (hkbA _ _),fun f => (by cases f)⟩
theorem opOk_n (R : Rep) (T : ML) (a14 a15 : Value) (fr kd q0 q1 q2 : Int) (b : List Int) (ls : List (List Int)) (hT : Tab T R.t) (hl : R.ld = none) (hR : RepOk R) (hkbA : ∀ a14 a15,RepKB R [cR R (tbV T) (.sb false) (.any a14) (.any a15) (.ipo none) (.sl 1 0 (nO R)) (.sl 2 0 (nD R)),rO R,rD R]) (K : V→KB→Prop) (hK : ∀ kb',RepKB (opOkR R fr ⟨kd,[q0,q1,q2],b,ls⟩) kb'→K (.tup []) kb') : runSpec Try.prog XMs (fun _ => none) 38 [.ptr 0 0,.int .i64 fr,.agg [.int .i64 kd,.dat (.sl 1 [[dn .i64 q0],[dn .i64 q1],[dn .i64 q2]]),.dat (.sl 1 (ints .u8 b)),.dat (.sl 1 (lsD ls))]] [cR R (tbV T) (.sb false) (.any a14) (.any a15) (.ipo none) (.sl 1 0 (nO R)) (.sl 2 0 (nD R)),rO R,rD R] (rootH 13 msLd K):=by
  have fin : ∀ {R' : Rep} {kb' : KB},opOkR R fr ⟨kd,[q0,q1,q2],b,ls⟩ = R'→RepKB R' kb'→K (.tup []) kb':=fun {R' kb'} h1 h2 => by
    have:=hK kb'
    rw [h1] at this
    exact this h2
  exact vcOpOk_n R T a14 a15 fr kd q0 q1 q2 b ls K ⟨fun f => (by cases f),fun _ f => fin (opOkR_none hl) (hkbA _ _)⟩
theorem refused_n (R : Rep) (T : ML) (a14 a15 : Value) (fr kd q0 q1 q2 : Int) (b : List Int) (ls : List (List Int)) (hT : Tab T R.t) (hl : R.ld = none) (hR : RepOk R) (hkbA : ∀ a14 a15,RepKB R [cR R (tbV T) (.sb false) (.any a14) (.any a15) (.ipo none) (.sl 1 0 (nO R)) (.sl 2 0 (nD R)),rO R,rD R]) (K : V→KB→Prop) (hK : ∀ kb',RepKB (refusedR R fr ⟨kd,[q0,q1,q2],b,ls⟩) kb'→K (.tup []) kb') : runSpec Try.prog XMs (fun _ => none) 39 [.ptr 0 0,.int .i64 fr,.agg [.int .i64 kd,.dat (.sl 1 [[dn .i64 q0],[dn .i64 q1],[dn .i64 q2]]),.dat (.sl 1 (ints .u8 b)),.dat (.sl 1 (lsD ls))]] [cR R (tbV T) (.sb false) (.any a14) (.any a15) (.ipo none) (.sl 1 0 (nO R)) (.sl 2 0 (nD R)),rO R,rD R] (rootH 13 msLd K):=by
  have fin : ∀ {R' : Rep} {kb' : KB},refusedR R fr ⟨kd,[q0,q1,q2],b,ls⟩ = R'→RepKB R' kb'→K (.tup []) kb':=fun {R' kb'} h1 h2 => by
    have:=hK kb'
    rw [h1] at this
    exact this h2
  exact vcRefused_n R T a14 a15 fr kd q0 q1 q2 b ls K ⟨fun _ f => fin (refusedR_none hl) (hkbA _ _),fun f => (by cases f)⟩
theorem syncOk_l (R : Rep) (T : ML) (I Q : ML) (L : Lead) (fr kd q0 q1 q2 : Int) (b : List Int) (ls : List (List Int)) (hT : Tab T R.t) (hl : R.ld = some L) (hI : MB I L.ins) (hQ : MB Q L.acks) (hR : RepOk R) (hkb : RepKB R [cR R (tbV T) (.sb true) (.mp 1) (.mp 2) (.ipo (L.cur.map opD)) (.sl 3 0 (nO R)) (.sl 4 0 (nD R)),mpF I,mpF Q,rO R,rD R]) (K : V→KB→Prop) (hK : ∀ kb',RepKB (syncOkR R fr ⟨kd,[q0,q1,q2],b,ls⟩) kb'→K (.tup []) kb') : runSpec Try.prog XMs (fun _ => none) 36 [.ptr 0 0,.int .i64 fr,.agg [.int .i64 kd,.dat (.sl 1 [[dn .i64 q0],[dn .i64 q1],[dn .i64 q2]]),.dat (.sl 1 (ints .u8 b)),.dat (.sl 1 (lsD ls))]] [cR R (tbV T) (.sb true) (.mp 1) (.mp 2) (.ipo (L.cur.map opD)) (.sl 3 0 (nO R)) (.sl 4 0 (nD R)),mpF I,mpF Q,rO R,rD R] (rootH 13 msLd K):=by
  have fin : ∀ {R' : Rep} {kb' : KB},syncOkR R fr ⟨kd,[q0,q1,q2],b,ls⟩ = R'→RepKB R' kb'→K (.tup []) kb':=fun {R' kb'} h1 h2 => by
    have:=hK kb'
    rw [h1] at this
    exact this h2
  have h5 : Len5 (R.v.mem.length + R.v.joi.length):=⟨by have:=hR.vl; omega⟩
  have hcnt : Cnt (dns .u8 R.c) R.c:=⟨rfl,hR.cl,hR.cb⟩
  have hol : nO R ≤ 1000000:=by show (List.map postD R.out).length ≤ _; rw [List.length_map]; have:=hR.ol; omega
  have hdl : nD R ≤ 1000000:=by show (List.map dnD R.done).length ≤ _; rw [List.length_map]; have:=hR.dl; omega
  have hcq : L.cur.map opD = (curR R).map opD:=by simp [curR,hl]
  refine vcSyncOk_l R T I Q (L.cur.map opD) fr kd q0 q1 q2 b ls K ?_
  refine ⟨fun f => (by cases f),fun _ => ⟨(by decide : (0 : Int) ≤ 1),_,rfl,q1,rfl,fun e1 => fin (syncOkR_not hl (.inl (by simpa using e1))) hkb,fun e1 => ⟨(by decide : (0 : Int) ≤ 2),_,rfl,q2,rfl,fun e2 => fin (syncOkR_not hl (.inr (by simpa using e2))) hkb,fun e2 => ?_⟩⟩⟩
  have g1 : q1 = R.ep:=by simpa using e1
  have g2 : q2 = R.nu:=by simpa using e2
  cases hcur : L.cur with
  | none =>
    exact ⟨fun f => (by cases f),fun _ => fin (syncOkR_0 hl hcur g1 g2) (by
      unfold RepKB
      exact ⟨_,Q,T,mb_set hI fr true,hQ,hT,rfl⟩)⟩
  | some p =>
    exact ⟨fun _ f => ⟨rfl,⟨hdl⟩,R.v.mem,R.v.joi,R.c,p,hcnt,rfl,rfl,h5,(mb_set hQ fr true).b,rfl,rt_okI ⟨hR.cr p (by simp [curR,hl,hcur])⟩,fun e => ⟨⟨by simp [SameL]⟩,fin ((syncOkR_1 hl hcur g1 g2).trans (finishR_no rfl rfl (by rw [all_allI (mb_set hQ fr true)] at e; exact e))) (by
      unfold RepKB
      exact ⟨_,_,T,mb_set hI fr true,mb_set hQ fr true,hT,rfl⟩)⟩,fun e => ⟨⟨by simp [SameL]⟩,fin ((syncOkR_1 hl hcur g1 g2).trans (finishR_yes rfl rfl (by rw [all_allI (mb_set hQ fr true)] at e; exact e))) (by
      unfold RepKB
      refine ⟨_,_,T,mb_set hI fr true,mb_set hQ fr true,hT,?_⟩
      simp [cR,cS,dnD,opD,finX_rd,dn])⟩⟩,fun f => (by cases f)⟩
theorem opOk_l (R : Rep) (T : ML) (I Q : ML) (L : Lead) (fr kd q0 q1 q2 : Int) (b : List Int) (ls : List (List Int)) (hT : Tab T R.t) (hl : R.ld = some L) (hI : MB I L.ins) (hQ : MB Q L.acks) (hR : RepOk R) (hkb : RepKB R [cR R (tbV T) (.sb true) (.mp 1) (.mp 2) (.ipo (L.cur.map opD)) (.sl 3 0 (nO R)) (.sl 4 0 (nD R)),mpF I,mpF Q,rO R,rD R]) (K : V→KB→Prop) (hK : ∀ kb',RepKB (opOkR R fr ⟨kd,[q0,q1,q2],b,ls⟩) kb'→K (.tup []) kb') : runSpec Try.prog XMs (fun _ => none) 38 [.ptr 0 0,.int .i64 fr,.agg [.int .i64 kd,.dat (.sl 1 [[dn .i64 q0],[dn .i64 q1],[dn .i64 q2]]),.dat (.sl 1 (ints .u8 b)),.dat (.sl 1 (lsD ls))]] [cR R (tbV T) (.sb true) (.mp 1) (.mp 2) (.ipo (L.cur.map opD)) (.sl 3 0 (nO R)) (.sl 4 0 (nD R)),mpF I,mpF Q,rO R,rD R] (rootH 13 msLd K):=by
  have fin : ∀ {R' : Rep} {kb' : KB},opOkR R fr ⟨kd,[q0,q1,q2],b,ls⟩ = R'→RepKB R' kb'→K (.tup []) kb':=fun {R' kb'} h1 h2 => by
    have:=hK kb'
    rw [h1] at this
    exact this h2
  have h5 : Len5 (R.v.mem.length + R.v.joi.length):=⟨by have:=hR.vl; omega⟩
  have hcnt : Cnt (dns .u8 R.c) R.c:=⟨rfl,hR.cl,hR.cb⟩
  have hol : nO R ≤ 1000000:=by show (List.map postD R.out).length ≤ _; rw [List.length_map]; have:=hR.ol; omega
  have hdl : nD R ≤ 1000000:=by show (List.map dnD R.done).length ≤ _; rw [List.length_map]; have:=hR.dl; omega
  have hcq : L.cur.map opD = (curR R).map opD:=by simp [curR,hl]
  refine vcOpOk_l R T I Q (L.cur.map opD) fr kd q0 q1 q2 b ls K ?_
  cases hcur : L.cur with
  | none =>
    have same:=fin (opOkR_0 hl hcur) hkb
    rw [hcur] at same
    exact ⟨fun _ => ⟨(by decide : (0 : Int) ≤ 1),_,rfl,q1,rfl,fun _ => ⟨(by decide : (0 : Int) ≤ 2),_,rfl,q2,rfl,fun _ => ⟨fun f => (by cases f),fun _ => same⟩,fun _ => same⟩,fun _ => same⟩,fun _ => same⟩
  | some p =>
    have same:=fun h => fin (opOkR_not hl hcur h) hkb
    rw [hcur] at same
    exact ⟨fun _ => ⟨(by decide : (0 : Int) ≤ 1),_,rfl,q1,rfl,fun e1 => ⟨(by decide : (0 : Int) ≤ 2),_,rfl,q2,rfl,fun e2 => ⟨fun _ f => ⟨rfl,⟨hdl⟩,R.v.mem,R.v.joi,R.c,p,hcnt,rfl,rfl,h5,(mb_set hQ fr true).b,rfl,rt_okI ⟨hR.cr p (by simp [curR,hl,hcur])⟩,fun e => ⟨⟨by simp [SameL]⟩,fin ((opOkR_1 hl hcur (show q1 = R.ep by simpa using e1) (show q2 = R.nu by simpa using e2)).trans (finishR_no rfl rfl (by rw [all_allI (mb_set hQ fr true)] at e; exact e))) (by
      unfold RepKB
      exact ⟨I,_,T,hI,mb_set hQ fr true,hT,rfl⟩)⟩,fun e => ⟨⟨by simp [SameL]⟩,fin ((opOkR_1 hl hcur (show q1 = R.ep by simpa using e1) (show q2 = R.nu by simpa using e2)).trans (finishR_yes rfl rfl (by rw [all_allI (mb_set hQ fr true)] at e; exact e))) (by
      unfold RepKB
      refine ⟨I,_,T,hI,mb_set hQ fr true,hT,?_⟩
      simp [cR,cS,dnD,opD,finX_rd,dn])⟩⟩,fun f => (by cases f)⟩,fun e2 => same fun h => absurd h.2 (show ¬ q2 = R.nu by simpa using e2)⟩,fun e1 => same fun h => absurd h.1 (show ¬ q1 = R.ep by simpa using e1)⟩,fun f => (by cases f)⟩
theorem refused_l (R : Rep) (T : ML) (I Q : ML) (L : Lead) (fr kd q0 q1 q2 : Int) (b : List Int) (ls : List (List Int)) (hT : Tab T R.t) (hl : R.ld = some L) (hI : MB I L.ins) (hQ : MB Q L.acks) (hR : RepOk R) (hkb : RepKB R [cR R (tbV T) (.sb true) (.mp 1) (.mp 2) (.ipo (L.cur.map opD)) (.sl 3 0 (nO R)) (.sl 4 0 (nD R)),mpF I,mpF Q,rO R,rD R]) (K : V→KB→Prop) (hK : ∀ kb',RepKB (refusedR R fr ⟨kd,[q0,q1,q2],b,ls⟩) kb'→K (.tup []) kb') : runSpec Try.prog XMs (fun _ => none) 39 [.ptr 0 0,.int .i64 fr,.agg [.int .i64 kd,.dat (.sl 1 [[dn .i64 q0],[dn .i64 q1],[dn .i64 q2]]),.dat (.sl 1 (ints .u8 b)),.dat (.sl 1 (lsD ls))]] [cR R (tbV T) (.sb true) (.mp 1) (.mp 2) (.ipo (L.cur.map opD)) (.sl 3 0 (nO R)) (.sl 4 0 (nD R)),mpF I,mpF Q,rO R,rD R] (rootH 13 msLd K):=by
  have fin : ∀ {R' : Rep} {kb' : KB},refusedR R fr ⟨kd,[q0,q1,q2],b,ls⟩ = R'→RepKB R' kb'→K (.tup []) kb':=fun {R' kb'} h1 h2 => by
    have:=hK kb'
    rw [h1] at this
    exact this h2
  have h5 : Len5 (R.v.mem.length + R.v.joi.length):=⟨by have:=hR.vl; omega⟩
  have hcnt : Cnt (dns .u8 R.c) R.c:=⟨rfl,hR.cl,hR.cb⟩
  have hol : nO R ≤ 1000000:=by show (List.map postD R.out).length ≤ _; rw [List.length_map]; have:=hR.ol; omega
  have hdl : nD R ≤ 1000000:=by show (List.map dnD R.done).length ≤ _; rw [List.length_map]; have:=hR.dl; omega
  have hcq : L.cur.map opD = (curR R).map opD:=by simp [curR,hl]
  refine vcRefused_l R T I Q (L.cur.map opD) fr kd q0 q1 q2 b ls K ?_
  exact ⟨fun f => (by cases f),fun _ => ⟨(by decide : (0 : Int) ≤ 1),_,rfl,q1,rfl,fun e1 f => ⟨rfl,⟨hdl⟩,curR R,hcq,⟨by simp [SameL]⟩,fun f => fin (refusedR_ep hl (show R.ep < q1 by simpa using e1)) (by
    unfold RepKB
    refine ⟨f 14,f 15,T,hT,?_⟩
    simp only [nD,rD,yield_done]
    rfl)⟩,fun e1 => ⟨(by decide : (0 : Int) ≤ 1),_,rfl,q1,rfl,fun e2 => ⟨(by decide : (0 : Int) ≤ 2),_,rfl,q2,rfl,fun e3 f => ⟨rfl,⟨hdl⟩,curR R,hcq,⟨by simp [SameL]⟩,fun f => fin (refusedR_nu hl (show q1 = R.ep by simpa using e2) (show R.nu < q2 by simpa using e3)) (by
    unfold RepKB
    refine ⟨f 14,f 15,T,hT,?_⟩
    simp only [nD,rD,yield_done]
    rfl)⟩,fun e3 => fun f => ⟨rfl,⟨hol⟩,R.c,R.t,hcnt,hT,⟨by simp [SameL]⟩,fin (refusedR_st hl (show ¬ R.ep < q1 by simpa using e1) (fun h => absurd h.2 (show ¬ R.nu < q2 by simpa using e3))) (by
    unfold RepKB stateR sendR
    simp only
    refine ⟨_,Q,T,mb_set hI fr false,hQ,hT,?_⟩
    simp [cR,cS,tabR,postD,msgD,stP,pst,dn,ints]
    try rfl)⟩⟩,fun e2 => fun f => ⟨rfl,⟨hol⟩,R.c,R.t,hcnt,hT,⟨by simp [SameL]⟩,fin (refusedR_st hl (show ¬ R.ep < q1 by simpa using e1) (fun h => absurd h.1 (show ¬ q1 = R.ep by simpa using e2))) (by
    unfold RepKB stateR sendR
    simp only
    refine ⟨_,Q,T,mb_set hI fr false,hQ,hT,?_⟩
    simp [cR,cS,tabR,postD,msgD,stP,pst,dn,ints]
    try rfl)⟩⟩⟩⟩
def MsyncOk : FSpec:=fun args kb K => ∃ R fr kd q0 q1 q2 b ls,args = [.ptr 0 0,.int .i64 fr,.agg [.int .i64 kd,.dat (.sl 1 [[dn .i64 q0],[dn .i64 q1],[dn .i64 q2]]),.dat (.sl 1 (ints .u8 b)),.dat (.sl 1 (lsD ls))]]∧RepKB R kb∧RepOk R∧∀ kb',RepKB (syncOkR R fr ⟨kd,[q0,q1,q2],b,ls⟩) kb'→K (.tup []) kb'
theorem okSyncOk : MethOk Try.prog 36 MsyncOk:=methOk_runH mixed 13 msLd (fun args kb K h => by
  obtain ⟨R,fr,kd,q0,q1,q2,b,ls,rfl,hkb,hR,hK⟩:=h
  have hkb0:=hkb
  unfold RepKB at hkb
  split at hkb
  · rename_i hl
    obtain ⟨a14,a15,T,hT,rfl⟩:=hkb
    exact ⟨_,_,XMs_ok,syncOk_n R T a14 a15 fr kd q0 q1 q2 b ls hT hl hR (fun a b => by unfold RepKB; simp only [hl]; exact ⟨a,b,T,hT,rfl⟩) K hK⟩
  · rename_i L hl
    obtain ⟨I,Q,T,hI,hQ,hT,rfl⟩:=hkb
    exact ⟨_,_,XMs_ok,syncOk_l R T I Q L fr kd q0 q1 q2 b ls hT hl hI hQ hR hkb0 K hK⟩)
def MopOk : FSpec:=fun args kb K => ∃ R fr kd q0 q1 q2 b ls,args = [.ptr 0 0,.int .i64 fr,.agg [.int .i64 kd,.dat (.sl 1 [[dn .i64 q0],[dn .i64 q1],[dn .i64 q2]]),.dat (.sl 1 (ints .u8 b)),.dat (.sl 1 (lsD ls))]]∧RepKB R kb∧RepOk R∧∀ kb',RepKB (opOkR R fr ⟨kd,[q0,q1,q2],b,ls⟩) kb'→K (.tup []) kb'
theorem okOpOk : MethOk Try.prog 38 MopOk:=methOk_runH mixed 13 msLd (fun args kb K h => by
  obtain ⟨R,fr,kd,q0,q1,q2,b,ls,rfl,hkb,hR,hK⟩:=h
  have hkb0:=hkb
  unfold RepKB at hkb
  split at hkb
  · rename_i hl
    obtain ⟨a14,a15,T,hT,rfl⟩:=hkb
    exact ⟨_,_,XMs_ok,opOk_n R T a14 a15 fr kd q0 q1 q2 b ls hT hl hR (fun a b => by unfold RepKB; simp only [hl]; exact ⟨a,b,T,hT,rfl⟩) K hK⟩
  · rename_i L hl
    obtain ⟨I,Q,T,hI,hQ,hT,rfl⟩:=hkb
    exact ⟨_,_,XMs_ok,opOk_l R T I Q L fr kd q0 q1 q2 b ls hT hl hI hQ hR hkb0 K hK⟩)
def Mrefused : FSpec:=fun args kb K => ∃ R fr kd q0 q1 q2 b ls,args = [.ptr 0 0,.int .i64 fr,.agg [.int .i64 kd,.dat (.sl 1 [[dn .i64 q0],[dn .i64 q1],[dn .i64 q2]]),.dat (.sl 1 (ints .u8 b)),.dat (.sl 1 (lsD ls))]]∧RepKB R kb∧RepOk R∧∀ kb',RepKB (refusedR R fr ⟨kd,[q0,q1,q2],b,ls⟩) kb'→K (.tup []) kb'
theorem okRefused : MethOk Try.prog 39 Mrefused:=methOk_runH mixed 13 msLd (fun args kb K h => by
  obtain ⟨R,fr,kd,q0,q1,q2,b,ls,rfl,hkb,hR,hK⟩:=h
  have hkb0:=hkb
  unfold RepKB at hkb
  split at hkb
  · rename_i hl
    obtain ⟨a14,a15,T,hT,rfl⟩:=hkb
    exact ⟨_,_,XMs_ok,refused_n R T a14 a15 fr kd q0 q1 q2 b ls hT hl hR (fun a b => by unfold RepKB; simp only [hl]; exact ⟨a,b,T,hT,rfl⟩) K hK⟩
  · rename_i L hl
    obtain ⟨I,Q,T,hI,hQ,hT,rfl⟩:=hkb
    exact ⟨_,_,XMs_ok,refused_l R T I Q L fr kd q0 q1 q2 b ls hT hl hI hQ hR hkb0 K hK⟩)
end Go.Proofs.Ytfcjngcnifdmnaa
namespace Go.Proofs.Ytfcjngcnifdmnaa
open Vc Go
set_option linter.unusedVariables false
set_option linter.unusedSimpArgs false
set_option maxRecDepth 100000
abbrev msC8 (kd q0 q1 q2 q3 q4 q5 q6 q7 : Int) (b : List Int) (ls : List (List Int)) : KO:=.cells [.int .i64 kd,.dat (.sl 1 [[dn .i64 q0],[dn .i64 q1],[dn .i64 q2],[dn .i64 q3],[dn .i64 q4],[dn .i64 q5],[dn .i64 q6],[dn .i64 q7]]),.dat (.sl 1 (ints .u8 b)),.dat (.sl 1 (lsD ls))]
def opSame (R : Rep) (q1 q2 : Int) : Bool:=decide (q1 = R.ep∧q2 = R.nu∧leadsR R = false)
def opNext (R : Rep) (q1 q2 : Int) (o : Op) : Bool:=decide (q1 = R.ep∧q2 = R.nu + 1∧leadsR R = false∧rtOp o = true)
def opGo (R : Rep) (q1 q2 q7 : Int) (o : Op) : Bool:=opNext R q1 q2 o && (o.kd != 4 || crcI R.c == q7)
abbrev op02_n (R : Rep) (T : ML) (a14 a15 : Value) (fr kd q0 q1 q2 q3 q4 q5 q6 q7 : Int) (b : List Int) (ls : List (List Int)) : LI where
  α:=Unit
  live:=[0,1,5,6]
  st _:=([.ptr 0 0,.int .i64 fr,.ptr 3 0,.ptr 4 0],[cR R (tbV T) (.sb false) (.any a14) (.any a15) (.ipo none) (.sl 1 0 (nO R)) (.sl 2 0 (nD R)),rO R,rD R,msC8 kd q0 q1 q2 q3 q4 q5 q6 q7 b ls,.cells [.int .i64 q3,.int .i64 q4,.int .i64 q5,.int .i64 q6,.dat (.sl 1 (ints .u8 b))]])
  μ _:=0
abbrev op04_n (R : Rep) (T : ML) (a14 a15 : Value) (fr kd q0 q1 q2 q3 q4 q5 q6 q7 : Int) (b : List Int) (ls : List (List Int)) : LI where
  α:=Unit
  live:=[0,1,5,6,7]
  st _:=([.ptr 0 0,.int .i64 fr,.ptr 3 0,.ptr 4 0,.sb (opNext R q1 q2 ⟨q3,q4,q5,q6,b⟩)],[cR R (tbV T) (.sb false) (.any a14) (.any a15) (.ipo none) (.sl 1 0 (nO R)) (.sl 2 0 (nD R)),rO R,rD R,msC8 kd q0 q1 q2 q3 q4 q5 q6 q7 b ls,.cells [.int .i64 q3,.int .i64 q4,.int .i64 q5,.int .i64 q6,.dat (.sl 1 (ints .u8 b))]])
  μ _:=0
abbrev op05_n (R : Rep) (T : ML) (a14 a15 : Value) (fr kd q0 q1 q2 q3 q4 q5 q6 q7 : Int) (b : List Int) (ls : List (List Int)) : LI where
  α:=Unit
  live:=[0,1,5,6,7,62]
  st _:=([.ptr 0 0,.int .i64 fr,.ptr 3 0,.ptr 4 0,.sb (opNext R q1 q2 ⟨q3,q4,q5,q6,b⟩),.sb (opSame R q1 q2)],[cR R (tbV T) (.sb false) (.any a14) (.any a15) (.ipo none) (.sl 1 0 (nO R)) (.sl 2 0 (nD R)),rO R,rD R,msC8 kd q0 q1 q2 q3 q4 q5 q6 q7 b ls,.cells [.int .i64 q3,.int .i64 q4,.int .i64 q5,.int .i64 q6,.dat (.sl 1 (ints .u8 b))]])
  μ _:=0
abbrev op06_n (R : Rep) (T : ML) (a14 a15 : Value) (fr kd q0 q1 q2 q3 q4 q5 q6 q7 : Int) (b : List Int) (ls : List (List Int)) : LI where
  α:=Unit
  live:=[0,1,6,90]
  st _:=([.ptr 0 0,.int .i64 fr,.ptr 3 0,.sb (opGo R q1 q2 q7 ⟨q3,q4,q5,q6,b⟩)],[cR R (tbV T) (.sb false) (.any a14) (.any a15) (.ipo none) (.sl 1 0 (nO R)) (.sl 2 0 (nD R)),rO R,rD R,.cells [.int .i64 q3,.int .i64 q4,.int .i64 q5,.int .i64 q6,.dat (.sl 1 (ints .u8 b))]])
  μ _:=0
def opT_n (R : Rep) (T : ML) (a14 a15 : Value) (fr kd q0 q1 q2 q3 q4 q5 q6 q7 : Int) (b : List Int) (ls : List (List Int)) : Nat→Option LI
  | 1002 => some (op02_n R T a14 a15 fr kd q0 q1 q2 q3 q4 q5 q6 q7 b ls)
  | 1004 => some (op04_n R T a14 a15 fr kd q0 q1 q2 q3 q4 q5 q6 q7 b ls)
  | 1005 => some (op05_n R T a14 a15 fr kd q0 q1 q2 q3 q4 q5 q6 q7 b ls)
  | 1006 => some (op06_n R T a14 a15 fr kd q0 q1 q2 q3 q4 q5 q6 q7 b ls)
  | _ => none
abbrev op02_l (R : Rep) (T : ML) (I Q : ML) (u : Option (List D)) (fr kd q0 q1 q2 q3 q4 q5 q6 q7 : Int) (b : List Int) (ls : List (List Int)) : LI where
  α:=Unit
  live:=[0,1,5,6]
  st _:=([.ptr 0 0,.int .i64 fr,.ptr 5 0,.ptr 6 0],[cR R (tbV T) (.sb true) (.mp 1) (.mp 2) (.ipo u) (.sl 3 0 (nO R)) (.sl 4 0 (nD R)),mpF I,mpF Q,rO R,rD R,msC8 kd q0 q1 q2 q3 q4 q5 q6 q7 b ls,.cells [.int .i64 q3,.int .i64 q4,.int .i64 q5,.int .i64 q6,.dat (.sl 1 (ints .u8 b))]])
  μ _:=0
abbrev op04_l (R : Rep) (T : ML) (I Q : ML) (u : Option (List D)) (fr kd q0 q1 q2 q3 q4 q5 q6 q7 : Int) (b : List Int) (ls : List (List Int)) : LI where
  α:=Unit
  live:=[0,1,5,6,7]
  st _:=([.ptr 0 0,.int .i64 fr,.ptr 5 0,.ptr 6 0,.sb (opNext R q1 q2 ⟨q3,q4,q5,q6,b⟩)],[cR R (tbV T) (.sb true) (.mp 1) (.mp 2) (.ipo u) (.sl 3 0 (nO R)) (.sl 4 0 (nD R)),mpF I,mpF Q,rO R,rD R,msC8 kd q0 q1 q2 q3 q4 q5 q6 q7 b ls,.cells [.int .i64 q3,.int .i64 q4,.int .i64 q5,.int .i64 q6,.dat (.sl 1 (ints .u8 b))]])
  μ _:=0
abbrev op05_l (R : Rep) (T : ML) (I Q : ML) (u : Option (List D)) (fr kd q0 q1 q2 q3 q4 q5 q6 q7 : Int) (b : List Int) (ls : List (List Int)) : LI where
  α:=Unit
  live:=[0,1,5,6,7,62]
  st _:=([.ptr 0 0,.int .i64 fr,.ptr 5 0,.ptr 6 0,.sb (opNext R q1 q2 ⟨q3,q4,q5,q6,b⟩),.sb (opSame R q1 q2)],[cR R (tbV T) (.sb true) (.mp 1) (.mp 2) (.ipo u) (.sl 3 0 (nO R)) (.sl 4 0 (nD R)),mpF I,mpF Q,rO R,rD R,msC8 kd q0 q1 q2 q3 q4 q5 q6 q7 b ls,.cells [.int .i64 q3,.int .i64 q4,.int .i64 q5,.int .i64 q6,.dat (.sl 1 (ints .u8 b))]])
  μ _:=0
abbrev op06_l (R : Rep) (T : ML) (I Q : ML) (u : Option (List D)) (fr kd q0 q1 q2 q3 q4 q5 q6 q7 : Int) (b : List Int) (ls : List (List Int)) : LI where
  α:=Unit
  live:=[0,1,6,90]
  st _:=([.ptr 0 0,.int .i64 fr,.ptr 5 0,.sb (opGo R q1 q2 q7 ⟨q3,q4,q5,q6,b⟩)],[cR R (tbV T) (.sb true) (.mp 1) (.mp 2) (.ipo u) (.sl 3 0 (nO R)) (.sl 4 0 (nD R)),mpF I,mpF Q,rO R,rD R,.cells [.int .i64 q3,.int .i64 q4,.int .i64 q5,.int .i64 q6,.dat (.sl 1 (ints .u8 b))]])
  μ _:=0
def opT_l (R : Rep) (T : ML) (I Q : ML) (u : Option (List D)) (fr kd q0 q1 q2 q3 q4 q5 q6 q7 : Int) (b : List Int) (ls : List (List Int)) : Nat→Option LI
  | 1002 => some (op02_l R T I Q u fr kd q0 q1 q2 q3 q4 q5 q6 q7 b ls)
  | 1004 => some (op04_l R T I Q u fr kd q0 q1 q2 q3 q4 q5 q6 q7 b ls)
  | 1005 => some (op05_l R T I Q u fr kd q0 q1 q2 q3 q4 q5 q6 q7 b ls)
  | 1006 => some (op06_l R T I Q u fr kd q0 q1 q2 q3 q4 q5 q6 q7 b ls)
  | _ => none
theorem vcOp_n (R : Rep) (T : ML) (a14 a15 : Value) (fr kd q0 q1 q2 q3 q4 q5 q6 q7 : Int) (b : List Int) (ls : List (List Int)) (K : V→KB→Prop) (hvc_ :
 let z5_:=cR R (tbV T) (V.sb false) (V.any a14) (V.any a15) (V.ipo none) (V.sl 1 0 (nO R)) (V.sl 2 0 (nD R)); let z2_:=[[dn IntKind.i64 q0],[dn IntKind.i64 q1],[dn IntKind.i64 q2],[dn IntKind.i64 q3],[dn IntKind.i64 q4],[dn IntKind.i64 q5],[dn IntKind.i64 q6],[dn IntKind.i64 q7]]; let z4_:=KO.cells [V.int IntKind.i64 q3,V.int IntKind.i64 q4,V.int IntKind.i64 q5,V.int IntKind.i64 q6,V.dat (D.sl 1 (ints IntKind.u8 b))]; let z1_ : KB:=[z5_,rO R,rD R,KO.cells [V.int IntKind.i64 kd,V.dat (D.sl 1 z2_),V.dat (D.sl 1 (ints IntKind.u8 b)),V.dat (D.sl 1 (lsD ls))],z4_]; let z3_:=KO.row 76 5 (List.map postD R.out ++ [[dn IntKind.i64 fr,D.val (Value.int IntKind.i64 13),D.sl 1 [[dn IntKind.i64 R.id],[dn IntKind.i64 R.ep],[D.val (Value.int IntKind.i64 (R.nu + 1))]],D.sl 1 [],D.sl 1 []]]); let z6_:=(op04_n R T a14 a15 fr kd q0 q1 q2 q3 q4 q5 q6 q7 b ls); let z7_:=(op06_n R T a14 a15 fr kd q0 q1 q2 q3 q4 q5 q6 q7 b ls); let z8_:=[0,2,3,5,7,8,9,10,11,12,13,14,15,16,17,18,19,21]; let z9_:=[V.ptr 0 0,V.int IntKind.i64 fr,V.ptr 3 0,V.ptr 4 0,V.sb false]; let z10_:=(op05_n R T a14 a15 fr kd q0 q1 q2 q3 q4 q5 q6 q7 b ls); let z11_:=[0,1,2,3,4,8,9,10,11,12,13,14,15,16,17,19,20,21]; (NonN 3 ∧
 ∃ (y1 : List D),z2_[3]? = some y1 ∧
 ∃ (y2 : Int),y1[0]? = some (D.val (Value.int IntKind.i64 y2)) ∧
 NonN 4 ∧
 ∃ (y3 : List D),z2_[4]? = some y3 ∧
 ∃ (y4 : Int),y3[0]? = some (D.val (Value.int IntKind.i64 y4)) ∧
 NonN 5 ∧
 ∃ (y5 : List D),z2_[5]? = some y5 ∧
 ∃ (y6 : Int),y5[0]? = some (D.val (Value.int IntKind.i64 y6)) ∧
 NonN 6 ∧
 ∃ (y7 : List D),z2_[6]? = some y7 ∧
 ∃ (y8 : Int),y7[0]? = some (D.val (Value.int IntKind.i64 y8)) ∧
 True ∧
 (∃ (y9 : Int),y7[0]? = some (D.val (Value.int IntKind.i64 y9)) ∧
 True) ∧
 True ∧
 (∃ (y10 : Int),y5[0]? = some (D.val (Value.int IntKind.i64 y10)) ∧
 True) ∧
 True ∧
 (∃ (y11 : Int),y3[0]? = some (D.val (Value.int IntKind.i64 y11)) ∧
 True) ∧
 True ∧
 (∃ (y12 : Int),y1[0]? = some (D.val (Value.int IntKind.i64 y12)) ∧
 True) ∧
 True ∧
 At (op02_n R T a14 a15 fr kd q0 q1 q2 q3 q4 q5 q6 q7 b ls) ([V.ptr 0 0,V.int IntKind.i64 fr,V.ptr 3 0,V.ptr 4 0],[z5_,rO R,rD R,KO.cells [V.int IntKind.i64 kd,V.dat (D.sl 1 z2_),V.dat (D.sl 1 (ints IntKind.u8 b)),V.dat (D.sl 1 (lsD ls))],KO.cells [V.int IntKind.i64 y2,V.int IntKind.i64 y4,V.int IntKind.i64 y6,V.int IntKind.i64 y8,V.dat (D.sl 1 (ints IntKind.u8 b))]])) ∧
 ∀ (y13 : Unit),(NonN 1 ∧
 ∃ (y14 : List D),z2_[1]? = some y14 ∧
 ∃ (y15 : Int),y14[0]? = some (D.val (Value.int IntKind.i64 y15)) ∧
 ((y15 == R.ep) = true →
 NonN 2 ∧
 ∃ (y16 : List D),z2_[2]? = some y16 ∧
 ∃ (y17 : Int),y16[0]? = some (D.val (Value.int IntKind.i64 y17)) ∧
 ((y17 == IntKind.i64.wrap (R.nu + 1)) = true →
 (true = true →
 At z6_ ([V.ptr 0 0,V.int IntKind.i64 fr,V.ptr 3 0,V.ptr 4 0,V.sb (rightO q3 q4 q5 q6 (ints IntKind.u8 b).length)],z1_)) ∧
 (true = false →
 At z6_ (z9_,z1_))) ∧
 ((y17 == IntKind.i64.wrap (R.nu + 1)) = false →
 At z6_ (z9_,z1_))) ∧
 ((y15 == R.ep) = false →
 At z6_ (z9_,z1_))) ∧
 ∀ (y18 : Unit),(NonN 1 ∧
 ∃ (y19 : List D),z2_[1]? = some y19 ∧
 ∃ (y20 : Int),y19[0]? = some (D.val (Value.int IntKind.i64 y20)) ∧
 ((y20 == R.ep) = true →
 NonN 2 ∧
 ∃ (y21 : List D),z2_[2]? = some y21 ∧
 ∃ (y22 : Int),y21[0]? = some (D.val (Value.int IntKind.i64 y22)) ∧
 ((y22 == R.nu) = true →
 At z10_ ([V.ptr 0 0,V.int IntKind.i64 fr,V.ptr 3 0,V.ptr 4 0,V.sb (opNext R q1 q2 { cl:=q3,nm:=q4,kd:=q5,bk:=q6,b:=b}),V.sb true],z1_)) ∧
 ((y22 == R.nu) = false →
 At z10_ ([V.ptr 0 0,V.int IntKind.i64 fr,V.ptr 3 0,V.ptr 4 0,V.sb (opNext R q1 q2 { cl:=q3,nm:=q4,kd:=q5,bk:=q6,b:=b}),V.sb false],z1_))) ∧
 ((y20 == R.ep) = false →
 At z10_ ([V.ptr 0 0,V.int IntKind.i64 fr,V.ptr 3 0,V.ptr 4 0,V.sb (opNext R q1 q2 { cl:=q3,nm:=q4,kd:=q5,bk:=q6,b:=b}),V.sb false],z1_))) ∧
 ∀ (y23 : Unit),(opSame R q1 q2 = true →
 1 ≤ 1 ∧
 ∀ (y24 : Nat →
 Value),nO R = (nO R) ∧
 LenR (nO R) ∧
 LenR 1 ∧
 SmF y24 z8_ ∧
 ∀ (y25 : Nat →
 Value),K (V.tup []) [cR R (tbV T) (V.sb false) (V.any (y25 14)) (V.any (y25 15)) (V.ipo none) (V.sl 1 0 (nO R + 1)) (V.sl 2 0 (nD R)),KO.row 76 5 (List.map postD R.out ++ [[dn IntKind.i64 fr,D.val (Value.int IntKind.i64 13),D.sl 1 [[dn IntKind.i64 R.id],[dn IntKind.i64 R.ep],[D.val (Value.int IntKind.i64 R.nu)]],D.sl 1 [],D.sl 1 []]]),rD R]) ∧
 (opSame R q1 q2 = false →
 ((opNext R q1 q2 { cl:=q3,nm:=q4,kd:=q5,bk:=q6,b:=b} = true →
 ((q5 != 4) = true →
 At z7_ ([V.ptr 0 0,V.int IntKind.i64 fr,V.ptr 3 0,V.sb true],[z5_,rO R,rD R,z4_])) ∧
 ((q5 != 4) = false →
 (∀ (y26 : Nat →
 Value),∃ (y27 : List Int),dns IntKind.u8 R.c = dns IntKind.u8 y27 ∧
 y27.length = 128 ∧
 (∀ (y28 : Int),List.Mem y28 y27 →
 0 ≤ y28 ∧
 y28 < 256) ∧
 SmF y26 [0,1,2,3,4,5,7,8,9,10,11,12,13,14,15,16,17,18,19,20,21] ∧
 NonN 7 ∧
 ∃ (y29 : List D),z2_[7]? = some y29 ∧
 ∃ (y30 : Int),y29[0]? = some (D.val (Value.int IntKind.i64 y30)) ∧
 At z7_ ([V.ptr 0 0,V.int IntKind.i64 fr,V.ptr 3 0,V.sb (IntKind.i64.wrap (crcI y27) == y30)],[cS R (V.int IntKind.i64 R.nu) (V.arr 128 (dns IntKind.u8 y27)) (V.sb R.ch) (tbV T) (V.sb false) (V.any a14) (V.any a15) (V.ipo none) (V.sl 1 0 (nO R)) (V.sl 2 0 (nD R)),rO R,rD R,z4_])) ∧
 NonN 7 ∧
 ∃ (y31 : List D),z2_[7]? = some y31 ∧
 ∃ (y32 : Int),y31[0]? = some (D.val (Value.int IntKind.i64 y32)) ∧
 ∀ (y33 : Nat →
 Value),∃ (y34 : List Int),dns IntKind.u8 R.c = dns IntKind.u8 y34 ∧
 y34.length = 128 ∧
 (∀ (y35 : Int),List.Mem y35 y34 →
 0 ≤ y35 ∧
 y35 < 256) ∧
 SmF y33 [0,1,2,3,4,5,7,8,9,10,11,12,13,14,15,16,17,18,19,20,21] ∧
 (∃ (y36 : Int),y31[0]? = some (D.val (Value.int IntKind.i64 y36)) ∧
 EqI y36 y32) ∧
 At z7_ ([V.ptr 0 0,V.int IntKind.i64 fr,V.ptr 3 0,V.sb (IntKind.i64.wrap (crcI y34) == y32)],[cS R (V.int IntKind.i64 R.nu) (V.arr 128 (dns IntKind.u8 y34)) (V.sb R.ch) (tbV T) (V.sb false) (V.any a14) (V.any a15) (V.ipo none) (V.sl 1 0 (nO R)) (V.sl 2 0 (nD R)),rO R,rD R,z4_]))) ∧
 (opNext R q1 q2 { cl:=q3,nm:=q4,kd:=q5,bk:=q6,b:=b} = false →
 At z7_ ([V.ptr 0 0,V.int IntKind.i64 fr,V.ptr 3 0,V.sb false],[z5_,rO R,rD R,z4_]))) ∧
 ∀ (y37 : Unit),(opGo R q1 q2 q7 { cl:=q3,nm:=q4,kd:=q5,bk:=q6,b:=b} = true →
 ∀ (y38 : Nat →
 Value),∃ (y39 : List Int),∃ (y40 : List Int),∃ (y41 : List L3),Cnt (dns IntKind.u8 R.c) y39 ∧
 ints IntKind.u8 b = ints IntKind.u8 y40 ∧
 Tab T y41 ∧
 RgN R.nu ∧
 RtO q3 q4 q5 q6 y40.length ∧
 (NoCh q5 →
 SmF y38 z11_ ∧
 1 ≤ 1 ∧
 ∀ (y42 : Nat →
 Value),nO R = (nO R) ∧
 LenR (nO R) ∧
 LenR 1 ∧
 SmF y42 z8_ ∧
 ∀ (y43 : Nat →
 Value),K (V.tup []) [cS R (V.int IntKind.i64 (R.nu + 1)) (V.arr 128 (dns IntKind.u8 (doC y39 q5 q6 y40))) (V.sb true) (tbV T) (V.sb false) (V.any (y43 14)) (V.any (y43 15)) (V.ipo none) (V.sl 1 0 (nO R + 1)) (V.sl 2 0 (nD R)),z3_,rD R]) ∧
 (Chg q5 →
 (NeZ (putE y41 q3 q4 0) →
 SmF y38 z11_ ∧
 1 ≤ 1 ∧
 ∀ (y44 : Nat →
 Value),nO R = (nO R) ∧
 LenR (nO R) ∧
 LenR 1 ∧
 SmF y44 z8_ ∧
 ∀ (y45 : Nat →
 Value),K (V.tup []) [cS R (V.int IntKind.i64 (R.nu + 1)) (V.arr 128 (dns IntKind.u8 (doC y39 q5 q6 y40))) (V.sb true) (tbV T) (V.sb false) (V.any (y45 14)) (V.any (y45 15)) (V.ipo none) (V.sl 1 0 (nO R + 1)) (V.sl 2 0 (nD R)),z3_,rD R]) ∧
 (EqZ (putE y41 q3 q4 0) →
 SmF y38 z11_ ∧
 1 ≤ 1 ∧
 ∀ (y46 : Nat →
 Value),nO R = (nO R) ∧
 LenR (nO R) ∧
 LenR 1 ∧
 SmF y46 z8_ ∧
 ∀ (y47 : Nat →
 Value),K (V.tup []) [cS R (V.int IntKind.i64 (R.nu + 1)) (V.arr 128 (dns IntKind.u8 (doC y39 q5 q6 y40))) (V.sb true) (tbV (mset T [q3] [dn IntKind.i64 q4,D.val (Value.int IntKind.i64 0)])) (V.sb false) (V.any (y47 14)) (V.any (y47 15)) (V.ipo none) (V.sl 1 0 (nO R + 1)) (V.sl 2 0 (nD R)),z3_,rD R]))) ∧
 (opGo R q1 q2 q7 { cl:=q3,nm:=q4,kd:=q5,bk:=q6,b:=b} = false →
 ∀ (y48 : Nat →
 Value),nO R = (nO R) ∧
 LenR (nO R) ∧
 SmF y48 [0,2,3,7,8,9,10,11,12,13,14,15,16,17,18,19,21] ∧
 ∀ (y49 : Nat →
 Value),K (V.tup []) [cR R (tbV T) (V.sb false) (V.any (y49 14)) (V.any (y49 15)) (V.ipo none) (V.sl 1 0 (nO R + 1)) (V.sl 2 0 (nD R)),KO.row 76 5 (List.map postD R.out ++ [[dn IntKind.i64 fr,D.val (Value.int IntKind.i64 14),D.sl 1 [[dn IntKind.i64 R.id],[dn IntKind.i64 R.ep],[dn IntKind.i64 R.nu]],D.sl 1 [],D.sl 1 []]]),rD R]))
 ) : runSpec Try.prog XMs (opT_n R T a14 a15 fr kd q0 q1 q2 q3 q4 q5 q6 q7 b ls) 37 [.ptr 0 0,.int .i64 fr,.agg [.int .i64 kd,.dat (.sl 1 [[dn .i64 q0],[dn .i64 q1],[dn .i64 q2],[dn .i64 q3],[dn .i64 q4],[dn .i64 q5],[dn .i64 q6],[dn .i64 q7]]),.dat (.sl 1 (ints .u8 b)),.dat (.sl 1 (lsD ls))]] [cR R (tbV T) (.sb false) (.any a14) (.any a15) (.ipo none) (.sl 1 0 (nO R)) (.sl 2 0 (nD R)),rO R,rD R] (rootH 13 msLd K):=by apply Eq.mp (a:=hvc_); kernel_rfl
theorem vcOp_l (R : Rep) (T : ML) (I Q : ML) (u : Option (List D)) (fr kd q0 q1 q2 q3 q4 q5 q6 q7 : Int) (b : List Int) (ls : List (List Int)) (K : V→KB→Prop) (hvc_ :
 let z5_:=cR R (tbV T) (V.sb true) (V.mp 1) (V.mp 2) (V.ipo u) (V.sl 3 0 (nO R)) (V.sl 4 0 (nD R)); let z2_:=[[dn IntKind.i64 q0],[dn IntKind.i64 q1],[dn IntKind.i64 q2],[dn IntKind.i64 q3],[dn IntKind.i64 q4],[dn IntKind.i64 q5],[dn IntKind.i64 q6],[dn IntKind.i64 q7]]; let z4_:=KO.cells [V.int IntKind.i64 q3,V.int IntKind.i64 q4,V.int IntKind.i64 q5,V.int IntKind.i64 q6,V.dat (D.sl 1 (ints IntKind.u8 b))]; let z1_ : KB:=[z5_,mpF I,mpF Q,rO R,rD R,KO.cells [V.int IntKind.i64 kd,V.dat (D.sl 1 z2_),V.dat (D.sl 1 (ints IntKind.u8 b)),V.dat (D.sl 1 (lsD ls))],z4_]; let z3_:=KO.row 76 5 (List.map postD R.out ++ [[dn IntKind.i64 fr,D.val (Value.int IntKind.i64 13),D.sl 1 [[dn IntKind.i64 R.id],[dn IntKind.i64 R.ep],[D.val (Value.int IntKind.i64 (R.nu + 1))]],D.sl 1 [],D.sl 1 []]]); let z6_:=(op04_l R T I Q u fr kd q0 q1 q2 q3 q4 q5 q6 q7 b ls); let z7_:=(op06_l R T I Q u fr kd q0 q1 q2 q3 q4 q5 q6 q7 b ls); let z8_:=[0,2,3,5,7,8,9,10,11,12,13,14,15,16,17,18,19,21]; let z9_:=[V.ptr 0 0,V.int IntKind.i64 fr,V.ptr 5 0,V.ptr 6 0,V.sb false]; let z10_:=(op05_l R T I Q u fr kd q0 q1 q2 q3 q4 q5 q6 q7 b ls); let z11_:=cR R (tbV T) (V.sb true) (V.mp 1) (V.mp 2) (V.ipo u) (V.sl 3 0 (nO R + 1)) (V.sl 4 0 (nD R)); let z12_:=[0,1,2,3,4,8,9,10,11,12,13,14,15,16,17,19,20,21]; (NonN 3 ∧
 ∃ (y1 : List D),z2_[3]? = some y1 ∧
 ∃ (y2 : Int),y1[0]? = some (D.val (Value.int IntKind.i64 y2)) ∧
 NonN 4 ∧
 ∃ (y3 : List D),z2_[4]? = some y3 ∧
 ∃ (y4 : Int),y3[0]? = some (D.val (Value.int IntKind.i64 y4)) ∧
 NonN 5 ∧
 ∃ (y5 : List D),z2_[5]? = some y5 ∧
 ∃ (y6 : Int),y5[0]? = some (D.val (Value.int IntKind.i64 y6)) ∧
 NonN 6 ∧
 ∃ (y7 : List D),z2_[6]? = some y7 ∧
 ∃ (y8 : Int),y7[0]? = some (D.val (Value.int IntKind.i64 y8)) ∧
 True ∧
 (∃ (y9 : Int),y7[0]? = some (D.val (Value.int IntKind.i64 y9)) ∧
 True) ∧
 True ∧
 (∃ (y10 : Int),y5[0]? = some (D.val (Value.int IntKind.i64 y10)) ∧
 True) ∧
 True ∧
 (∃ (y11 : Int),y3[0]? = some (D.val (Value.int IntKind.i64 y11)) ∧
 True) ∧
 True ∧
 (∃ (y12 : Int),y1[0]? = some (D.val (Value.int IntKind.i64 y12)) ∧
 True) ∧
 True ∧
 At (op02_l R T I Q u fr kd q0 q1 q2 q3 q4 q5 q6 q7 b ls) ([V.ptr 0 0,V.int IntKind.i64 fr,V.ptr 5 0,V.ptr 6 0],[z5_,mpF I,mpF Q,rO R,rD R,KO.cells [V.int IntKind.i64 kd,V.dat (D.sl 1 z2_),V.dat (D.sl 1 (ints IntKind.u8 b)),V.dat (D.sl 1 (lsD ls))],KO.cells [V.int IntKind.i64 y2,V.int IntKind.i64 y4,V.int IntKind.i64 y6,V.int IntKind.i64 y8,V.dat (D.sl 1 (ints IntKind.u8 b))]])) ∧
 ∀ (y13 : Unit),(NonN 1 ∧
 ∃ (y14 : List D),z2_[1]? = some y14 ∧
 ∃ (y15 : Int),y14[0]? = some (D.val (Value.int IntKind.i64 y15)) ∧
 ((y15 == R.ep) = true →
 NonN 2 ∧
 ∃ (y16 : List D),z2_[2]? = some y16 ∧
 ∃ (y17 : Int),y16[0]? = some (D.val (Value.int IntKind.i64 y17)) ∧
 ((y17 == IntKind.i64.wrap (R.nu + 1)) = true →
 (false = true →
 At z6_ ([V.ptr 0 0,V.int IntKind.i64 fr,V.ptr 5 0,V.ptr 6 0,V.sb (rightO q3 q4 q5 q6 (ints IntKind.u8 b).length)],z1_)) ∧
 (false = false →
 At z6_ (z9_,z1_))) ∧
 ((y17 == IntKind.i64.wrap (R.nu + 1)) = false →
 At z6_ (z9_,z1_))) ∧
 ((y15 == R.ep) = false →
 At z6_ (z9_,z1_))) ∧
 ∀ (y18 : Unit),(NonN 1 ∧
 ∃ (y19 : List D),z2_[1]? = some y19 ∧
 ∃ (y20 : Int),y19[0]? = some (D.val (Value.int IntKind.i64 y20)) ∧
 ((y20 == R.ep) = true →
 NonN 2 ∧
 ∃ (y21 : List D),z2_[2]? = some y21 ∧
 ∃ (y22 : Int),y21[0]? = some (D.val (Value.int IntKind.i64 y22)) ∧
 ((y22 == R.nu) = true →
 At z10_ ([V.ptr 0 0,V.int IntKind.i64 fr,V.ptr 5 0,V.ptr 6 0,V.sb (opNext R q1 q2 { cl:=q3,nm:=q4,kd:=q5,bk:=q6,b:=b}),V.sb false],z1_)) ∧
 ((y22 == R.nu) = false →
 At z10_ ([V.ptr 0 0,V.int IntKind.i64 fr,V.ptr 5 0,V.ptr 6 0,V.sb (opNext R q1 q2 { cl:=q3,nm:=q4,kd:=q5,bk:=q6,b:=b}),V.sb false],z1_))) ∧
 ((y20 == R.ep) = false →
 At z10_ ([V.ptr 0 0,V.int IntKind.i64 fr,V.ptr 5 0,V.ptr 6 0,V.sb (opNext R q1 q2 { cl:=q3,nm:=q4,kd:=q5,bk:=q6,b:=b}),V.sb false],z1_))) ∧
 ∀ (y23 : Unit),(opSame R q1 q2 = true →
 1 ≤ 1 ∧
 ∀ (y24 : Nat →
 Value),nO R = (nO R) ∧
 LenR (nO R) ∧
 LenR 1 ∧
 SmF y24 z8_ ∧
 K (V.tup []) [z11_,mpF I,mpF Q,KO.row 76 5 (List.map postD R.out ++ [[dn IntKind.i64 fr,D.val (Value.int IntKind.i64 13),D.sl 1 [[dn IntKind.i64 R.id],[dn IntKind.i64 R.ep],[D.val (Value.int IntKind.i64 R.nu)]],D.sl 1 [],D.sl 1 []]]),rD R]) ∧
 (opSame R q1 q2 = false →
 ((opNext R q1 q2 { cl:=q3,nm:=q4,kd:=q5,bk:=q6,b:=b} = true →
 ((q5 != 4) = true →
 At z7_ ([V.ptr 0 0,V.int IntKind.i64 fr,V.ptr 5 0,V.sb true],[z5_,mpF I,mpF Q,rO R,rD R,z4_])) ∧
 ((q5 != 4) = false →
 (∀ (y25 : Nat →
 Value),∃ (y26 : List Int),dns IntKind.u8 R.c = dns IntKind.u8 y26 ∧
 y26.length = 128 ∧
 (∀ (y27 : Int),List.Mem y27 y26 →
 0 ≤ y27 ∧
 y27 < 256) ∧
 SmF y25 [0,1,2,3,4,5,7,8,9,10,11,12,13,14,15,16,17,18,19,20,21] ∧
 NonN 7 ∧
 ∃ (y28 : List D),z2_[7]? = some y28 ∧
 ∃ (y29 : Int),y28[0]? = some (D.val (Value.int IntKind.i64 y29)) ∧
 At z7_ ([V.ptr 0 0,V.int IntKind.i64 fr,V.ptr 5 0,V.sb (IntKind.i64.wrap (crcI y26) == y29)],[cS R (V.int IntKind.i64 R.nu) (V.arr 128 (dns IntKind.u8 y26)) (V.sb R.ch) (tbV T) (V.sb true) (V.mp 1) (V.mp 2) (V.ipo u) (V.sl 3 0 (nO R)) (V.sl 4 0 (nD R)),mpF I,mpF Q,rO R,rD R,z4_])) ∧
 NonN 7 ∧
 ∃ (y30 : List D),z2_[7]? = some y30 ∧
 ∃ (y31 : Int),y30[0]? = some (D.val (Value.int IntKind.i64 y31)) ∧
 ∀ (y32 : Nat →
 Value),∃ (y33 : List Int),dns IntKind.u8 R.c = dns IntKind.u8 y33 ∧
 y33.length = 128 ∧
 (∀ (y34 : Int),List.Mem y34 y33 →
 0 ≤ y34 ∧
 y34 < 256) ∧
 SmF y32 [0,1,2,3,4,5,7,8,9,10,11,12,13,14,15,16,17,18,19,20,21] ∧
 (∃ (y35 : Int),y30[0]? = some (D.val (Value.int IntKind.i64 y35)) ∧
 EqI y35 y31) ∧
 At z7_ ([V.ptr 0 0,V.int IntKind.i64 fr,V.ptr 5 0,V.sb (IntKind.i64.wrap (crcI y33) == y31)],[cS R (V.int IntKind.i64 R.nu) (V.arr 128 (dns IntKind.u8 y33)) (V.sb R.ch) (tbV T) (V.sb true) (V.mp 1) (V.mp 2) (V.ipo u) (V.sl 3 0 (nO R)) (V.sl 4 0 (nD R)),mpF I,mpF Q,rO R,rD R,z4_]))) ∧
 (opNext R q1 q2 { cl:=q3,nm:=q4,kd:=q5,bk:=q6,b:=b} = false →
 At z7_ ([V.ptr 0 0,V.int IntKind.i64 fr,V.ptr 5 0,V.sb false],[z5_,mpF I,mpF Q,rO R,rD R,z4_]))) ∧
 ∀ (y36 : Unit),(opGo R q1 q2 q7 { cl:=q3,nm:=q4,kd:=q5,bk:=q6,b:=b} = true →
 ∀ (y37 : Nat →
 Value),∃ (y38 : List Int),∃ (y39 : List Int),∃ (y40 : List L3),Cnt (dns IntKind.u8 R.c) y38 ∧
 ints IntKind.u8 b = ints IntKind.u8 y39 ∧
 Tab T y40 ∧
 RgN R.nu ∧
 RtO q3 q4 q5 q6 y39.length ∧
 (NoCh q5 →
 SmF y37 z12_ ∧
 1 ≤ 1 ∧
 ∀ (y41 : Nat →
 Value),nO R = (nO R) ∧
 LenR (nO R) ∧
 LenR 1 ∧
 SmF y41 z8_ ∧
 K (V.tup []) [cS R (V.int IntKind.i64 (R.nu + 1)) (V.arr 128 (dns IntKind.u8 (doC y38 q5 q6 y39))) (V.sb true) (tbV T) (V.sb true) (V.mp 1) (V.mp 2) (V.ipo u) (V.sl 3 0 (nO R + 1)) (V.sl 4 0 (nD R)),mpF I,mpF Q,z3_,rD R]) ∧
 (Chg q5 →
 (NeZ (putE y40 q3 q4 0) →
 SmF y37 z12_ ∧
 1 ≤ 1 ∧
 ∀ (y42 : Nat →
 Value),nO R = (nO R) ∧
 LenR (nO R) ∧
 LenR 1 ∧
 SmF y42 z8_ ∧
 K (V.tup []) [cS R (V.int IntKind.i64 (R.nu + 1)) (V.arr 128 (dns IntKind.u8 (doC y38 q5 q6 y39))) (V.sb true) (tbV T) (V.sb true) (V.mp 1) (V.mp 2) (V.ipo u) (V.sl 3 0 (nO R + 1)) (V.sl 4 0 (nD R)),mpF I,mpF Q,z3_,rD R]) ∧
 (EqZ (putE y40 q3 q4 0) →
 SmF y37 z12_ ∧
 1 ≤ 1 ∧
 ∀ (y43 : Nat →
 Value),nO R = (nO R) ∧
 LenR (nO R) ∧
 LenR 1 ∧
 SmF y43 z8_ ∧
 K (V.tup []) [cS R (V.int IntKind.i64 (R.nu + 1)) (V.arr 128 (dns IntKind.u8 (doC y38 q5 q6 y39))) (V.sb true) (tbV (mset T [q3] [dn IntKind.i64 q4,D.val (Value.int IntKind.i64 0)])) (V.sb true) (V.mp 1) (V.mp 2) (V.ipo u) (V.sl 3 0 (nO R + 1)) (V.sl 4 0 (nD R)),mpF I,mpF Q,z3_,rD R]))) ∧
 (opGo R q1 q2 q7 { cl:=q3,nm:=q4,kd:=q5,bk:=q6,b:=b} = false →
 ∀ (y44 : Nat →
 Value),nO R = (nO R) ∧
 LenR (nO R) ∧
 SmF y44 [0,2,3,7,8,9,10,11,12,13,14,15,16,17,18,19,21] ∧
 K (V.tup []) [z11_,mpF I,mpF Q,KO.row 76 5 (List.map postD R.out ++ [[dn IntKind.i64 fr,D.val (Value.int IntKind.i64 14),D.sl 1 [[dn IntKind.i64 R.id],[dn IntKind.i64 R.ep],[dn IntKind.i64 R.nu]],D.sl 1 [],D.sl 1 []]]),rD R]))
 ) : runSpec Try.prog XMs (opT_l R T I Q u fr kd q0 q1 q2 q3 q4 q5 q6 q7 b ls) 37 [.ptr 0 0,.int .i64 fr,.agg [.int .i64 kd,.dat (.sl 1 [[dn .i64 q0],[dn .i64 q1],[dn .i64 q2],[dn .i64 q3],[dn .i64 q4],[dn .i64 q5],[dn .i64 q6],[dn .i64 q7]]),.dat (.sl 1 (ints .u8 b)),.dat (.sl 1 (lsD ls))]] [cR R (tbV T) (.sb true) (.mp 1) (.mp 2) (.ipo u) (.sl 3 0 (nO R)) (.sl 4 0 (nD R)),mpF I,mpF Q,rO R,rD R] (rootH 13 msLd K):=by apply Eq.mp (a:=hvc_); kernel_rfl
theorem opNext_f {R : Rep} {q1 q2 : Int} {o : Op} (h : ¬ (q1 = R.ep∧q2 = R.nu + 1∧leadsR R = false)) : opNext R q1 q2 o = false:=by
  unfold opNext; exact decide_eq_false fun ⟨a,b,c,_⟩ => h ⟨a,b,c⟩
theorem opNext_t {R : Rep} {q1 q2 : Int} {o : Op} (h1 : q1 = R.ep) (h2 : q2 = R.nu + 1) (h3 : leadsR R = false) : opNext R q1 q2 o = rtOp o:=by
  unfold opNext; simp [h1,h2,h3]
theorem opSame_f {R : Rep} {q1 q2 : Int} (h : ¬ (q1 = R.ep∧q2 = R.nu∧leadsR R = false)) : opSame R q1 q2 = false:=decide_eq_false h
theorem opSame_t {R : Rep} {q1 q2 : Int} (h1 : q1 = R.ep) (h2 : q2 = R.nu) (h3 : leadsR R = false) : opSame R q1 q2 = true:=decide_eq_true ⟨h1,h2,h3⟩
theorem opR_same {R : Rep} {fr kd q0 q1 q2 q3 q4 q5 q6 q7 : Int} {b : List Int} {ls : List (List Int)} (h : opSame R q1 q2 = true) : opR R fr ⟨kd,[q0,q1,q2,q3,q4,q5,q6,q7],b,ls⟩ = sendR R fr 13 [R.nu] [] []:=by
  unfold opR; exact if_pos (of_decide_eq_true h)
theorem opGo_iff {R : Rep} {q1 q2 q3 q4 q5 q6 q7 : Int} {b : List Int} : opGo R q1 q2 q7 ⟨q3,q4,q5,q6,b⟩ = true ↔ (q1 = R.ep∧q2 = R.nu + 1∧leadsR R = false∧rtOp ⟨q3,q4,q5,q6,b⟩ = true∧(q5 ≠ 4∨crcI R.c = q7)):=by
  unfold opGo opNext
  simp [and_assoc]
theorem opR_go {R : Rep} {fr kd q0 q1 q2 q3 q4 q5 q6 q7 : Int} {b : List Int} {ls : List (List Int)} (h : opSame R q1 q2 = false) (h2 : opGo R q1 q2 q7 ⟨q3,q4,q5,q6,b⟩ = true) : opR R fr ⟨kd,[q0,q1,q2,q3,q4,q5,q6,q7],b,ls⟩ = sendR (doR R ⟨q3,q4,q5,q6,b⟩) fr 13 [R.nu + 1] [] []:=by
  unfold opR
  exact (if_neg (of_decide_eq_false h)).trans (if_pos (opGo_iff.1 h2))
theorem opR_no {R : Rep} {fr kd q0 q1 q2 q3 q4 q5 q6 q7 : Int} {b : List Int} {ls : List (List Int)} (h : opSame R q1 q2 = false) (h2 : opGo R q1 q2 q7 ⟨q3,q4,q5,q6,b⟩ = false) : opR R fr ⟨kd,[q0,q1,q2,q3,q4,q5,q6,q7],b,ls⟩ = nackR R fr:=by
  unfold opR
  exact (if_neg (of_decide_eq_false h)).trans (if_neg (fun hh => by have h3 : opGo R q1 q2 q7 ⟨q3,q4,q5,q6,b⟩ = true:=opGo_iff.2 hh; rw [h2] at h3; cases h3))
theorem doT_no {t : List L3} {o : Op} (h : chgOp o = false∨putE t o.cl o.nm 0 ≠ 0) : doT t o = t:=by
  unfold doT
  rw [if_neg]
  rintro ⟨h1,h2⟩
  rcases h with h | h
  · rw [h] at h1; cases h1
  · exact h h2
theorem doT_yes {t : List L3} {o : Op} (h : chgOp o = true) (h2 : putE t o.cl o.nm 0 = 0) : doT t o = putL t o.cl o.nm 0:=by
  unfold doT
  rw [if_pos ⟨h,h2⟩]
theorem op_n (R : Rep) (T : ML) (a14 a15 : Value) (fr kd q0 q1 q2 q3 q4 q5 q6 q7 : Int) (b : List Int) (ls : List (List Int)) (hT : Tab T R.t) (hl : R.ld = none) (hR : RepOk R) (hkbA : ∀ a14 a15,RepKB R [cR R (tbV T) (.sb false) (.any a14) (.any a15) (.ipo none) (.sl 1 0 (nO R)) (.sl 2 0 (nD R)),rO R,rD R]) (K : V→KB→Prop) (hK : ∀ kb',RepKB (opR R fr ⟨kd,[q0,q1,q2,q3,q4,q5,q6,q7],b,ls⟩) kb'→K (.tup []) kb') : runSpec Try.prog XMs (opT_n R T a14 a15 fr kd q0 q1 q2 q3 q4 q5 q6 q7 b ls) 37 [.ptr 0 0,.int .i64 fr,.agg [.int .i64 kd,.dat (.sl 1 [[dn .i64 q0],[dn .i64 q1],[dn .i64 q2],[dn .i64 q3],[dn .i64 q4],[dn .i64 q5],[dn .i64 q6],[dn .i64 q7]]),.dat (.sl 1 (ints .u8 b)),.dat (.sl 1 (lsD ls))]] [cR R (tbV T) (.sb false) (.any a14) (.any a15) (.ipo none) (.sl 1 0 (nO R)) (.sl 2 0 (nD R)),rO R,rD R] (rootH 13 msLd K):=by
  have fin : ∀ {R' : Rep} {kb' : KB},opR R fr ⟨kd,[q0,q1,q2,q3,q4,q5,q6,q7],b,ls⟩ = R'→RepKB R' kb'→K (.tup []) kb':=fun {R' kb'} h1 h2 => by
    have:=hK kb'
    rw [h1] at this
    exact this h2
  have hcnt : Cnt (dns .u8 R.c) R.c:=⟨rfl,hR.cl,hR.cb⟩
  have hol : nO R ≤ 1000000:=by show (List.map postD R.out).length ≤ _; rw [List.length_map]; have:=hR.ol; omega
  have hnu : RgN R.nu:=⟨hR.n0,by have:=hR.n1; omega⟩
  have ew : IntKind.i64.wrap (R.nu + 1) = R.nu + 1:=w64 (by have:=hnu.lo; omega) (by have:=hnu.hi; omega)
  have hcr:=crcI_range R.c
  have ec : IntKind.i64.wrap (crcI R.c) = crcI R.c:=w64 (by omega) (by omega)
  have hlead : leadsR R = false:=by simp [leadsR,hl]
  exact vcOp_n R T a14 a15 fr kd q0 q1 q2 q3 q4 q5 q6 q7 b ls K ⟨⟨(by decide : (0 : Int) ≤ 3),_,rfl,q3,rfl,(by decide : (0 : Int) ≤ 4),_,rfl,q4,rfl,(by decide : (0 : Int) ≤ 5),_,rfl,q5,rfl,(by decide : (0 : Int) ≤ 6),_,rfl,q6,rfl,trivial,⟨q6,rfl,trivial⟩,trivial,⟨q5,rfl,trivial⟩,trivial,⟨q4,rfl,trivial⟩,trivial,⟨q3,rfl,trivial⟩,trivial,At.mk' () rfl⟩,
    fun _ => ⟨⟨(by decide : (0 : Int) ≤ 1),_,rfl,q1,rfl,fun e1 => ⟨(by decide : (0 : Int) ≤ 2),_,rfl,q2,rfl,fun e2 => ⟨fun _ => At.mk' () (by simp only [opNext_t (o:=⟨q3,q4,q5,q6,b⟩) (show q1 = R.ep by simpa using e1) (show q2 = R.nu + 1 by simpa [ew] using e2) hlead,rtOp,ints_len]),fun f => (by cases f)⟩,fun e2 => At.mk' () (by simp only [opNext_f (o:=⟨q3,q4,q5,q6,b⟩) (fun h => absurd h.2.1 (show ¬ q2 = R.nu + 1 by simpa [ew] using e2))])⟩,fun e1 => At.mk' () (by simp only [opNext_f (o:=⟨q3,q4,q5,q6,b⟩) (q2:=q2) (fun h => absurd h.1 (show ¬ q1 = R.ep by simpa using e1))])⟩,
    fun _ => ⟨⟨(by decide : (0 : Int) ≤ 1),_,rfl,q1,rfl,fun e1 => ⟨(by decide : (0 : Int) ≤ 2),_,rfl,q2,rfl,fun e2 => At.mk' () (by simp only [opSame_t (show q1 = R.ep by simpa using e1) (show q2 = R.nu by simpa using e2) hlead]),fun e2 => At.mk' () (by simp only [opSame_f (q1:=q1) (fun h => absurd h.2.1 (show ¬ q2 = R.nu by simpa using e2))])⟩,fun e1 => At.mk' () (by simp only [opSame_f (q2:=q2) (fun h => absurd h.1 (show ¬ q1 = R.ep by simpa using e1))])⟩,
    fun _ => ⟨fun hs => ⟨Nat.le_refl _,fun f => ⟨rfl,⟨hol⟩,⟨by decide⟩,⟨by simp [SameL]⟩,fun f => fin (opR_same hs) (by
    unfold RepKB sendR
    simp only [hl]
    refine ⟨f 14,f 15,T,hT,?_⟩
    simp [cR,cS,postD,msgD,pst,dn,ints,ints_nil,doR]
    try rfl)⟩⟩,fun hs => ⟨⟨fun hn => ⟨fun e => At.mk' () (by simp only [show opGo R q1 q2 q7 ⟨q3,q4,q5,q6,b⟩ = true by simp only [opGo,hn,e,Bool.true_and,Bool.true_or]]),fun e => ⟨fun f => ⟨R.c,rfl,hR.cl,hR.cb,⟨by simp [SameL]⟩,(by decide : (0 : Int) ≤ 7),_,rfl,q7,rfl,At.mk' () (by simp only [ec,show opGo R q1 q2 q7 ⟨q3,q4,q5,q6,b⟩ = (crcI R.c == q7) by simp only [opGo,hn,e,Bool.true_and,Bool.false_or]]; try rfl)⟩,(by decide : (0 : Int) ≤ 7),_,rfl,q7,rfl,fun f => ⟨R.c,rfl,hR.cl,hR.cb,⟨by simp [SameL]⟩,⟨q7,rfl,⟨rfl⟩⟩,At.mk' () (by simp only [ec,show opGo R q1 q2 q7 ⟨q3,q4,q5,q6,b⟩ = (crcI R.c == q7) by simp only [opGo,hn,e,Bool.true_and,Bool.false_or]]; try rfl)⟩⟩⟩,fun hn => At.mk' () (by simp only [show opGo R q1 q2 q7 ⟨q3,q4,q5,q6,b⟩ = false by simp only [opGo,hn,Bool.false_and]])⟩,
    fun _ => ⟨fun hg => fun f => ⟨R.c,b,R.t,hcnt,rfl,hT,hnu,⟨(opGo_iff.1 hg).2.2.2.1⟩,fun hc => ⟨⟨by simp [SameL]⟩,⟨Nat.le_refl _,fun f => ⟨rfl,⟨hol⟩,⟨by decide⟩,⟨by simp [SameL]⟩,fun f => fin (opR_go hs hg) (by
    unfold RepKB sendR doR
    simp only [hl,doT_no (t:=R.t) (o:=⟨q3,q4,q5,q6,b⟩) (.inl hc.h)]
    refine ⟨f 14,f 15,T,hT,?_⟩
    simp [cR,cS,postD,msgD,pst,dn,ints,ints_nil,doR]
    try rfl)⟩⟩⟩,fun hc => ⟨fun hz => ⟨⟨by simp [SameL]⟩,⟨Nat.le_refl _,fun f => ⟨rfl,⟨hol⟩,⟨by decide⟩,⟨by simp [SameL]⟩,fun f => fin (opR_go hs hg) (by
    unfold RepKB sendR doR
    simp only [hl,doT_no (t:=R.t) (o:=⟨q3,q4,q5,q6,b⟩) (.inr hz.h)]
    refine ⟨f 14,f 15,T,hT,?_⟩
    simp [cR,cS,postD,msgD,pst,dn,ints,ints_nil,doR]
    try rfl)⟩⟩⟩,fun hz => ⟨⟨by simp [SameL]⟩,⟨Nat.le_refl _,fun f => ⟨rfl,⟨hol⟩,⟨by decide⟩,⟨by simp [SameL]⟩,fun f => fin (opR_go hs hg) (by
    unfold RepKB sendR doR
    simp only [hl,doT_yes (t:=R.t) (o:=⟨q3,q4,q5,q6,b⟩) hc.h hz.h]
    refine ⟨f 14,f 15,_,tab_put hT hz.h,?_⟩
    simp [cR,cS,postD,msgD,pst,dn,ints,ints_nil,doR]
    try rfl)⟩⟩⟩⟩⟩,fun hg => fun f => ⟨rfl,⟨hol⟩,⟨by simp [SameL]⟩,fun f => fin (opR_no hs hg) (by
    unfold RepKB nackR sendR
    simp only [hl]
    refine ⟨f 14,f 15,T,hT,?_⟩
    simp [cR,postD,msgD,pst,dn,ints,ints_nil])⟩⟩⟩⟩⟩⟩⟩
theorem op_l (R : Rep) (T : ML) (I Q : ML) (L : Lead) (fr kd q0 q1 q2 q3 q4 q5 q6 q7 : Int) (b : List Int) (ls : List (List Int)) (hT : Tab T R.t) (hl : R.ld = some L) (hI : MB I L.ins) (hQ : MB Q L.acks) (hR : RepOk R) (hkb : RepKB R [cR R (tbV T) (.sb true) (.mp 1) (.mp 2) (.ipo (L.cur.map opD)) (.sl 3 0 (nO R)) (.sl 4 0 (nD R)),mpF I,mpF Q,rO R,rD R]) (K : V→KB→Prop) (hK : ∀ kb',RepKB (opR R fr ⟨kd,[q0,q1,q2,q3,q4,q5,q6,q7],b,ls⟩) kb'→K (.tup []) kb') : runSpec Try.prog XMs (opT_l R T I Q (L.cur.map opD) fr kd q0 q1 q2 q3 q4 q5 q6 q7 b ls) 37 [.ptr 0 0,.int .i64 fr,.agg [.int .i64 kd,.dat (.sl 1 [[dn .i64 q0],[dn .i64 q1],[dn .i64 q2],[dn .i64 q3],[dn .i64 q4],[dn .i64 q5],[dn .i64 q6],[dn .i64 q7]]),.dat (.sl 1 (ints .u8 b)),.dat (.sl 1 (lsD ls))]] [cR R (tbV T) (.sb true) (.mp 1) (.mp 2) (.ipo (L.cur.map opD)) (.sl 3 0 (nO R)) (.sl 4 0 (nD R)),mpF I,mpF Q,rO R,rD R] (rootH 13 msLd K):=by
  have fin : ∀ {R' : Rep} {kb' : KB},opR R fr ⟨kd,[q0,q1,q2,q3,q4,q5,q6,q7],b,ls⟩ = R'→RepKB R' kb'→K (.tup []) kb':=fun {R' kb'} h1 h2 => by
    have:=hK kb'
    rw [h1] at this
    exact this h2
  have hcnt : Cnt (dns .u8 R.c) R.c:=⟨rfl,hR.cl,hR.cb⟩
  have hol : nO R ≤ 1000000:=by show (List.map postD R.out).length ≤ _; rw [List.length_map]; have:=hR.ol; omega
  have hnu : RgN R.nu:=⟨hR.n0,by have:=hR.n1; omega⟩
  have ew : IntKind.i64.wrap (R.nu + 1) = R.nu + 1:=w64 (by have:=hnu.lo; omega) (by have:=hnu.hi; omega)
  have hcr:=crcI_range R.c
  have ec : IntKind.i64.wrap (crcI R.c) = crcI R.c:=w64 (by omega) (by omega)
  have hlead : leadsR R = true:=by simp [leadsR,hl]
  exact vcOp_l R T I Q (L.cur.map opD) fr kd q0 q1 q2 q3 q4 q5 q6 q7 b ls K ⟨⟨(by decide : (0 : Int) ≤ 3),_,rfl,q3,rfl,(by decide : (0 : Int) ≤ 4),_,rfl,q4,rfl,(by decide : (0 : Int) ≤ 5),_,rfl,q5,rfl,(by decide : (0 : Int) ≤ 6),_,rfl,q6,rfl,trivial,⟨q6,rfl,trivial⟩,trivial,⟨q5,rfl,trivial⟩,trivial,⟨q4,rfl,trivial⟩,trivial,⟨q3,rfl,trivial⟩,trivial,At.mk' () rfl⟩,
    fun _ => ⟨⟨(by decide : (0 : Int) ≤ 1),_,rfl,q1,rfl,fun e1 => ⟨(by decide : (0 : Int) ≤ 2),_,rfl,q2,rfl,fun e2 => ⟨fun f => (by cases f),fun _ => At.mk' () (by simp only [opNext_f (R:=R) (q1:=q1) (q2:=q2) (o:=⟨q3,q4,q5,q6,b⟩) (fun h => absurd h.2.2 (by rw [hlead]; decide))])⟩,fun e2 => At.mk' () (by simp only [opNext_f (o:=⟨q3,q4,q5,q6,b⟩) (fun h => absurd h.2.1 (show ¬ q2 = R.nu + 1 by simpa [ew] using e2))])⟩,fun e1 => At.mk' () (by simp only [opNext_f (o:=⟨q3,q4,q5,q6,b⟩) (q2:=q2) (fun h => absurd h.1 (show ¬ q1 = R.ep by simpa using e1))])⟩,
    fun _ => ⟨⟨(by decide : (0 : Int) ≤ 1),_,rfl,q1,rfl,fun e1 => ⟨(by decide : (0 : Int) ≤ 2),_,rfl,q2,rfl,fun e2 => At.mk' () (by simp only [opSame_f (R:=R) (q1:=q1) (q2:=q2) (fun h => absurd h.2.2 (by rw [hlead]; decide))]),fun e2 => At.mk' () (by simp only [opSame_f (q1:=q1) (fun h => absurd h.2.1 (show ¬ q2 = R.nu by simpa using e2))])⟩,fun e1 => At.mk' () (by simp only [opSame_f (q2:=q2) (fun h => absurd h.1 (show ¬ q1 = R.ep by simpa using e1))])⟩,
    fun _ => ⟨fun hs => ⟨Nat.le_refl _,fun f => ⟨rfl,⟨hol⟩,⟨by decide⟩,⟨by simp [SameL]⟩,fin (opR_same hs) (by
    unfold RepKB sendR
    simp only [hl]
    refine ⟨I,Q,T,hI,hQ,hT,?_⟩
    simp [cR,cS,postD,msgD,pst,dn,ints,ints_nil,doR]
    try rfl)⟩⟩,fun hs => ⟨⟨fun hn => ⟨fun e => At.mk' () (by simp only [show opGo R q1 q2 q7 ⟨q3,q4,q5,q6,b⟩ = true by simp only [opGo,hn,e,Bool.true_and,Bool.true_or]]),fun e => ⟨fun f => ⟨R.c,rfl,hR.cl,hR.cb,⟨by simp [SameL]⟩,(by decide : (0 : Int) ≤ 7),_,rfl,q7,rfl,At.mk' () (by simp only [ec,show opGo R q1 q2 q7 ⟨q3,q4,q5,q6,b⟩ = (crcI R.c == q7) by simp only [opGo,hn,e,Bool.true_and,Bool.false_or]]; try rfl)⟩,(by decide : (0 : Int) ≤ 7),_,rfl,q7,rfl,fun f => ⟨R.c,rfl,hR.cl,hR.cb,⟨by simp [SameL]⟩,⟨q7,rfl,⟨rfl⟩⟩,At.mk' () (by simp only [ec,show opGo R q1 q2 q7 ⟨q3,q4,q5,q6,b⟩ = (crcI R.c == q7) by simp only [opGo,hn,e,Bool.true_and,Bool.false_or]]; try rfl)⟩⟩⟩,fun hn => At.mk' () (by simp only [show opGo R q1 q2 q7 ⟨q3,q4,q5,q6,b⟩ = false by simp only [opGo,hn,Bool.false_and]])⟩,
    fun _ => ⟨fun hg => absurd hg (by simp [opGo,opNext,hlead]),fun hg => fun f => ⟨rfl,⟨hol⟩,⟨by simp [SameL]⟩,fin (opR_no hs hg) (by
    unfold RepKB nackR sendR
    simp only [hl]
    refine ⟨I,Q,T,hI,hQ,hT,?_⟩
    simp [cR,postD,msgD,pst,dn,ints,ints_nil])⟩⟩⟩⟩⟩⟩⟩
def Mop : FSpec:=fun args kb K => ∃ R fr kd q0 q1 q2 q3 q4 q5 q6 q7 b ls,args = [.ptr 0 0,.int .i64 fr,.agg [.int .i64 kd,.dat (.sl 1 [[dn .i64 q0],[dn .i64 q1],[dn .i64 q2],[dn .i64 q3],[dn .i64 q4],[dn .i64 q5],[dn .i64 q6],[dn .i64 q7]]),.dat (.sl 1 (ints .u8 b)),.dat (.sl 1 (lsD ls))]]∧RepKB R kb∧RepOk R∧∀ kb',RepKB (opR R fr ⟨kd,[q0,q1,q2,q3,q4,q5,q6,q7],b,ls⟩) kb'→K (.tup []) kb'
theorem okOp : MethOk Try.prog 37 Mop:=methOk_runH mixed 13 msLd (fun args kb K h => by
  obtain ⟨R,fr,kd,q0,q1,q2,q3,q4,q5,q6,q7,b,ls,rfl,hkb,hR,hK⟩:=h
  have hkb0:=hkb
  unfold RepKB at hkb
  split at hkb
  · rename_i hl
    obtain ⟨a14,a15,T,hT,rfl⟩:=hkb
    exact ⟨_,_,XMs_ok,op_n R T a14 a15 fr kd q0 q1 q2 q3 q4 q5 q6 q7 b ls hT hl hR (fun a b => by unfold RepKB; simp only [hl]; exact ⟨a,b,T,hT,rfl⟩) K hK⟩
  · rename_i L hl
    obtain ⟨I,Q,T,hI,hQ,hT,rfl⟩:=hkb
    exact ⟨_,_,XMs_ok,op_l R T I Q L fr kd q0 q1 q2 q3 q4 q5 q6 q7 b ls hT hl hI hQ hR hkb0 K hK⟩)
end Go.Proofs.Ytfcjngcnifdmnaa
namespace Go.Proofs.Ytfcjngcnifdmnaa
open Vc Go
set_option linter.unusedVariables false
set_option linter.unusedSimpArgs false
set_option maxRecDepth 100000
structure RKB (R : Rep) (kb : KB) : Prop where
  h : RepKB R kb
structure RkO (R : Rep) : Prop where
  h : RepOk R
structure SyHyp (R : Rep) (b : List Int) (ls : List (List Int)) : Prop where
  ok : RepOk R
  by_ : Byt b
  l : b.length ≤ 900000
  ls : ∀ y ∈ ls,Byt y∧y.length ≤ 140737488355328
def Hsync : FSpec:=fun args kb K => ∃ R fr kd q0 q1 q2 b ls,args = [.ptr 0 0,.int .i64 fr,.agg [.int .i64 kd,.dat (.sl 1 [[dn .i64 q0],[dn .i64 q1],[dn .i64 q2]]),.dat (.sl 1 (ints .u8 b)),.dat (.sl 1 (lsD ls))]]∧RKB R kb∧SyHyp R b ls∧∀ kb',RKB (syncR R fr ⟨kd,[q0,q1,q2],b,ls⟩) kb'→K (.tup []) kb'
theorem okHsync : MethOk Try.prog 35 Hsync:=fun args kb K h => okSync args kb K (by
  obtain ⟨R,fr,kd,q0,q1,q2,b,ls,rfl,hkb,hO,hK⟩:=h
  exact ⟨R,fr,kd,q0,q1,q2,b,ls,rfl,hkb.h,hO.ok,hO.by_,hO.l,hO.ls,fun kb' hk => hK kb' ⟨hk⟩⟩)
def HsyncOk : FSpec:=fun args kb K => ∃ R fr kd q0 q1 q2 b ls,args = [.ptr 0 0,.int .i64 fr,.agg [.int .i64 kd,.dat (.sl 1 [[dn .i64 q0],[dn .i64 q1],[dn .i64 q2]]),.dat (.sl 1 (ints .u8 b)),.dat (.sl 1 (lsD ls))]]∧RKB R kb∧RkO R∧∀ kb',RKB (syncOkR R fr ⟨kd,[q0,q1,q2],b,ls⟩) kb'→K (.tup []) kb'
theorem okHsyncOk : MethOk Try.prog 36 HsyncOk:=fun args kb K h => okSyncOk args kb K (by
  obtain ⟨R,fr,kd,q0,q1,q2,b,ls,rfl,hkb,hO,hK⟩:=h
  exact ⟨R,fr,kd,q0,q1,q2,b,ls,rfl,hkb.h,hO.h,fun kb' hk => hK kb' ⟨hk⟩⟩)
def Hop : FSpec:=fun args kb K => ∃ R fr kd q0 q1 q2 q3 q4 q5 q6 q7 b ls,args = [.ptr 0 0,.int .i64 fr,.agg [.int .i64 kd,.dat (.sl 1 [[dn .i64 q0],[dn .i64 q1],[dn .i64 q2],[dn .i64 q3],[dn .i64 q4],[dn .i64 q5],[dn .i64 q6],[dn .i64 q7]]),.dat (.sl 1 (ints .u8 b)),.dat (.sl 1 (lsD ls))]]∧RKB R kb∧RkO R∧∀ kb',RKB (opR R fr ⟨kd,[q0,q1,q2,q3,q4,q5,q6,q7],b,ls⟩) kb'→K (.tup []) kb'
theorem okHop : MethOk Try.prog 37 Hop:=fun args kb K h => okOp args kb K (by
  obtain ⟨R,fr,kd,q0,q1,q2,q3,q4,q5,q6,q7,b,ls,rfl,hkb,hO,hK⟩:=h
  exact ⟨R,fr,kd,q0,q1,q2,q3,q4,q5,q6,q7,b,ls,rfl,hkb.h,hO.h,fun kb' hk => hK kb' ⟨hk⟩⟩)
def HopOk : FSpec:=fun args kb K => ∃ R fr kd q0 q1 q2 b ls,args = [.ptr 0 0,.int .i64 fr,.agg [.int .i64 kd,.dat (.sl 1 [[dn .i64 q0],[dn .i64 q1],[dn .i64 q2]]),.dat (.sl 1 (ints .u8 b)),.dat (.sl 1 (lsD ls))]]∧RKB R kb∧RkO R∧∀ kb',RKB (opOkR R fr ⟨kd,[q0,q1,q2],b,ls⟩) kb'→K (.tup []) kb'
theorem okHopOk : MethOk Try.prog 38 HopOk:=fun args kb K h => okOpOk args kb K (by
  obtain ⟨R,fr,kd,q0,q1,q2,b,ls,rfl,hkb,hO,hK⟩:=h
  exact ⟨R,fr,kd,q0,q1,q2,b,ls,rfl,hkb.h,hO.h,fun kb' hk => hK kb' ⟨hk⟩⟩)
def Hrefused : FSpec:=fun args kb K => ∃ R fr kd q0 q1 q2 b ls,args = [.ptr 0 0,.int .i64 fr,.agg [.int .i64 kd,.dat (.sl 1 [[dn .i64 q0],[dn .i64 q1],[dn .i64 q2]]),.dat (.sl 1 (ints .u8 b)),.dat (.sl 1 (lsD ls))]]∧RKB R kb∧RkO R∧∀ kb',RKB (refusedR R fr ⟨kd,[q0,q1,q2],b,ls⟩) kb'→K (.tup []) kb'
theorem okHrefused : MethOk Try.prog 39 Hrefused:=fun args kb K h => okRefused args kb K (by
  obtain ⟨R,fr,kd,q0,q1,q2,b,ls,rfl,hkb,hO,hK⟩:=h
  exact ⟨R,fr,kd,q0,q1,q2,b,ls,rfl,hkb.h,hO.h,fun kb' hk => hK kb' ⟨hk⟩⟩)
def hdS : FuncId→Option Known
  | 35 => some ⟨[.tail],Hsync⟩
  | 36 => some ⟨[.tail],HsyncOk⟩
  | 37 => some ⟨[.tail],Hop⟩
  | 38 => some ⟨[.tail],HopOk⟩
  | 39 => some ⟨[.tail],Hrefused⟩
  | 41 => some ⟨[],ScontF⟩
  | _ => none
noncomputable def XHd : CallT:=callS Try.prog hdS noT 10
theorem vcHandle_n (R : Rep) (T : ML) (a14 a15 : Value) (fr : Int) (m : Msg) (K : V→KB→Prop) (hvc_ :
 let z1_ : KB:=[cR R (tbV T) (V.sb false) (V.any a14) (V.any a15) (V.ipo none) (V.sl 1 0 (nO R)) (V.sl 2 0 (nD R)),rO R,rD R]; ([m.kd] = [10] →
 (∀ (y1 : List D),mget (mset (mset (mset (mset (mset [] [10] [D.val (Value.int IntKind.i64 3)]) [11] [D.val (Value.int IntKind.i64 3)]) [12] [D.val (Value.int IntKind.i64 8)]) [13] [D.val (Value.int IntKind.i64 3)]) [14] [D.val (Value.int IntKind.i64 3)]) [m.kd] = some y1 →
 ConfK [CK.int IntKind.i64] y1) ∧
 (((↑(ints IntKind.i64 m.n).length : Int) == mgetI (mset (mset (mset (mset (mset [] [10] [D.val (Value.int IntKind.i64 3)]) [11] [D.val (Value.int IntKind.i64 3)]) [12] [D.val (Value.int IntKind.i64 8)]) [13] [D.val (Value.int IntKind.i64 3)]) [14] [D.val (Value.int IntKind.i64 3)]) [m.kd] 0) = true →
 NonN 0 ∧
 ∃ (y2 : List D),(ints IntKind.i64 m.n)[0]? = some y2 ∧
 ∃ (y3 : Int),y2[0]? = some (D.val (Value.int IntKind.i64 y3)) ∧
 ((y3 == R.id) = true →
 ((fr != R.me) = true →
 ∃ (y4 : List Int),ints IntKind.i64 m.n = ints IntKind.i64 y4 ∧
 Len5 y4.length ∧
 ((!y4.any isWrong) = true →
 ∃ (y5 : Rep),∃ (y6 : Int),∃ (y7 : Int),∃ (y8 : Int),∃ (y9 : Int),∃ (y10 : Int),∃ (y11 : List Int),∃ (y12 : List (List Int)),[V.ptr 0 0,V.int IntKind.i64 fr,V.agg [V.int IntKind.i64 m.kd,V.dat (D.sl 1 (ints IntKind.i64 m.n)),V.dat (D.sl 1 (ints IntKind.u8 m.b)),V.dat (D.sl 1 (lsD m.l))]] = [V.ptr 0 0,V.int IntKind.i64 y6,V.agg [V.int IntKind.i64 y7,V.dat (D.sl 1 [[dn IntKind.i64 y8],[dn IntKind.i64 y9],[dn IntKind.i64 y10]]),V.dat (D.sl 1 (ints IntKind.u8 y11)),V.dat (D.sl 1 (lsD y12))]] ∧
 RKB y5 z1_ ∧
 SyHyp y5 y11 y12 ∧
 ∀ (y13 : KB),RKB (syncR y5 y6 { kd:=y7,n:=[y8,y9,y10],b:=y11,l:=y12}) y13 →
 flatB y13 = true →
 ∀ (y14 : List Re),flatB (y14,y13).snd = true ∧
 K (V.tup []) y13) ∧
 ((!y4.any isWrong) = false →
 ∀ (y15 : Nat →
 Value),K (V.tup []) [cR R (tbV T) (V.sb false) (V.any (y15 14)) (V.any (y15 15)) (V.ipo none) (V.sl 1 0 (nO R)) (V.sl 2 0 (nD R)),rO R,rD R])) ∧
 ((fr != R.me) = false →
 ∀ (y16 : Nat →
 Value),K (V.tup []) [cR R (tbV T) (V.sb false) (V.any (y16 14)) (V.any (y16 15)) (V.ipo none) (V.sl 1 0 (nO R)) (V.sl 2 0 (nD R)),rO R,rD R])) ∧
 ((y3 == R.id) = false →
 ∀ (y17 : Nat →
 Value),K (V.tup []) [cR R (tbV T) (V.sb false) (V.any (y17 14)) (V.any (y17 15)) (V.ipo none) (V.sl 1 0 (nO R)) (V.sl 2 0 (nD R)),rO R,rD R])) ∧
 (((↑(ints IntKind.i64 m.n).length : Int) == mgetI (mset (mset (mset (mset (mset [] [10] [D.val (Value.int IntKind.i64 3)]) [11] [D.val (Value.int IntKind.i64 3)]) [12] [D.val (Value.int IntKind.i64 8)]) [13] [D.val (Value.int IntKind.i64 3)]) [14] [D.val (Value.int IntKind.i64 3)]) [m.kd] 0) = false →
 ∀ (y18 : Nat →
 Value),K (V.tup []) [cR R (tbV T) (V.sb false) (V.any (y18 14)) (V.any (y18 15)) (V.ipo none) (V.sl 1 0 (nO R)) (V.sl 2 0 (nD R)),rO R,rD R])) ∧
 (([m.kd] = [10] →
 False) →
 ([m.kd] = [11] →
 (∀ (y19 : List D),mget (mset (mset (mset (mset (mset [] [10] [D.val (Value.int IntKind.i64 3)]) [11] [D.val (Value.int IntKind.i64 3)]) [12] [D.val (Value.int IntKind.i64 8)]) [13] [D.val (Value.int IntKind.i64 3)]) [14] [D.val (Value.int IntKind.i64 3)]) [m.kd] = some y19 →
 ConfK [CK.int IntKind.i64] y19) ∧
 (((↑(ints IntKind.i64 m.n).length : Int) == mgetI (mset (mset (mset (mset (mset [] [10] [D.val (Value.int IntKind.i64 3)]) [11] [D.val (Value.int IntKind.i64 3)]) [12] [D.val (Value.int IntKind.i64 8)]) [13] [D.val (Value.int IntKind.i64 3)]) [14] [D.val (Value.int IntKind.i64 3)]) [m.kd] 0) = true →
 NonN 0 ∧
 ∃ (y20 : List D),(ints IntKind.i64 m.n)[0]? = some y20 ∧
 ∃ (y21 : Int),y20[0]? = some (D.val (Value.int IntKind.i64 y21)) ∧
 ((y21 == R.id) = true →
 ((fr != R.me) = true →
 ∃ (y22 : List Int),ints IntKind.i64 m.n = ints IntKind.i64 y22 ∧
 Len5 y22.length ∧
 ((!y22.any isWrong) = true →
 ∃ (y23 : Rep),∃ (y24 : Int),∃ (y25 : Int),∃ (y26 : Int),∃ (y27 : Int),∃ (y28 : Int),∃ (y29 : List Int),∃ (y30 : List (List Int)),[V.ptr 0 0,V.int IntKind.i64 fr,V.agg [V.int IntKind.i64 m.kd,V.dat (D.sl 1 (ints IntKind.i64 m.n)),V.dat (D.sl 1 (ints IntKind.u8 m.b)),V.dat (D.sl 1 (lsD m.l))]] = [V.ptr 0 0,V.int IntKind.i64 y24,V.agg [V.int IntKind.i64 y25,V.dat (D.sl 1 [[dn IntKind.i64 y26],[dn IntKind.i64 y27],[dn IntKind.i64 y28]]),V.dat (D.sl 1 (ints IntKind.u8 y29)),V.dat (D.sl 1 (lsD y30))]] ∧
 RKB y23 z1_ ∧
 RkO y23 ∧
 ∀ (y31 : KB),RKB (syncOkR y23 y24 { kd:=y25,n:=[y26,y27,y28],b:=y29,l:=y30}) y31 →
 flatB y31 = true →
 ∀ (y32 : List Re),flatB (y32,y31).snd = true ∧
 K (V.tup []) y31) ∧
 ((!y22.any isWrong) = false →
 ∀ (y33 : Nat →
 Value),K (V.tup []) [cR R (tbV T) (V.sb false) (V.any (y33 14)) (V.any (y33 15)) (V.ipo none) (V.sl 1 0 (nO R)) (V.sl 2 0 (nD R)),rO R,rD R])) ∧
 ((fr != R.me) = false →
 ∀ (y34 : Nat →
 Value),K (V.tup []) [cR R (tbV T) (V.sb false) (V.any (y34 14)) (V.any (y34 15)) (V.ipo none) (V.sl 1 0 (nO R)) (V.sl 2 0 (nD R)),rO R,rD R])) ∧
 ((y21 == R.id) = false →
 ∀ (y35 : Nat →
 Value),K (V.tup []) [cR R (tbV T) (V.sb false) (V.any (y35 14)) (V.any (y35 15)) (V.ipo none) (V.sl 1 0 (nO R)) (V.sl 2 0 (nD R)),rO R,rD R])) ∧
 (((↑(ints IntKind.i64 m.n).length : Int) == mgetI (mset (mset (mset (mset (mset [] [10] [D.val (Value.int IntKind.i64 3)]) [11] [D.val (Value.int IntKind.i64 3)]) [12] [D.val (Value.int IntKind.i64 8)]) [13] [D.val (Value.int IntKind.i64 3)]) [14] [D.val (Value.int IntKind.i64 3)]) [m.kd] 0) = false →
 ∀ (y36 : Nat →
 Value),K (V.tup []) [cR R (tbV T) (V.sb false) (V.any (y36 14)) (V.any (y36 15)) (V.ipo none) (V.sl 1 0 (nO R)) (V.sl 2 0 (nD R)),rO R,rD R])) ∧
 (([m.kd] = [11] →
 False) →
 ([m.kd] = [12] →
 (∀ (y37 : List D),mget (mset (mset (mset (mset (mset [] [10] [D.val (Value.int IntKind.i64 3)]) [11] [D.val (Value.int IntKind.i64 3)]) [12] [D.val (Value.int IntKind.i64 8)]) [13] [D.val (Value.int IntKind.i64 3)]) [14] [D.val (Value.int IntKind.i64 3)]) [m.kd] = some y37 →
 ConfK [CK.int IntKind.i64] y37) ∧
 (((↑(ints IntKind.i64 m.n).length : Int) == mgetI (mset (mset (mset (mset (mset [] [10] [D.val (Value.int IntKind.i64 3)]) [11] [D.val (Value.int IntKind.i64 3)]) [12] [D.val (Value.int IntKind.i64 8)]) [13] [D.val (Value.int IntKind.i64 3)]) [14] [D.val (Value.int IntKind.i64 3)]) [m.kd] 0) = true →
 NonN 0 ∧
 ∃ (y38 : List D),(ints IntKind.i64 m.n)[0]? = some y38 ∧
 ∃ (y39 : Int),y38[0]? = some (D.val (Value.int IntKind.i64 y39)) ∧
 ((y39 == R.id) = true →
 ((fr != R.me) = true →
 ∃ (y40 : List Int),ints IntKind.i64 m.n = ints IntKind.i64 y40 ∧
 Len5 y40.length ∧
 ((!y40.any isWrong) = true →
 ∃ (y41 : Rep),∃ (y42 : Int),∃ (y43 : Int),∃ (y44 : Int),∃ (y45 : Int),∃ (y46 : Int),∃ (y47 : Int),∃ (y48 : Int),∃ (y49 : Int),∃ (y50 : Int),∃ (y51 : Int),∃ (y52 : List Int),∃ (y53 : List (List Int)),[V.ptr 0 0,V.int IntKind.i64 fr,V.agg [V.int IntKind.i64 m.kd,V.dat (D.sl 1 (ints IntKind.i64 m.n)),V.dat (D.sl 1 (ints IntKind.u8 m.b)),V.dat (D.sl 1 (lsD m.l))]] = [V.ptr 0 0,V.int IntKind.i64 y42,V.agg [V.int IntKind.i64 y43,V.dat (D.sl 1 [[dn IntKind.i64 y44],[dn IntKind.i64 y45],[dn IntKind.i64 y46],[dn IntKind.i64 y47],[dn IntKind.i64 y48],[dn IntKind.i64 y49],[dn IntKind.i64 y50],[dn IntKind.i64 y51]]),V.dat (D.sl 1 (ints IntKind.u8 y52)),V.dat (D.sl 1 (lsD y53))]] ∧
 RKB y41 z1_ ∧
 RkO y41 ∧
 ∀ (y54 : KB),RKB (opR y41 y42 { kd:=y43,n:=[y44,y45,y46,y47,y48,y49,y50,y51],b:=y52,l:=y53}) y54 →
 flatB y54 = true →
 ∀ (y55 : List Re),flatB (y55,y54).snd = true ∧
 K (V.tup []) y54) ∧
 ((!y40.any isWrong) = false →
 ∀ (y56 : Nat →
 Value),K (V.tup []) [cR R (tbV T) (V.sb false) (V.any (y56 14)) (V.any (y56 15)) (V.ipo none) (V.sl 1 0 (nO R)) (V.sl 2 0 (nD R)),rO R,rD R])) ∧
 ((fr != R.me) = false →
 ∀ (y57 : Nat →
 Value),K (V.tup []) [cR R (tbV T) (V.sb false) (V.any (y57 14)) (V.any (y57 15)) (V.ipo none) (V.sl 1 0 (nO R)) (V.sl 2 0 (nD R)),rO R,rD R])) ∧
 ((y39 == R.id) = false →
 ∀ (y58 : Nat →
 Value),K (V.tup []) [cR R (tbV T) (V.sb false) (V.any (y58 14)) (V.any (y58 15)) (V.ipo none) (V.sl 1 0 (nO R)) (V.sl 2 0 (nD R)),rO R,rD R])) ∧
 (((↑(ints IntKind.i64 m.n).length : Int) == mgetI (mset (mset (mset (mset (mset [] [10] [D.val (Value.int IntKind.i64 3)]) [11] [D.val (Value.int IntKind.i64 3)]) [12] [D.val (Value.int IntKind.i64 8)]) [13] [D.val (Value.int IntKind.i64 3)]) [14] [D.val (Value.int IntKind.i64 3)]) [m.kd] 0) = false →
 ∀ (y59 : Nat →
 Value),K (V.tup []) [cR R (tbV T) (V.sb false) (V.any (y59 14)) (V.any (y59 15)) (V.ipo none) (V.sl 1 0 (nO R)) (V.sl 2 0 (nD R)),rO R,rD R])) ∧
 (([m.kd] = [12] →
 False) →
 ([m.kd] = [13] →
 (∀ (y60 : List D),mget (mset (mset (mset (mset (mset [] [10] [D.val (Value.int IntKind.i64 3)]) [11] [D.val (Value.int IntKind.i64 3)]) [12] [D.val (Value.int IntKind.i64 8)]) [13] [D.val (Value.int IntKind.i64 3)]) [14] [D.val (Value.int IntKind.i64 3)]) [m.kd] = some y60 →
 ConfK [CK.int IntKind.i64] y60) ∧
 (((↑(ints IntKind.i64 m.n).length : Int) == mgetI (mset (mset (mset (mset (mset [] [10] [D.val (Value.int IntKind.i64 3)]) [11] [D.val (Value.int IntKind.i64 3)]) [12] [D.val (Value.int IntKind.i64 8)]) [13] [D.val (Value.int IntKind.i64 3)]) [14] [D.val (Value.int IntKind.i64 3)]) [m.kd] 0) = true →
 NonN 0 ∧
 ∃ (y61 : List D),(ints IntKind.i64 m.n)[0]? = some y61 ∧
 ∃ (y62 : Int),y61[0]? = some (D.val (Value.int IntKind.i64 y62)) ∧
 ((y62 == R.id) = true →
 ((fr != R.me) = true →
 ∃ (y63 : List Int),ints IntKind.i64 m.n = ints IntKind.i64 y63 ∧
 Len5 y63.length ∧
 ((!y63.any isWrong) = true →
 ∃ (y64 : Rep),∃ (y65 : Int),∃ (y66 : Int),∃ (y67 : Int),∃ (y68 : Int),∃ (y69 : Int),∃ (y70 : List Int),∃ (y71 : List (List Int)),[V.ptr 0 0,V.int IntKind.i64 fr,V.agg [V.int IntKind.i64 m.kd,V.dat (D.sl 1 (ints IntKind.i64 m.n)),V.dat (D.sl 1 (ints IntKind.u8 m.b)),V.dat (D.sl 1 (lsD m.l))]] = [V.ptr 0 0,V.int IntKind.i64 y65,V.agg [V.int IntKind.i64 y66,V.dat (D.sl 1 [[dn IntKind.i64 y67],[dn IntKind.i64 y68],[dn IntKind.i64 y69]]),V.dat (D.sl 1 (ints IntKind.u8 y70)),V.dat (D.sl 1 (lsD y71))]] ∧
 RKB y64 z1_ ∧
 RkO y64 ∧
 ∀ (y72 : KB),RKB (opOkR y64 y65 { kd:=y66,n:=[y67,y68,y69],b:=y70,l:=y71}) y72 →
 flatB y72 = true →
 ∀ (y73 : List Re),flatB (y73,y72).snd = true ∧
 K (V.tup []) y72) ∧
 ((!y63.any isWrong) = false →
 ∀ (y74 : Nat →
 Value),K (V.tup []) [cR R (tbV T) (V.sb false) (V.any (y74 14)) (V.any (y74 15)) (V.ipo none) (V.sl 1 0 (nO R)) (V.sl 2 0 (nD R)),rO R,rD R])) ∧
 ((fr != R.me) = false →
 ∀ (y75 : Nat →
 Value),K (V.tup []) [cR R (tbV T) (V.sb false) (V.any (y75 14)) (V.any (y75 15)) (V.ipo none) (V.sl 1 0 (nO R)) (V.sl 2 0 (nD R)),rO R,rD R])) ∧
 ((y62 == R.id) = false →
 ∀ (y76 : Nat →
 Value),K (V.tup []) [cR R (tbV T) (V.sb false) (V.any (y76 14)) (V.any (y76 15)) (V.ipo none) (V.sl 1 0 (nO R)) (V.sl 2 0 (nD R)),rO R,rD R])) ∧
 (((↑(ints IntKind.i64 m.n).length : Int) == mgetI (mset (mset (mset (mset (mset [] [10] [D.val (Value.int IntKind.i64 3)]) [11] [D.val (Value.int IntKind.i64 3)]) [12] [D.val (Value.int IntKind.i64 8)]) [13] [D.val (Value.int IntKind.i64 3)]) [14] [D.val (Value.int IntKind.i64 3)]) [m.kd] 0) = false →
 ∀ (y77 : Nat →
 Value),K (V.tup []) [cR R (tbV T) (V.sb false) (V.any (y77 14)) (V.any (y77 15)) (V.ipo none) (V.sl 1 0 (nO R)) (V.sl 2 0 (nD R)),rO R,rD R])) ∧
 (([m.kd] = [13] →
 False) →
 ([m.kd] = [14] →
 (∀ (y78 : List D),mget (mset (mset (mset (mset (mset [] [10] [D.val (Value.int IntKind.i64 3)]) [11] [D.val (Value.int IntKind.i64 3)]) [12] [D.val (Value.int IntKind.i64 8)]) [13] [D.val (Value.int IntKind.i64 3)]) [14] [D.val (Value.int IntKind.i64 3)]) [m.kd] = some y78 →
 ConfK [CK.int IntKind.i64] y78) ∧
 (((↑(ints IntKind.i64 m.n).length : Int) == mgetI (mset (mset (mset (mset (mset [] [10] [D.val (Value.int IntKind.i64 3)]) [11] [D.val (Value.int IntKind.i64 3)]) [12] [D.val (Value.int IntKind.i64 8)]) [13] [D.val (Value.int IntKind.i64 3)]) [14] [D.val (Value.int IntKind.i64 3)]) [m.kd] 0) = true →
 NonN 0 ∧
 ∃ (y79 : List D),(ints IntKind.i64 m.n)[0]? = some y79 ∧
 ∃ (y80 : Int),y79[0]? = some (D.val (Value.int IntKind.i64 y80)) ∧
 ((y80 == R.id) = true →
 ((fr != R.me) = true →
 ∃ (y81 : List Int),ints IntKind.i64 m.n = ints IntKind.i64 y81 ∧
 Len5 y81.length ∧
 ((!y81.any isWrong) = true →
 ∃ (y82 : Rep),∃ (y83 : Int),∃ (y84 : Int),∃ (y85 : Int),∃ (y86 : Int),∃ (y87 : Int),∃ (y88 : List Int),∃ (y89 : List (List Int)),[V.ptr 0 0,V.int IntKind.i64 fr,V.agg [V.int IntKind.i64 m.kd,V.dat (D.sl 1 (ints IntKind.i64 m.n)),V.dat (D.sl 1 (ints IntKind.u8 m.b)),V.dat (D.sl 1 (lsD m.l))]] = [V.ptr 0 0,V.int IntKind.i64 y83,V.agg [V.int IntKind.i64 y84,V.dat (D.sl 1 [[dn IntKind.i64 y85],[dn IntKind.i64 y86],[dn IntKind.i64 y87]]),V.dat (D.sl 1 (ints IntKind.u8 y88)),V.dat (D.sl 1 (lsD y89))]] ∧
 RKB y82 z1_ ∧
 RkO y82 ∧
 ∀ (y90 : KB),RKB (refusedR y82 y83 { kd:=y84,n:=[y85,y86,y87],b:=y88,l:=y89}) y90 →
 flatB y90 = true →
 ∀ (y91 : List Re),flatB (y91,y90).snd = true ∧
 K (V.tup []) y90) ∧
 ((!y81.any isWrong) = false →
 ∀ (y92 : Nat →
 Value),K (V.tup []) [cR R (tbV T) (V.sb false) (V.any (y92 14)) (V.any (y92 15)) (V.ipo none) (V.sl 1 0 (nO R)) (V.sl 2 0 (nD R)),rO R,rD R])) ∧
 ((fr != R.me) = false →
 ∀ (y93 : Nat →
 Value),K (V.tup []) [cR R (tbV T) (V.sb false) (V.any (y93 14)) (V.any (y93 15)) (V.ipo none) (V.sl 1 0 (nO R)) (V.sl 2 0 (nD R)),rO R,rD R])) ∧
 ((y80 == R.id) = false →
 ∀ (y94 : Nat →
 Value),K (V.tup []) [cR R (tbV T) (V.sb false) (V.any (y94 14)) (V.any (y94 15)) (V.ipo none) (V.sl 1 0 (nO R)) (V.sl 2 0 (nD R)),rO R,rD R])) ∧
 (((↑(ints IntKind.i64 m.n).length : Int) == mgetI (mset (mset (mset (mset (mset [] [10] [D.val (Value.int IntKind.i64 3)]) [11] [D.val (Value.int IntKind.i64 3)]) [12] [D.val (Value.int IntKind.i64 8)]) [13] [D.val (Value.int IntKind.i64 3)]) [14] [D.val (Value.int IntKind.i64 3)]) [m.kd] 0) = false →
 ∀ (y95 : Nat →
 Value),K (V.tup []) [cR R (tbV T) (V.sb false) (V.any (y95 14)) (V.any (y95 15)) (V.ipo none) (V.sl 1 0 (nO R)) (V.sl 2 0 (nD R)),rO R,rD R])) ∧
 (([m.kd] = [14] →
 False) →
 ∀ (y96 : Nat →
 Value),K (V.tup []) [cR R (tbV T) (V.sb false) (V.any (y96 14)) (V.any (y96 15)) (V.ipo none) (V.sl 1 0 (nO R)) (V.sl 2 0 (nD R)),rO R,rD R])))))
 ) : runSpec Try.prog XHd (fun _ => none) 16 [.ptr 0 0,.int .i64 fr,.agg [.int .i64 m.kd,.dat (.sl 1 (ints .i64 m.n)),.dat (.sl 1 (ints .u8 m.b)),.dat (.sl 1 (lsD m.l))]] [cR R (tbV T) (.sb false) (.any a14) (.any a15) (.ipo none) (.sl 1 0 (nO R)) (.sl 2 0 (nD R)),rO R,rD R] (rootT 13 msLd K):=by apply Eq.mp (a:=hvc_); kernel_rfl
theorem vcHandle_l (R : Rep) (T : ML) (I Q : ML) (u : Option (List D)) (fr : Int) (m : Msg) (K : V→KB→Prop) (hvc_ :
 let z1_ : KB:=[cR R (tbV T) (V.sb true) (V.mp 1) (V.mp 2) (V.ipo u) (V.sl 3 0 (nO R)) (V.sl 4 0 (nD R)),mpF I,mpF Q,rO R,rD R]; ([m.kd] = [10] →
 (∀ (y1 : List D),mget (mset (mset (mset (mset (mset [] [10] [D.val (Value.int IntKind.i64 3)]) [11] [D.val (Value.int IntKind.i64 3)]) [12] [D.val (Value.int IntKind.i64 8)]) [13] [D.val (Value.int IntKind.i64 3)]) [14] [D.val (Value.int IntKind.i64 3)]) [m.kd] = some y1 →
 ConfK [CK.int IntKind.i64] y1) ∧
 (((↑(ints IntKind.i64 m.n).length : Int) == mgetI (mset (mset (mset (mset (mset [] [10] [D.val (Value.int IntKind.i64 3)]) [11] [D.val (Value.int IntKind.i64 3)]) [12] [D.val (Value.int IntKind.i64 8)]) [13] [D.val (Value.int IntKind.i64 3)]) [14] [D.val (Value.int IntKind.i64 3)]) [m.kd] 0) = true →
 NonN 0 ∧
 ∃ (y2 : List D),(ints IntKind.i64 m.n)[0]? = some y2 ∧
 ∃ (y3 : Int),y2[0]? = some (D.val (Value.int IntKind.i64 y3)) ∧
 ((y3 == R.id) = true →
 ((fr != R.me) = true →
 ∃ (y4 : List Int),ints IntKind.i64 m.n = ints IntKind.i64 y4 ∧
 Len5 y4.length ∧
 ((!y4.any isWrong) = true →
 ∃ (y5 : Rep),∃ (y6 : Int),∃ (y7 : Int),∃ (y8 : Int),∃ (y9 : Int),∃ (y10 : Int),∃ (y11 : List Int),∃ (y12 : List (List Int)),[V.ptr 0 0,V.int IntKind.i64 fr,V.agg [V.int IntKind.i64 m.kd,V.dat (D.sl 1 (ints IntKind.i64 m.n)),V.dat (D.sl 1 (ints IntKind.u8 m.b)),V.dat (D.sl 1 (lsD m.l))]] = [V.ptr 0 0,V.int IntKind.i64 y6,V.agg [V.int IntKind.i64 y7,V.dat (D.sl 1 [[dn IntKind.i64 y8],[dn IntKind.i64 y9],[dn IntKind.i64 y10]]),V.dat (D.sl 1 (ints IntKind.u8 y11)),V.dat (D.sl 1 (lsD y12))]] ∧
 RKB y5 z1_ ∧
 SyHyp y5 y11 y12 ∧
 ∀ (y13 : KB),RKB (syncR y5 y6 { kd:=y7,n:=[y8,y9,y10],b:=y11,l:=y12}) y13 →
 flatB y13 = true →
 ∀ (y14 : List Re),flatB (y14,y13).snd = true ∧
 K (V.tup []) y13) ∧
 ((!y4.any isWrong) = false →
 K (V.tup []) z1_)) ∧
 ((fr != R.me) = false →
 K (V.tup []) z1_)) ∧
 ((y3 == R.id) = false →
 K (V.tup []) z1_)) ∧
 (((↑(ints IntKind.i64 m.n).length : Int) == mgetI (mset (mset (mset (mset (mset [] [10] [D.val (Value.int IntKind.i64 3)]) [11] [D.val (Value.int IntKind.i64 3)]) [12] [D.val (Value.int IntKind.i64 8)]) [13] [D.val (Value.int IntKind.i64 3)]) [14] [D.val (Value.int IntKind.i64 3)]) [m.kd] 0) = false →
 K (V.tup []) z1_)) ∧
 (([m.kd] = [10] →
 False) →
 ([m.kd] = [11] →
 (∀ (y15 : List D),mget (mset (mset (mset (mset (mset [] [10] [D.val (Value.int IntKind.i64 3)]) [11] [D.val (Value.int IntKind.i64 3)]) [12] [D.val (Value.int IntKind.i64 8)]) [13] [D.val (Value.int IntKind.i64 3)]) [14] [D.val (Value.int IntKind.i64 3)]) [m.kd] = some y15 →
 ConfK [CK.int IntKind.i64] y15) ∧
 (((↑(ints IntKind.i64 m.n).length : Int) == mgetI (mset (mset (mset (mset (mset [] [10] [D.val (Value.int IntKind.i64 3)]) [11] [D.val (Value.int IntKind.i64 3)]) [12] [D.val (Value.int IntKind.i64 8)]) [13] [D.val (Value.int IntKind.i64 3)]) [14] [D.val (Value.int IntKind.i64 3)]) [m.kd] 0) = true →
 NonN 0 ∧
 ∃ (y16 : List D),(ints IntKind.i64 m.n)[0]? = some y16 ∧
 ∃ (y17 : Int),y16[0]? = some (D.val (Value.int IntKind.i64 y17)) ∧
 ((y17 == R.id) = true →
 ((fr != R.me) = true →
 ∃ (y18 : List Int),ints IntKind.i64 m.n = ints IntKind.i64 y18 ∧
 Len5 y18.length ∧
 ((!y18.any isWrong) = true →
 ∃ (y19 : Rep),∃ (y20 : Int),∃ (y21 : Int),∃ (y22 : Int),∃ (y23 : Int),∃ (y24 : Int),∃ (y25 : List Int),∃ (y26 : List (List Int)),[V.ptr 0 0,V.int IntKind.i64 fr,V.agg [V.int IntKind.i64 m.kd,V.dat (D.sl 1 (ints IntKind.i64 m.n)),V.dat (D.sl 1 (ints IntKind.u8 m.b)),V.dat (D.sl 1 (lsD m.l))]] = [V.ptr 0 0,V.int IntKind.i64 y20,V.agg [V.int IntKind.i64 y21,V.dat (D.sl 1 [[dn IntKind.i64 y22],[dn IntKind.i64 y23],[dn IntKind.i64 y24]]),V.dat (D.sl 1 (ints IntKind.u8 y25)),V.dat (D.sl 1 (lsD y26))]] ∧
 RKB y19 z1_ ∧
 RkO y19 ∧
 ∀ (y27 : KB),RKB (syncOkR y19 y20 { kd:=y21,n:=[y22,y23,y24],b:=y25,l:=y26}) y27 →
 flatB y27 = true →
 ∀ (y28 : List Re),flatB (y28,y27).snd = true ∧
 K (V.tup []) y27) ∧
 ((!y18.any isWrong) = false →
 K (V.tup []) z1_)) ∧
 ((fr != R.me) = false →
 K (V.tup []) z1_)) ∧
 ((y17 == R.id) = false →
 K (V.tup []) z1_)) ∧
 (((↑(ints IntKind.i64 m.n).length : Int) == mgetI (mset (mset (mset (mset (mset [] [10] [D.val (Value.int IntKind.i64 3)]) [11] [D.val (Value.int IntKind.i64 3)]) [12] [D.val (Value.int IntKind.i64 8)]) [13] [D.val (Value.int IntKind.i64 3)]) [14] [D.val (Value.int IntKind.i64 3)]) [m.kd] 0) = false →
 K (V.tup []) z1_)) ∧
 (([m.kd] = [11] →
 False) →
 ([m.kd] = [12] →
 (∀ (y29 : List D),mget (mset (mset (mset (mset (mset [] [10] [D.val (Value.int IntKind.i64 3)]) [11] [D.val (Value.int IntKind.i64 3)]) [12] [D.val (Value.int IntKind.i64 8)]) [13] [D.val (Value.int IntKind.i64 3)]) [14] [D.val (Value.int IntKind.i64 3)]) [m.kd] = some y29 →
 ConfK [CK.int IntKind.i64] y29) ∧
 (((↑(ints IntKind.i64 m.n).length : Int) == mgetI (mset (mset (mset (mset (mset [] [10] [D.val (Value.int IntKind.i64 3)]) [11] [D.val (Value.int IntKind.i64 3)]) [12] [D.val (Value.int IntKind.i64 8)]) [13] [D.val (Value.int IntKind.i64 3)]) [14] [D.val (Value.int IntKind.i64 3)]) [m.kd] 0) = true →
 NonN 0 ∧
 ∃ (y30 : List D),(ints IntKind.i64 m.n)[0]? = some y30 ∧
 ∃ (y31 : Int),y30[0]? = some (D.val (Value.int IntKind.i64 y31)) ∧
 ((y31 == R.id) = true →
 ((fr != R.me) = true →
 ∃ (y32 : List Int),ints IntKind.i64 m.n = ints IntKind.i64 y32 ∧
 Len5 y32.length ∧
 ((!y32.any isWrong) = true →
 ∃ (y33 : Rep),∃ (y34 : Int),∃ (y35 : Int),∃ (y36 : Int),∃ (y37 : Int),∃ (y38 : Int),∃ (y39 : Int),∃ (y40 : Int),∃ (y41 : Int),∃ (y42 : Int),∃ (y43 : Int),∃ (y44 : List Int),∃ (y45 : List (List Int)),[V.ptr 0 0,V.int IntKind.i64 fr,V.agg [V.int IntKind.i64 m.kd,V.dat (D.sl 1 (ints IntKind.i64 m.n)),V.dat (D.sl 1 (ints IntKind.u8 m.b)),V.dat (D.sl 1 (lsD m.l))]] = [V.ptr 0 0,V.int IntKind.i64 y34,V.agg [V.int IntKind.i64 y35,V.dat (D.sl 1 [[dn IntKind.i64 y36],[dn IntKind.i64 y37],[dn IntKind.i64 y38],[dn IntKind.i64 y39],[dn IntKind.i64 y40],[dn IntKind.i64 y41],[dn IntKind.i64 y42],[dn IntKind.i64 y43]]),V.dat (D.sl 1 (ints IntKind.u8 y44)),V.dat (D.sl 1 (lsD y45))]] ∧
 RKB y33 z1_ ∧
 RkO y33 ∧
 ∀ (y46 : KB),RKB (opR y33 y34 { kd:=y35,n:=[y36,y37,y38,y39,y40,y41,y42,y43],b:=y44,l:=y45}) y46 →
 flatB y46 = true →
 ∀ (y47 : List Re),flatB (y47,y46).snd = true ∧
 K (V.tup []) y46) ∧
 ((!y32.any isWrong) = false →
 K (V.tup []) z1_)) ∧
 ((fr != R.me) = false →
 K (V.tup []) z1_)) ∧
 ((y31 == R.id) = false →
 K (V.tup []) z1_)) ∧
 (((↑(ints IntKind.i64 m.n).length : Int) == mgetI (mset (mset (mset (mset (mset [] [10] [D.val (Value.int IntKind.i64 3)]) [11] [D.val (Value.int IntKind.i64 3)]) [12] [D.val (Value.int IntKind.i64 8)]) [13] [D.val (Value.int IntKind.i64 3)]) [14] [D.val (Value.int IntKind.i64 3)]) [m.kd] 0) = false →
 K (V.tup []) z1_)) ∧
 (([m.kd] = [12] →
 False) →
 ([m.kd] = [13] →
 (∀ (y48 : List D),mget (mset (mset (mset (mset (mset [] [10] [D.val (Value.int IntKind.i64 3)]) [11] [D.val (Value.int IntKind.i64 3)]) [12] [D.val (Value.int IntKind.i64 8)]) [13] [D.val (Value.int IntKind.i64 3)]) [14] [D.val (Value.int IntKind.i64 3)]) [m.kd] = some y48 →
 ConfK [CK.int IntKind.i64] y48) ∧
 (((↑(ints IntKind.i64 m.n).length : Int) == mgetI (mset (mset (mset (mset (mset [] [10] [D.val (Value.int IntKind.i64 3)]) [11] [D.val (Value.int IntKind.i64 3)]) [12] [D.val (Value.int IntKind.i64 8)]) [13] [D.val (Value.int IntKind.i64 3)]) [14] [D.val (Value.int IntKind.i64 3)]) [m.kd] 0) = true →
 NonN 0 ∧
 ∃ (y49 : List D),(ints IntKind.i64 m.n)[0]? = some y49 ∧
 ∃ (y50 : Int),y49[0]? = some (D.val (Value.int IntKind.i64 y50)) ∧
 ((y50 == R.id) = true →
 ((fr != R.me) = true →
 ∃ (y51 : List Int),ints IntKind.i64 m.n = ints IntKind.i64 y51 ∧
 Len5 y51.length ∧
 ((!y51.any isWrong) = true →
 ∃ (y52 : Rep),∃ (y53 : Int),∃ (y54 : Int),∃ (y55 : Int),∃ (y56 : Int),∃ (y57 : Int),∃ (y58 : List Int),∃ (y59 : List (List Int)),[V.ptr 0 0,V.int IntKind.i64 fr,V.agg [V.int IntKind.i64 m.kd,V.dat (D.sl 1 (ints IntKind.i64 m.n)),V.dat (D.sl 1 (ints IntKind.u8 m.b)),V.dat (D.sl 1 (lsD m.l))]] = [V.ptr 0 0,V.int IntKind.i64 y53,V.agg [V.int IntKind.i64 y54,V.dat (D.sl 1 [[dn IntKind.i64 y55],[dn IntKind.i64 y56],[dn IntKind.i64 y57]]),V.dat (D.sl 1 (ints IntKind.u8 y58)),V.dat (D.sl 1 (lsD y59))]] ∧
 RKB y52 z1_ ∧
 RkO y52 ∧
 ∀ (y60 : KB),RKB (opOkR y52 y53 { kd:=y54,n:=[y55,y56,y57],b:=y58,l:=y59}) y60 →
 flatB y60 = true →
 ∀ (y61 : List Re),flatB (y61,y60).snd = true ∧
 K (V.tup []) y60) ∧
 ((!y51.any isWrong) = false →
 K (V.tup []) z1_)) ∧
 ((fr != R.me) = false →
 K (V.tup []) z1_)) ∧
 ((y50 == R.id) = false →
 K (V.tup []) z1_)) ∧
 (((↑(ints IntKind.i64 m.n).length : Int) == mgetI (mset (mset (mset (mset (mset [] [10] [D.val (Value.int IntKind.i64 3)]) [11] [D.val (Value.int IntKind.i64 3)]) [12] [D.val (Value.int IntKind.i64 8)]) [13] [D.val (Value.int IntKind.i64 3)]) [14] [D.val (Value.int IntKind.i64 3)]) [m.kd] 0) = false →
 K (V.tup []) z1_)) ∧
 (([m.kd] = [13] →
 False) →
 ([m.kd] = [14] →
 (∀ (y62 : List D),mget (mset (mset (mset (mset (mset [] [10] [D.val (Value.int IntKind.i64 3)]) [11] [D.val (Value.int IntKind.i64 3)]) [12] [D.val (Value.int IntKind.i64 8)]) [13] [D.val (Value.int IntKind.i64 3)]) [14] [D.val (Value.int IntKind.i64 3)]) [m.kd] = some y62 →
 ConfK [CK.int IntKind.i64] y62) ∧
 (((↑(ints IntKind.i64 m.n).length : Int) == mgetI (mset (mset (mset (mset (mset [] [10] [D.val (Value.int IntKind.i64 3)]) [11] [D.val (Value.int IntKind.i64 3)]) [12] [D.val (Value.int IntKind.i64 8)]) [13] [D.val (Value.int IntKind.i64 3)]) [14] [D.val (Value.int IntKind.i64 3)]) [m.kd] 0) = true →
 NonN 0 ∧
 ∃ (y63 : List D),(ints IntKind.i64 m.n)[0]? = some y63 ∧
 ∃ (y64 : Int),y63[0]? = some (D.val (Value.int IntKind.i64 y64)) ∧
 ((y64 == R.id) = true →
 ((fr != R.me) = true →
 ∃ (y65 : List Int),ints IntKind.i64 m.n = ints IntKind.i64 y65 ∧
 Len5 y65.length ∧
 ((!y65.any isWrong) = true →
 ∃ (y66 : Rep),∃ (y67 : Int),∃ (y68 : Int),∃ (y69 : Int),∃ (y70 : Int),∃ (y71 : Int),∃ (y72 : List Int),∃ (y73 : List (List Int)),[V.ptr 0 0,V.int IntKind.i64 fr,V.agg [V.int IntKind.i64 m.kd,V.dat (D.sl 1 (ints IntKind.i64 m.n)),V.dat (D.sl 1 (ints IntKind.u8 m.b)),V.dat (D.sl 1 (lsD m.l))]] = [V.ptr 0 0,V.int IntKind.i64 y67,V.agg [V.int IntKind.i64 y68,V.dat (D.sl 1 [[dn IntKind.i64 y69],[dn IntKind.i64 y70],[dn IntKind.i64 y71]]),V.dat (D.sl 1 (ints IntKind.u8 y72)),V.dat (D.sl 1 (lsD y73))]] ∧
 RKB y66 z1_ ∧
 RkO y66 ∧
 ∀ (y74 : KB),RKB (refusedR y66 y67 { kd:=y68,n:=[y69,y70,y71],b:=y72,l:=y73}) y74 →
 flatB y74 = true →
 ∀ (y75 : List Re),flatB (y75,y74).snd = true ∧
 K (V.tup []) y74) ∧
 ((!y65.any isWrong) = false →
 K (V.tup []) z1_)) ∧
 ((fr != R.me) = false →
 K (V.tup []) z1_)) ∧
 ((y64 == R.id) = false →
 K (V.tup []) z1_)) ∧
 (((↑(ints IntKind.i64 m.n).length : Int) == mgetI (mset (mset (mset (mset (mset [] [10] [D.val (Value.int IntKind.i64 3)]) [11] [D.val (Value.int IntKind.i64 3)]) [12] [D.val (Value.int IntKind.i64 8)]) [13] [D.val (Value.int IntKind.i64 3)]) [14] [D.val (Value.int IntKind.i64 3)]) [m.kd] 0) = false →
 K (V.tup []) z1_)) ∧
 (([m.kd] = [14] →
 False) →
 K (V.tup []) z1_)))))
 ) : runSpec Try.prog XHd (fun _ => none) 16 [.ptr 0 0,.int .i64 fr,.agg [.int .i64 m.kd,.dat (.sl 1 (ints .i64 m.n)),.dat (.sl 1 (ints .u8 m.b)),.dat (.sl 1 (lsD m.l))]] [cR R (tbV T) (.sb true) (.mp 1) (.mp 2) (.ipo u) (.sl 3 0 (nO R)) (.sl 4 0 (nD R)),mpF I,mpF Q,rO R,rD R] (rootT 13 msLd K):=by apply Eq.mp (a:=hvc_); kernel_rfl
theorem handleR_no {R : Rep} {fr : Int} {m : Msg} (h : msgGo R fr m = false) : handleR R fr m = R:=if_pos h
theorem handleR_10 {R : Rep} {fr : Int} {n b : List Int} {ls : List (List Int)} (h : msgGo R fr ⟨10,n,b,ls⟩ = true) : handleR R fr ⟨10,n,b,ls⟩ = syncR R fr ⟨10,n,b,ls⟩:=by unfold handleR; rw [h]; rfl
theorem handleR_11 {R : Rep} {fr : Int} {n b : List Int} {ls : List (List Int)} (h : msgGo R fr ⟨11,n,b,ls⟩ = true) : handleR R fr ⟨11,n,b,ls⟩ = syncOkR R fr ⟨11,n,b,ls⟩:=by unfold handleR; rw [h]; rfl
theorem handleR_12 {R : Rep} {fr : Int} {n b : List Int} {ls : List (List Int)} (h : msgGo R fr ⟨12,n,b,ls⟩ = true) : handleR R fr ⟨12,n,b,ls⟩ = opR R fr ⟨12,n,b,ls⟩:=by unfold handleR; rw [h]; rfl
theorem handleR_13 {R : Rep} {fr : Int} {n b : List Int} {ls : List (List Int)} (h : msgGo R fr ⟨13,n,b,ls⟩ = true) : handleR R fr ⟨13,n,b,ls⟩ = opOkR R fr ⟨13,n,b,ls⟩:=by unfold handleR; rw [h]; rfl
theorem handleR_14 {R : Rep} {fr : Int} {n b : List Int} {ls : List (List Int)} (h : msgGo R fr ⟨14,n,b,ls⟩ = true) : handleR R fr ⟨14,n,b,ls⟩ = refusedR R fr ⟨14,n,b,ls⟩:=by unfold handleR; rw [h]; rfl
structure MsgOk (m : Msg) : Prop where
  b : Byt m.b
  l : m.b.length ≤ 900000
  ls : ∀ y ∈ m.l,Byt y∧y.length ≤ 140737488355328
theorem hdS_ok : AllOk Try.prog hdS:=fun f k h => by
  unfold hdS at h
  split at h
  · cases h; exact okHsync
  · cases h; exact okHsyncOk
  · cases h; exact okHop
  · cases h; exact okHopOk
  · cases h; exact okHrefused
  · cases h; exact okContF
  · cases h
theorem XHd_ok : CallOk Try.prog XHd:=callS_ok mixed hdS_ok noT 10
theorem handle_n (R : Rep) (T : ML) (a14 a15 : Value) (fr kd : Int) (n b : List Int) (ls : List (List Int)) (hT : Tab T R.t) (hl : R.ld = none) (hR : RepOk R) (hM : MsgOk ⟨kd,n,b,ls⟩) (hkbA : ∀ a14 a15,RepKB R [cR R (tbV T) (.sb false) (.any a14) (.any a15) (.ipo none) (.sl 1 0 (nO R)) (.sl 2 0 (nD R)),rO R,rD R]) (K : V→KB→Prop) (hK : ∀ kb',RepKB (handleR R fr ⟨kd,n,b,ls⟩) kb'→K (.tup []) kb') : runSpec Try.prog XHd (fun _ => none) 16 [.ptr 0 0,.int .i64 fr,.agg [.int .i64 kd,.dat (.sl 1 (ints .i64 n)),.dat (.sl 1 (ints .u8 b)),.dat (.sl 1 (lsD ls))]] [cR R (tbV T) (.sb false) (.any a14) (.any a15) (.ipo none) (.sl 1 0 (nO R)) (.sl 2 0 (nD R)),rO R,rD R] (rootT 13 msLd K):=by
  have fin : ∀ {R' : Rep} {kb' : KB},handleR R fr ⟨kd,n,b,ls⟩ = R'→RepKB R' kb'→K (.tup []) kb':=fun {R' kb'} h1 h2 => by
    have:=hK kb'
    rw [h1] at this
    exact this h2
  refine vcHandle_n R T a14 a15 fr ⟨kd,n,b,ls⟩ K ⟨?_,fun n0_ => ⟨?_,fun n1_ => ⟨?_,fun n2_ => ⟨?_,fun n3_ => ⟨?_,fun n4_ => ?_⟩⟩⟩⟩⟩
  · intro e
    have hk : kd = 10:=by simpa using e
    subst hk
    refine ⟨fun cs h => ?_,fun hlen => ?_,fun hlen => fun f => fin (handleR_no (by have h2 : ¬ n.length = 3:=(by have:=hlen; simp [ints_len,mgetI,mget,mset,iv] at this; omega); simp [msgGo,cntM,h2])) (hkbA _ _)⟩
    · simp [mset,mget] at h
      subst h
      exact ⟨_,_,rfl,rfl⟩
    · have hl : n.length = 3:=by have:=hlen; simp [ints_len,mgetI,mget,mset,iv] at this; omega
      match n,hl with
      | [q0,q1,q2],_ =>
        exact ⟨Int.le_refl _,_,rfl,q0,rfl,fun h0 => ⟨fun h1 => ⟨[q0,q1,q2],rfl,⟨by simp⟩,fun h2 => ⟨R,fr,10,q0,q1,q2,b,ls,rfl,⟨(hkbA _ _)⟩,⟨hR,hM.b,hM.l,hM.ls⟩,fun kb' hk hf τ => ⟨hf,fin (handleR_10 (by have h0 : q0 = R.id:=(by simpa using h0); have h1 : ¬ fr = R.me:=(by simpa using h1); have h2 : [q0,q1,q2].any isWrong = false:=(by simpa using h2); simp [msgGo,mAt,cntM,h0,h1]; simpa [h0] using h2)) hk.h⟩⟩,fun h2 => fun f => fin (handleR_no (by have h2 : [q0,q1,q2].any isWrong = true:=(by simpa only [Bool.not_eq_false'] using h2); unfold msgGo; rw [h2]; simp)) (hkbA _ _)⟩,fun h1 => fun f => fin (handleR_no (by have h1 : fr = R.me:=(by simpa using h1); simp [msgGo,h1])) (hkbA _ _)⟩,fun h0 => fun f => fin (handleR_no (by have h0 : ¬ q0 = R.id:=(by simpa using h0); simp [msgGo,mAt,h0])) (hkbA _ _)⟩
  · intro e
    have hk : kd = 11:=by simpa using e
    subst hk
    refine ⟨fun cs h => ?_,fun hlen => ?_,fun hlen => fun f => fin (handleR_no (by have h2 : ¬ n.length = 3:=(by have:=hlen; simp [ints_len,mgetI,mget,mset,iv] at this; omega); simp [msgGo,cntM,h2])) (hkbA _ _)⟩
    · simp [mset,mget] at h
      subst h
      exact ⟨_,_,rfl,rfl⟩
    · have hl : n.length = 3:=by have:=hlen; simp [ints_len,mgetI,mget,mset,iv] at this; omega
      match n,hl with
      | [q0,q1,q2],_ =>
        exact ⟨Int.le_refl _,_,rfl,q0,rfl,fun h0 => ⟨fun h1 => ⟨[q0,q1,q2],rfl,⟨by simp⟩,fun h2 => ⟨R,fr,11,q0,q1,q2,b,ls,rfl,⟨(hkbA _ _)⟩,⟨hR⟩,fun kb' hk hf τ => ⟨hf,fin (handleR_11 (by have h0 : q0 = R.id:=(by simpa using h0); have h1 : ¬ fr = R.me:=(by simpa using h1); have h2 : [q0,q1,q2].any isWrong = false:=(by simpa using h2); simp [msgGo,mAt,cntM,h0,h1]; simpa [h0] using h2)) hk.h⟩⟩,fun h2 => fun f => fin (handleR_no (by have h2 : [q0,q1,q2].any isWrong = true:=(by simpa only [Bool.not_eq_false'] using h2); unfold msgGo; rw [h2]; simp)) (hkbA _ _)⟩,fun h1 => fun f => fin (handleR_no (by have h1 : fr = R.me:=(by simpa using h1); simp [msgGo,h1])) (hkbA _ _)⟩,fun h0 => fun f => fin (handleR_no (by have h0 : ¬ q0 = R.id:=(by simpa using h0); simp [msgGo,mAt,h0])) (hkbA _ _)⟩
  · intro e
    have hk : kd = 12:=by simpa using e
    subst hk
    refine ⟨fun cs h => ?_,fun hlen => ?_,fun hlen => fun f => fin (handleR_no (by have h2 : ¬ n.length = 8:=(by have:=hlen; simp [ints_len,mgetI,mget,mset,iv] at this; omega); simp [msgGo,cntM,h2])) (hkbA _ _)⟩
    · simp [mset,mget] at h
      subst h
      exact ⟨_,_,rfl,rfl⟩
    · have hl : n.length = 8:=by have:=hlen; simp [ints_len,mgetI,mget,mset,iv] at this; omega
      match n,hl with
      | [q0,q1,q2,q3,q4,q5,q6,q7],_ =>
        exact ⟨Int.le_refl _,_,rfl,q0,rfl,fun h0 => ⟨fun h1 => ⟨[q0,q1,q2,q3,q4,q5,q6,q7],rfl,⟨by simp⟩,fun h2 => ⟨R,fr,12,q0,q1,q2,q3,q4,q5,q6,q7,b,ls,rfl,⟨(hkbA _ _)⟩,⟨hR⟩,fun kb' hk hf τ => ⟨hf,fin (handleR_12 (by have h0 : q0 = R.id:=(by simpa using h0); have h1 : ¬ fr = R.me:=(by simpa using h1); have h2 : [q0,q1,q2,q3,q4,q5,q6,q7].any isWrong = false:=(by simpa using h2); simp [msgGo,mAt,cntM,h0,h1]; simpa [h0] using h2)) hk.h⟩⟩,fun h2 => fun f => fin (handleR_no (by have h2 : [q0,q1,q2,q3,q4,q5,q6,q7].any isWrong = true:=(by simpa only [Bool.not_eq_false'] using h2); unfold msgGo; rw [h2]; simp)) (hkbA _ _)⟩,fun h1 => fun f => fin (handleR_no (by have h1 : fr = R.me:=(by simpa using h1); simp [msgGo,h1])) (hkbA _ _)⟩,fun h0 => fun f => fin (handleR_no (by have h0 : ¬ q0 = R.id:=(by simpa using h0); simp [msgGo,mAt,h0])) (hkbA _ _)⟩
  · intro e
    have hk : kd = 13:=by simpa using e
    subst hk
    refine ⟨fun cs h => ?_,fun hlen => ?_,fun hlen => fun f => fin (handleR_no (by have h2 : ¬ n.length = 3:=(by have:=hlen; simp [ints_len,mgetI,mget,mset,iv] at this; omega); simp [msgGo,cntM,h2])) (hkbA _ _)⟩
    · simp [mset,mget] at h
      subst h
      exact ⟨_,_,rfl,rfl⟩
    · have hl : n.length = 3:=by have:=hlen; simp [ints_len,mgetI,mget,mset,iv] at this; omega
      match n,hl with
      | [q0,q1,q2],_ =>
        exact ⟨Int.le_refl _,_,rfl,q0,rfl,fun h0 => ⟨fun h1 => ⟨[q0,q1,q2],rfl,⟨by simp⟩,fun h2 => ⟨R,fr,13,q0,q1,q2,b,ls,rfl,⟨(hkbA _ _)⟩,⟨hR⟩,fun kb' hk hf τ => ⟨hf,fin (handleR_13 (by have h0 : q0 = R.id:=(by simpa using h0); have h1 : ¬ fr = R.me:=(by simpa using h1); have h2 : [q0,q1,q2].any isWrong = false:=(by simpa using h2); simp [msgGo,mAt,cntM,h0,h1]; simpa [h0] using h2)) hk.h⟩⟩,fun h2 => fun f => fin (handleR_no (by have h2 : [q0,q1,q2].any isWrong = true:=(by simpa only [Bool.not_eq_false'] using h2); unfold msgGo; rw [h2]; simp)) (hkbA _ _)⟩,fun h1 => fun f => fin (handleR_no (by have h1 : fr = R.me:=(by simpa using h1); simp [msgGo,h1])) (hkbA _ _)⟩,fun h0 => fun f => fin (handleR_no (by have h0 : ¬ q0 = R.id:=(by simpa using h0); simp [msgGo,mAt,h0])) (hkbA _ _)⟩
  · intro e
    have hk : kd = 14:=by simpa using e
    subst hk
    refine ⟨fun cs h => ?_,fun hlen => ?_,fun hlen => fun f => fin (handleR_no (by have h2 : ¬ n.length = 3:=(by have:=hlen; simp [ints_len,mgetI,mget,mset,iv] at this; omega); simp [msgGo,cntM,h2])) (hkbA _ _)⟩
    · simp [mset,mget] at h
      subst h
      exact ⟨_,_,rfl,rfl⟩
    · have hl : n.length = 3:=by have:=hlen; simp [ints_len,mgetI,mget,mset,iv] at this; omega
      match n,hl with
      | [q0,q1,q2],_ =>
        exact ⟨Int.le_refl _,_,rfl,q0,rfl,fun h0 => ⟨fun h1 => ⟨[q0,q1,q2],rfl,⟨by simp⟩,fun h2 => ⟨R,fr,14,q0,q1,q2,b,ls,rfl,⟨(hkbA _ _)⟩,⟨hR⟩,fun kb' hk hf τ => ⟨hf,fin (handleR_14 (by have h0 : q0 = R.id:=(by simpa using h0); have h1 : ¬ fr = R.me:=(by simpa using h1); have h2 : [q0,q1,q2].any isWrong = false:=(by simpa using h2); simp [msgGo,mAt,cntM,h0,h1]; simpa [h0] using h2)) hk.h⟩⟩,fun h2 => fun f => fin (handleR_no (by have h2 : [q0,q1,q2].any isWrong = true:=(by simpa only [Bool.not_eq_false'] using h2); unfold msgGo; rw [h2]; simp)) (hkbA _ _)⟩,fun h1 => fun f => fin (handleR_no (by have h1 : fr = R.me:=(by simpa using h1); simp [msgGo,h1])) (hkbA _ _)⟩,fun h0 => fun f => fin (handleR_no (by have h0 : ¬ q0 = R.id:=(by simpa using h0); simp [msgGo,mAt,h0])) (hkbA _ _)⟩
  · have hno : msgGo R fr ⟨kd,n,b,ls⟩ = false:=by
      have h10 : ¬ kd = 10:=fun h => n0_ (by simp [h])
      have h11 : ¬ kd = 11:=fun h => n1_ (by simp [h])
      have h12 : ¬ kd = 12:=fun h => n2_ (by simp [h])
      have h13 : ¬ kd = 13:=fun h => n3_ (by simp [h])
      have h14 : ¬ kd = 14:=fun h => n4_ (by simp [h])
      have : ¬ (10 ≤ kd∧kd ≤ 14∧n.length = cntM kd∧mAt ⟨kd,n,b,ls⟩ 0 = R.id∧fr ≠ R.me):=by omega
      simp only [msgGo,decide_eq_false this,Bool.false_and]
    have fs : ∀ f : Nat→Value,K (.tup []) [cR R (tbV T) (.sb false) (.any (f 14)) (.any (f 15)) (.ipo none) (.sl 1 0 (nO R)) (.sl 2 0 (nD R)),rO R,rD R]:=fun f => fin (handleR_no hno) (hkbA _ _)
    first
      | exact fs
      | exact ⟨fun f => (by cases f),fun _ => fs⟩
theorem handle_l (R : Rep) (T : ML) (I Q : ML) (L : Lead) (fr kd : Int) (n b : List Int) (ls : List (List Int)) (hT : Tab T R.t) (hl : R.ld = some L) (hI : MB I L.ins) (hQ : MB Q L.acks) (hR : RepOk R) (hM : MsgOk ⟨kd,n,b,ls⟩) (hkb : RepKB R [cR R (tbV T) (.sb true) (.mp 1) (.mp 2) (.ipo (L.cur.map opD)) (.sl 3 0 (nO R)) (.sl 4 0 (nD R)),mpF I,mpF Q,rO R,rD R]) (K : V→KB→Prop) (hK : ∀ kb',RepKB (handleR R fr ⟨kd,n,b,ls⟩) kb'→K (.tup []) kb') : runSpec Try.prog XHd (fun _ => none) 16 [.ptr 0 0,.int .i64 fr,.agg [.int .i64 kd,.dat (.sl 1 (ints .i64 n)),.dat (.sl 1 (ints .u8 b)),.dat (.sl 1 (lsD ls))]] [cR R (tbV T) (.sb true) (.mp 1) (.mp 2) (.ipo (L.cur.map opD)) (.sl 3 0 (nO R)) (.sl 4 0 (nD R)),mpF I,mpF Q,rO R,rD R] (rootT 13 msLd K):=by
  have fin : ∀ {R' : Rep} {kb' : KB},handleR R fr ⟨kd,n,b,ls⟩ = R'→RepKB R' kb'→K (.tup []) kb':=fun {R' kb'} h1 h2 => by
    have:=hK kb'
    rw [h1] at this
    exact this h2
  refine vcHandle_l R T I Q (L.cur.map opD) fr ⟨kd,n,b,ls⟩ K ⟨?_,fun n0_ => ⟨?_,fun n1_ => ⟨?_,fun n2_ => ⟨?_,fun n3_ => ⟨?_,fun n4_ => ?_⟩⟩⟩⟩⟩
  · intro e
    have hk : kd = 10:=by simpa using e
    subst hk
    refine ⟨fun cs h => ?_,fun hlen => ?_,fun hlen => fin (handleR_no (by have h2 : ¬ n.length = 3:=(by have:=hlen; simp [ints_len,mgetI,mget,mset,iv] at this; omega); simp [msgGo,cntM,h2])) hkb⟩
    · simp [mset,mget] at h
      subst h
      exact ⟨_,_,rfl,rfl⟩
    · have hl : n.length = 3:=by have:=hlen; simp [ints_len,mgetI,mget,mset,iv] at this; omega
      match n,hl with
      | [q0,q1,q2],_ =>
        exact ⟨Int.le_refl _,_,rfl,q0,rfl,fun h0 => ⟨fun h1 => ⟨[q0,q1,q2],rfl,⟨by simp⟩,fun h2 => ⟨R,fr,10,q0,q1,q2,b,ls,rfl,⟨hkb⟩,⟨hR,hM.b,hM.l,hM.ls⟩,fun kb' hk hf τ => ⟨hf,fin (handleR_10 (by have h0 : q0 = R.id:=(by simpa using h0); have h1 : ¬ fr = R.me:=(by simpa using h1); have h2 : [q0,q1,q2].any isWrong = false:=(by simpa using h2); simp [msgGo,mAt,cntM,h0,h1]; simpa [h0] using h2)) hk.h⟩⟩,fun h2 => fin (handleR_no (by have h2 : [q0,q1,q2].any isWrong = true:=(by simpa only [Bool.not_eq_false'] using h2); unfold msgGo; rw [h2]; simp)) hkb⟩,fun h1 => fin (handleR_no (by have h1 : fr = R.me:=(by simpa using h1); simp [msgGo,h1])) hkb⟩,fun h0 => fin (handleR_no (by have h0 : ¬ q0 = R.id:=(by simpa using h0); simp [msgGo,mAt,h0])) hkb⟩
  · intro e
    have hk : kd = 11:=by simpa using e
    subst hk
    refine ⟨fun cs h => ?_,fun hlen => ?_,fun hlen => fin (handleR_no (by have h2 : ¬ n.length = 3:=(by have:=hlen; simp [ints_len,mgetI,mget,mset,iv] at this; omega); simp [msgGo,cntM,h2])) hkb⟩
    · simp [mset,mget] at h
      subst h
      exact ⟨_,_,rfl,rfl⟩
    · have hl : n.length = 3:=by have:=hlen; simp [ints_len,mgetI,mget,mset,iv] at this; omega
      match n,hl with
      | [q0,q1,q2],_ =>
        exact ⟨Int.le_refl _,_,rfl,q0,rfl,fun h0 => ⟨fun h1 => ⟨[q0,q1,q2],rfl,⟨by simp⟩,fun h2 => ⟨R,fr,11,q0,q1,q2,b,ls,rfl,⟨hkb⟩,⟨hR⟩,fun kb' hk hf τ => ⟨hf,fin (handleR_11 (by have h0 : q0 = R.id:=(by simpa using h0); have h1 : ¬ fr = R.me:=(by simpa using h1); have h2 : [q0,q1,q2].any isWrong = false:=(by simpa using h2); simp [msgGo,mAt,cntM,h0,h1]; simpa [h0] using h2)) hk.h⟩⟩,fun h2 => fin (handleR_no (by have h2 : [q0,q1,q2].any isWrong = true:=(by simpa only [Bool.not_eq_false'] using h2); unfold msgGo; rw [h2]; simp)) hkb⟩,fun h1 => fin (handleR_no (by have h1 : fr = R.me:=(by simpa using h1); simp [msgGo,h1])) hkb⟩,fun h0 => fin (handleR_no (by have h0 : ¬ q0 = R.id:=(by simpa using h0); simp [msgGo,mAt,h0])) hkb⟩
  · intro e
    have hk : kd = 12:=by simpa using e
    subst hk
    refine ⟨fun cs h => ?_,fun hlen => ?_,fun hlen => fin (handleR_no (by have h2 : ¬ n.length = 8:=(by have:=hlen; simp [ints_len,mgetI,mget,mset,iv] at this; omega); simp [msgGo,cntM,h2])) hkb⟩
    · simp [mset,mget] at h
      subst h
      exact ⟨_,_,rfl,rfl⟩
    · have hl : n.length = 8:=by have:=hlen; simp [ints_len,mgetI,mget,mset,iv] at this; omega
      match n,hl with
      | [q0,q1,q2,q3,q4,q5,q6,q7],_ =>
        exact ⟨Int.le_refl _,_,rfl,q0,rfl,fun h0 => ⟨fun h1 => ⟨[q0,q1,q2,q3,q4,q5,q6,q7],rfl,⟨by simp⟩,fun h2 => ⟨R,fr,12,q0,q1,q2,q3,q4,q5,q6,q7,b,ls,rfl,⟨hkb⟩,⟨hR⟩,fun kb' hk hf τ => ⟨hf,fin (handleR_12 (by have h0 : q0 = R.id:=(by simpa using h0); have h1 : ¬ fr = R.me:=(by simpa using h1); have h2 : [q0,q1,q2,q3,q4,q5,q6,q7].any isWrong = false:=(by simpa using h2); simp [msgGo,mAt,cntM,h0,h1]; simpa [h0] using h2)) hk.h⟩⟩,fun h2 => fin (handleR_no (by have h2 : [q0,q1,q2,q3,q4,q5,q6,q7].any isWrong = true:=(by simpa only [Bool.not_eq_false'] using h2); unfold msgGo; rw [h2]; simp)) hkb⟩,fun h1 => fin (handleR_no (by have h1 : fr = R.me:=(by simpa using h1); simp [msgGo,h1])) hkb⟩,fun h0 => fin (handleR_no (by have h0 : ¬ q0 = R.id:=(by simpa using h0); simp [msgGo,mAt,h0])) hkb⟩
  · intro e
    have hk : kd = 13:=by simpa using e
    subst hk
    refine ⟨fun cs h => ?_,fun hlen => ?_,fun hlen => fin (handleR_no (by have h2 : ¬ n.length = 3:=(by have:=hlen; simp [ints_len,mgetI,mget,mset,iv] at this; omega); simp [msgGo,cntM,h2])) hkb⟩
    · simp [mset,mget] at h
      subst h
      exact ⟨_,_,rfl,rfl⟩
    · have hl : n.length = 3:=by have:=hlen; simp [ints_len,mgetI,mget,mset,iv] at this; omega
      match n,hl with
      | [q0,q1,q2],_ =>
        exact ⟨Int.le_refl _,_,rfl,q0,rfl,fun h0 => ⟨fun h1 => ⟨[q0,q1,q2],rfl,⟨by simp⟩,fun h2 => ⟨R,fr,13,q0,q1,q2,b,ls,rfl,⟨hkb⟩,⟨hR⟩,fun kb' hk hf τ => ⟨hf,fin (handleR_13 (by have h0 : q0 = R.id:=(by simpa using h0); have h1 : ¬ fr = R.me:=(by simpa using h1); have h2 : [q0,q1,q2].any isWrong = false:=(by simpa using h2); simp [msgGo,mAt,cntM,h0,h1]; simpa [h0] using h2)) hk.h⟩⟩,fun h2 => fin (handleR_no (by have h2 : [q0,q1,q2].any isWrong = true:=(by simpa only [Bool.not_eq_false'] using h2); unfold msgGo; rw [h2]; simp)) hkb⟩,fun h1 => fin (handleR_no (by have h1 : fr = R.me:=(by simpa using h1); simp [msgGo,h1])) hkb⟩,fun h0 => fin (handleR_no (by have h0 : ¬ q0 = R.id:=(by simpa using h0); simp [msgGo,mAt,h0])) hkb⟩
  · intro e
    have hk : kd = 14:=by simpa using e
    subst hk
    refine ⟨fun cs h => ?_,fun hlen => ?_,fun hlen => fin (handleR_no (by have h2 : ¬ n.length = 3:=(by have:=hlen; simp [ints_len,mgetI,mget,mset,iv] at this; omega); simp [msgGo,cntM,h2])) hkb⟩
    · simp [mset,mget] at h
      subst h
      exact ⟨_,_,rfl,rfl⟩
    · have hl : n.length = 3:=by have:=hlen; simp [ints_len,mgetI,mget,mset,iv] at this; omega
      match n,hl with
      | [q0,q1,q2],_ =>
        exact ⟨Int.le_refl _,_,rfl,q0,rfl,fun h0 => ⟨fun h1 => ⟨[q0,q1,q2],rfl,⟨by simp⟩,fun h2 => ⟨R,fr,14,q0,q1,q2,b,ls,rfl,⟨hkb⟩,⟨hR⟩,fun kb' hk hf τ => ⟨hf,fin (handleR_14 (by have h0 : q0 = R.id:=(by simpa using h0); have h1 : ¬ fr = R.me:=(by simpa using h1); have h2 : [q0,q1,q2].any isWrong = false:=(by simpa using h2); simp [msgGo,mAt,cntM,h0,h1]; simpa [h0] using h2)) hk.h⟩⟩,fun h2 => fin (handleR_no (by have h2 : [q0,q1,q2].any isWrong = true:=(by simpa only [Bool.not_eq_false'] using h2); unfold msgGo; rw [h2]; simp)) hkb⟩,fun h1 => fin (handleR_no (by have h1 : fr = R.me:=(by simpa using h1); simp [msgGo,h1])) hkb⟩,fun h0 => fin (handleR_no (by have h0 : ¬ q0 = R.id:=(by simpa using h0); simp [msgGo,mAt,h0])) hkb⟩
  · have hno : msgGo R fr ⟨kd,n,b,ls⟩ = false:=by
      have h10 : ¬ kd = 10:=fun h => n0_ (by simp [h])
      have h11 : ¬ kd = 11:=fun h => n1_ (by simp [h])
      have h12 : ¬ kd = 12:=fun h => n2_ (by simp [h])
      have h13 : ¬ kd = 13:=fun h => n3_ (by simp [h])
      have h14 : ¬ kd = 14:=fun h => n4_ (by simp [h])
      have : ¬ (10 ≤ kd∧kd ≤ 14∧n.length = cntM kd∧mAt ⟨kd,n,b,ls⟩ 0 = R.id∧fr ≠ R.me):=by omega
      simp only [msgGo,decide_eq_false this,Bool.false_and]
    have fs : K (.tup []) [cR R (tbV T) (.sb true) (.mp 1) (.mp 2) (.ipo (L.cur.map opD)) (.sl 3 0 (nO R)) (.sl 4 0 (nD R)),mpF I,mpF Q,rO R,rD R]:=fin (handleR_no hno) hkb
    first
      | exact fs
      | exact ⟨fun f => (by cases f),fun _ => fs⟩
def Mhandle : FSpec:=fun args kb K => ∃ R fr m,args = [.ptr 0 0,.int .i64 fr,.agg [.int .i64 m.kd,.dat (.sl 1 (ints .i64 m.n)),.dat (.sl 1 (ints .u8 m.b)),.dat (.sl 1 (lsD m.l))]]∧RepKB R kb∧RepOk R∧MsgOk m∧∀ kb',RepKB (handleR R fr m) kb'→K (.tup []) kb'
theorem okHandle : MethOk Try.prog 16 Mhandle:=methOk_runT mixed 13 msLd (fun args kb K h => by
  obtain ⟨R,fr,⟨kd,n,b,ls⟩,rfl,hkb,hR,hM,hK⟩:=h
  have hkb0:=hkb
  unfold RepKB at hkb
  split at hkb
  · rename_i hl
    obtain ⟨a14,a15,T,hT,rfl⟩:=hkb
    exact ⟨_,_,XHd_ok,handle_n R T a14 a15 fr kd n b ls hT hl hR hM (fun a b => by unfold RepKB; simp only [hl]; exact ⟨a,b,T,hT,rfl⟩) K hK⟩
  · rename_i L hl
    obtain ⟨I,Q,T,hI,hQ,hT,rfl⟩:=hkb
    exact ⟨_,_,XHd_ok,handle_l R T I Q L fr kd n b ls hT hl hI hQ hR hM hkb0 K hK⟩)
end Go.Proofs.Ytfcjngcnifdmnaa
namespace Go.Proofs.Ytfcjngcnifdmnaa
open Vc Go
set_option linter.unusedVariables false
set_option linter.unusedSimpArgs false
set_option maxRecDepth 100000
def tickP (R : Rep) (L : Lead) (k : Int) : List Post :=
  if L.ins k = false then [stateP R k] else match L.cur with
  | some o => if L.acks k = false then [handP R o k] else []
  | none => []
def tickR (R : Rep) : Rep:=match R.ld with
  | none => { R with ti:=R.ti + 1 }
  | some L => if (R.ti + 1).tmod 3 = 0 then { R with ti:=R.ti + 1,out:=R.out ++ (oths R).flatMap (tickP R L) } else { R with ti:=R.ti + 1 }
def leadM (c : Option Op) (I Q : ML) : Lead:=⟨fun n => mgetB I [n] 0,fun n => mgetB Q [n] 0,c⟩
def tks (R : Rep) (c : Option Op) (I Q : ML) (i : Nat) : List Post:=((oths R).take i).flatMap (tickP R (leadM c I Q))
def tkS : FuncId→Option Known
  | 23 => some ⟨[],hideIn [false,true,true,true,true,true,false,true,true,true,true,false,false,true,true,true,true,true,true,true,true,true] Sothers⟩
  | 24 => some ⟨[],hideIn [true,false,true,true,false,false,false,false,true,true,true,true,true,true,true,true,true,true,true,true,false,true] Sstate⟩
  | 32 => some ⟨[],hideIn [true,false,true,true,false,false,false,true,true,true,true,true,true,true,true,true,false,true,true,true,false,true] Shand⟩
  | _ => none
noncomputable def XTk : CallT:=callS Try.prog tkS noT 10
abbrev tk3 (R : Rep) (T I Q : ML) (c : Option Op) : LI where
  α:={i : Nat // i ≤ (oths R).length∧(R.ti + 1).tmod 3 = 0}
  live:=[0,25,26,27]
  nils:=[.mv 0 147]
  st i:=([.ptr 0 0,.sl 6 0 (oths R).length,.int .i64 ((oths R).length : Int),.int .i64 (i.1 : Int)],[cT R (.int .i64 (R.ti + 1)) (tbV T) (.sb true) (.mp 1) (.mp 2) (.ipo (c.map opD)) (.sl 5 0 (nO R + (tks R c I Q i.1).length)) (.sl 4 0 (nD R)),mpF I,mpF Q,.dead,rD R,.row 76 5 (List.map postD R.out ++ List.map postD (tks R c I Q i.1)),.row 3 1 (ints .i64 (othZ R.me R.v.mem R.v.joi))])
  μ i:=(oths R).length - i.1
def tkT (R : Rep) (T I Q : ML) (c : Option Op) : Nat→Option LI
  | 3 => some (tk3 R T I Q c)
  | _ => none
theorem vcTick_l (R : Rep) (T I Q : ML) (c : Option Op) (K : V→KB→Prop) (hvc_ :
 let z1_ : KB:=[cT R (V.int IntKind.i64 (IntKind.i64.wrap (R.ti + 1))) (tbV T) (V.sb true) (V.mp 1) (V.mp 2) (V.ipo (Option.map opD c)) (V.sl 3 0 (nO R)) (V.sl 4 0 (nD R)),mpF I,mpF Q,rO R,rD R]; let z2_:=KO.row 3 1 (ints IntKind.i64 (othZ R.me R.v.mem R.v.joi)); (false = true →
 K (V.tup []) z1_) ∧
 (false = false →
 (((IntKind.i64.wrap (R.ti + 1)).tmod 3 != 0) = true →
 K (V.tup []) z1_) ∧
 (((IntKind.i64.wrap (R.ti + 1)).tmod 3 != 0) = false →
 ∀ (y1 : Nat →
 Value),∃ (y2 : List Int),∃ (y3 : List Int),ints IntKind.i64 R.v.mem = ints IntKind.i64 y2 ∧
 ints IntKind.i64 R.v.joi = ints IntKind.i64 y3 ∧
 Len5 (y2.length + y3.length) ∧
 SmF y1 [1,2,3,4,5,7,8,9,10,13,14,15,16,17,18,19,20,21] ∧
 At (tk3 R T I Q c) ([V.ptr 0 0,V.sl 6 0 (othA R.me y2 y3).length,V.int IntKind.i64 (↑((othA R.me y2 y3).length - 0) : Int),V.int IntKind.i64 0],[cT R (V.int IntKind.i64 (IntKind.i64.wrap (R.ti + 1))) (tbV T) (V.sb true) (V.mp 1) (V.mp 2) (V.ipo (Option.map opD c)) (V.sl 5 0 (nO R)) (V.sl 4 0 (nD R)),mpF I,mpF Q,KO.dead,rD R,rO R,KO.row 3 1 (ints IntKind.i64 (othZ R.me y2 y3))]) ∧
 ∀ (y5 : { y4 : Nat // y4 ≤ (oths R).length ∧
 (R.ti + 1).tmod 3 = 0}),(decide ((↑y5.val : Int) < (↑(oths R).length : Int)) = true →
 InB (↑y5.val : Int) ((oths R).length - 0) ∧
 ∃ (y6 : List D),(ints IntKind.i64 (othZ R.me R.v.mem R.v.joi))[0 + (↑y5.val : Int).toNat]? = some y6 ∧
 ∃ (y7 : Int),y6[0]? = some (D.val (Value.int IntKind.i64 y7)) ∧
 (∀ (y8 : List D),mget I [y7] = some y8 →
 ConfK [CK.bool] y8) ∧
 ((!mgetB I [y7] 0) = true →
 ∀ (y9 : Nat →
 Value),nO R + (tks R c I Q y5.val).length = (List.map postD R.out ++ List.map postD (tks R c I Q y5.val)).length ∧
 LenR (nO R + (tks R c I Q y5.val).length) ∧
 ∃ (y10 : List Int),∃ (y11 : List L3),Cnt (dns IntKind.u8 R.c) y10 ∧
 Tab T y11 ∧
 SmF y9 [0,2,3,8,9,10,11,12,13,14,15,16,17,18,19,21] ∧
 Nx (tk3 R T I Q c) y5 ([V.ptr 0 0,V.sl 6 0 (oths R).length,V.int IntKind.i64 (↑(oths R).length : Int),V.int IntKind.i64 (IntKind.i64.wrap ((↑y5.val : Int) + 1))],[KO.cells [V.int IntKind.i64 R.me,V.int IntKind.i64 R.id,V.sb R.bl,V.sb R.lo,V.int IntKind.i64 R.ep,V.int IntKind.i64 R.nu,V.arr 128 (dns IntKind.u8 y10),tbV T,V.int IntKind.i64 R.v.vi,V.int IntKind.i64 R.v.vv,V.int IntKind.i64 R.v.ve,V.dat (D.sl 1 (ints IntKind.i64 R.v.mem)),V.dat (D.sl 1 (ints IntKind.i64 R.v.joi)),V.sb true,V.mp 1,V.mp 2,V.ipo (Option.map opD c),V.int IntKind.i64 R.ce,V.sb R.ch,V.int IntKind.i64 (R.ti + 1),V.sl 5 0 (nO R + (tks R c I Q y5.val).length + 1),V.sl 4 0 (nD R)],mpF I,mpF Q,KO.dead,rD R,KO.row 76 5 (List.map postD R.out ++ List.map postD (tks R c I Q y5.val) ++ [[dn IntKind.i64 y7,D.val (Value.int IntKind.i64 10),D.sl 1 [[dn IntKind.i64 R.id],[dn IntKind.i64 R.ep],[dn IntKind.i64 R.nu]],D.sl 1 (ints IntKind.u8 (sealI y10)),D.sl 1 [[D.sl 1 (ints IntKind.u8 (tabW y11))]]]]),z2_])) ∧
 ((!mgetB I [y7] 0) = false →
 ((!(Option.map opD c).isNone) = true →
 (∀ (y12 : List D),mget Q [y7] = some y12 →
 ConfK [CK.bool] y12) ∧
 ((!mgetB Q [y7] 0) = true →
 ∀ (y13 : Nat →
 Value),nO R + (tks R c I Q y5.val).length = (List.map postD R.out ++ List.map postD (tks R c I Q y5.val)).length ∧
 LenR (nO R + (tks R c I Q y5.val).length) ∧
 ∃ (y14 : List Int),∃ (y15 : Op),Cnt (dns IntKind.u8 R.c) y14 ∧
 Option.map opD c = some (opD y15) ∧
 SmF y13 [0,2,3,7,8,9,10,11,12,13,14,15,17,18,19,21] ∧
 Nx (tk3 R T I Q c) y5 ([V.ptr 0 0,V.sl 6 0 (oths R).length,V.int IntKind.i64 (↑(oths R).length : Int),V.int IntKind.i64 (IntKind.i64.wrap ((↑y5.val : Int) + 1))],[KO.cells [V.int IntKind.i64 R.me,V.int IntKind.i64 R.id,V.sb R.bl,V.sb R.lo,V.int IntKind.i64 R.ep,V.int IntKind.i64 R.nu,V.arr 128 (dns IntKind.u8 y14),tbV T,V.int IntKind.i64 R.v.vi,V.int IntKind.i64 R.v.vv,V.int IntKind.i64 R.v.ve,V.dat (D.sl 1 (ints IntKind.i64 R.v.mem)),V.dat (D.sl 1 (ints IntKind.i64 R.v.joi)),V.sb true,V.mp 1,V.mp 2,V.ipo (Option.map opD c),V.int IntKind.i64 R.ce,V.sb R.ch,V.int IntKind.i64 (R.ti + 1),V.sl 5 0 (nO R + (tks R c I Q y5.val).length + 1),V.sl 4 0 (nD R)],mpF I,mpF Q,KO.dead,rD R,KO.row 76 5 (List.map postD R.out ++ List.map postD (tks R c I Q y5.val) ++ [[dn IntKind.i64 y7,D.val (Value.int IntKind.i64 12),D.sl 1 [[dn IntKind.i64 R.id],[dn IntKind.i64 R.ep],[dn IntKind.i64 R.nu],[dn IntKind.i64 y15.cl],[dn IntKind.i64 y15.nm],[dn IntKind.i64 y15.kd],[dn IntKind.i64 y15.bk],[dn IntKind.i64 (crcI y14)]],D.sl 1 (ints IntKind.u8 y15.b),D.sl 1 []]]),z2_])) ∧
 ((!mgetB Q [y7] 0) = false →
 Nx (tk3 R T I Q c) y5 ([V.ptr 0 0,V.sl 6 0 (oths R).length,V.int IntKind.i64 (↑(oths R).length : Int),V.int IntKind.i64 (IntKind.i64.wrap ((↑y5.val : Int) + 1))],[cT R (V.int IntKind.i64 (R.ti + 1)) (tbV T) (V.sb true) (V.mp 1) (V.mp 2) (V.ipo (Option.map opD c)) (V.sl 5 0 (nO R + (tks R c I Q y5.val).length)) (V.sl 4 0 (nD R)),mpF I,mpF Q,KO.dead,rD R,KO.row 76 5 (List.map postD R.out ++ List.map postD (tks R c I Q y5.val)),z2_]))) ∧
 ((!(Option.map opD c).isNone) = false →
 Nx (tk3 R T I Q c) y5 ([V.ptr 0 0,V.sl 6 0 (oths R).length,V.int IntKind.i64 (↑(oths R).length : Int),V.int IntKind.i64 (IntKind.i64.wrap ((↑y5.val : Int) + 1))],[cT R (V.int IntKind.i64 (R.ti + 1)) (tbV T) (V.sb true) (V.mp 1) (V.mp 2) (V.ipo (Option.map opD c)) (V.sl 5 0 (nO R + (tks R c I Q y5.val).length)) (V.sl 4 0 (nD R)),mpF I,mpF Q,KO.dead,rD R,KO.row 76 5 (List.map postD R.out ++ List.map postD (tks R c I Q y5.val)),z2_])))) ∧
 (decide ((↑y5.val : Int) < (↑(oths R).length : Int)) = false →
 K (V.tup []) [cT R (V.int IntKind.i64 (R.ti + 1)) (tbV T) (V.sb true) (V.mp 1) (V.mp 2) (V.ipo (Option.map opD c)) (V.sl 3 0 (nO R + (tks R c I Q y5.val).length)) (V.sl 4 0 (nD R)),mpF I,mpF Q,KO.row 76 5 (List.map postD R.out ++ List.map postD (tks R c I Q y5.val)),rD R])))
 ) : runSpec Try.prog XTk (tkT R T I Q c) 17 [.ptr 0 0] [cR R (tbV T) (.sb true) (.mp 1) (.mp 2) (.ipo (c.map opD)) (.sl 3 0 (nO R)) (.sl 4 0 (nD R)),mpF I,mpF Q,rO R,rD R] (rootH 13 msLd K):=by apply Eq.mp (a:=hvc_); kernel_rfl
theorem vcTick_n (R : Rep) (T : ML) (a14 a15 : Value) (K : V→KB→Prop) (hvc_ :
 let z1_:=(V.int IntKind.i64 (IntKind.i64.wrap (R.ti + 1))); ((true = true →
 ∀ (y1 : Nat →
 Value),K (V.tup []) [cT R z1_ (tbV T) (V.sb false) (V.any (y1 14)) (V.any (y1 15)) (V.ipo none) (V.sl 1 0 (nO R)) (V.sl 2 0 (nD R)),rO R,rD R]) ∧
 (true = false →
 (((IntKind.i64.wrap (R.ti + 1)).tmod 3 != 0) = true →
 ∀ (y2 : Nat →
 Value),K (V.tup []) [cT R z1_ (tbV T) (V.sb false) (V.any (y2 14)) (V.any (y2 15)) (V.ipo none) (V.sl 1 0 (nO R)) (V.sl 2 0 (nD R)),rO R,rD R]) ∧
 (((IntKind.i64.wrap (R.ti + 1)).tmod 3 != 0) = false →
 At deadLI ([],[cT R z1_ (tbV T) (V.sb false) (V.any a14) (V.any a15) (V.ipo none) (V.sl 1 0 (nO R)) (V.sl 2 0 (nD R)),rO R,rD R])))) ∧
 True
 ) : runSpec Try.prog XTk (cutAt 1002) 17 [.ptr 0 0] [cR R (tbV T) (.sb false) (.any a14) (.any a15) (.ipo none) (.sl 1 0 (nO R)) (.sl 2 0 (nD R)),rO R,rD R] (rootH 13 msLd K):=by apply Eq.mp (a:=hvc_); kernel_rfl
theorem tickR_none {R : Rep} (hl : R.ld = none) : tickR R = { R with ti:=R.ti + 1 }:=by unfold tickR; rw [hl]
theorem tickR_no {R : Rep} {L : Lead} (hl : R.ld = some L) (h : ¬ (R.ti + 1).tmod 3 = 0) : tickR R = { R with ti:=R.ti + 1 }:=by unfold tickR; rw [hl]; exact if_neg h
theorem tickR_go {R : Rep} {L : Lead} (hl : R.ld = some L) (h : (R.ti + 1).tmod 3 = 0) : tickR R = { R with ti:=R.ti + 1,out:=R.out ++ (oths R).flatMap (tickP R L) }:=by unfold tickR; rw [hl]; exact if_pos h
theorem tks_s {R : Rep} {c : Option Op} {I Q : ML} {i : Nat} (h : i < (oths R).length) : tks R c I Q (i + 1) = tks R c I Q i ++ tickP R (leadM c I Q) (oths R)[i]:=by
  unfold tks; rw [List.take_add_one,List.getElem?_eq_getElem h,List.flatMap_append]; simp
theorem tks_len {R : Rep} {c : Option Op} {I Q : ML} (i : Nat) : (tks R c I Q i).length ≤ i:=by
  induction i with
  | zero => simp [tks]
  | succ i ih =>
    rcases Nat.lt_or_ge i (oths R).length with h | h
    · rw [tks_s h,List.length_append]
      have : (tickP R (leadM c I Q) (oths R)[i]).length ≤ 1:=by
        unfold tickP
        split
        · simp
        · split
          · split <;> simp
          · simp
      omega
    · have : tks R c I Q (i + 1) = tks R c I Q i:=by unfold tks; rw [List.take_of_length_le (by omega),List.take_of_length_le h]
      rw [this]; omega
theorem leadM_eq {L : Lead} {c : Option Op} {I Q : ML} (hI : MB I L.ins) (hQ : MB Q L.acks) (hc : L.cur = c) : leadM c I Q = L:=by
  obtain ⟨a,b,d⟩:=L
  simp only at hc
  subst hc
  unfold leadM
  have e1 : (fun n => mgetB I [n] 0) = a:=funext hI.f
  have e2 : (fun n => mgetB Q [n] 0) = b:=funext hQ.f
  rw [e1,e2]
theorem confB {M : ML} (h : BoolM M) {k : List Int} : ∀ cs,mget M k = some cs→ConfK [CK.bool] cs:=fun cs hc => by
  obtain ⟨b,rfl⟩:=h.h _ _ hc
  exact ⟨b,[],rfl,rfl⟩
theorem tkS_ok : AllOk Try.prog tkS:=fun f k h => by
  unfold tkS at h
  split at h
  · cases h; exact hideIn_ok okOthers _
  · cases h; exact hideIn_ok okState _
  · cases h; exact hideIn_ok okHand _
  · cases h
theorem XTk_ok : CallOk Try.prog XTk:=callS_ok mixed tkS_ok noT 10
theorem tick_n (R : Rep) (T : ML) (a14 a15 : Value) (hT : Tab T R.t) (hl : R.ld = none) (hR : RepOk R) (h0 : 0 ≤ R.ti) (h1 : R.ti ≤ 2199023255552) (hroom : R.out.length + (oths R).length ≤ 100000) (K : V→KB→Prop) (hK : ∀ kb',RepKB (tickR R) kb'→K (.tup []) kb') : runSpec Try.prog XTk (cutAt 1002) 17 [.ptr 0 0] [cR R (tbV T) (.sb false) (.any a14) (.any a15) (.ipo none) (.sl 1 0 (nO R)) (.sl 2 0 (nD R)),rO R,rD R] (rootH 13 msLd K):=by
  have fin : ∀ {R' : Rep} {kb' : KB},tickR R = R'→RepKB R' kb'→K (.tup []) kb':=fun {R' kb'} h1 h2 => by
    have:=hK kb'
    rw [h1] at this
    exact this h2
  have ew : IntKind.i64.wrap (R.ti + 1) = R.ti + 1:=w64 (by omega) (by omega)
  refine vcTick_n R T a14 a15 K ?_
  rw [ew]
  exact ⟨⟨fun _ f => fin (tickR_none hl) (by
    unfold RepKB
    simp only [hl]
    refine ⟨f 14,f 15,T,hT,?_⟩
    rfl),fun f => (by cases f)⟩,trivial⟩
theorem tick_l (R : Rep) (T : ML) (I Q : ML) (L : Lead) (hT : Tab T R.t) (hl : R.ld = some L) (hI : MB I L.ins) (hQ : MB Q L.acks) (hR : RepOk R) (h0 : 0 ≤ R.ti) (h1 : R.ti ≤ 2199023255552) (hroom : R.out.length + (oths R).length ≤ 100000) (K : V→KB→Prop) (hK : ∀ kb',RepKB (tickR R) kb'→K (.tup []) kb') : runSpec Try.prog XTk (tkT R T I Q L.cur) 17 [.ptr 0 0] [cR R (tbV T) (.sb true) (.mp 1) (.mp 2) (.ipo (L.cur.map opD)) (.sl 3 0 (nO R)) (.sl 4 0 (nD R)),mpF I,mpF Q,rO R,rD R] (rootH 13 msLd K):=by
  have fin : ∀ {R' : Rep} {kb' : KB},tickR R = R'→RepKB R' kb'→K (.tup []) kb':=fun {R' kb'} h1 h2 => by
    have:=hK kb'
    rw [h1] at this
    exact this h2
  have ew : IntKind.i64.wrap (R.ti + 1) = R.ti + 1:=w64 (by omega) (by omega)
  have h5 : Len5 (R.v.mem.length + R.v.joi.length):=⟨by have:=hR.vl; omega⟩
  have hcnt : Cnt (dns .u8 R.c) R.c:=⟨rfl,hR.cl,hR.cb⟩
  refine vcTick_l R T I Q L.cur K ?_
  rw [ew]
  refine ⟨fun f => (by cases f),fun _ => ⟨fun e => fin (tickR_no hl (by simpa using e)) (by
    unfold RepKB
    simp only [hl]
    refine ⟨I,Q,T,hI,hQ,hT,?_⟩
    rfl),fun e f => ⟨R.v.mem,R.v.joi,rfl,rfl,h5,⟨by simp [SameL]⟩,At.mk' ⟨0,Nat.zero_le _,by simpa using e⟩ ?_,?_⟩⟩⟩
  · simp [tks,oths]
  · rintro ⟨i,hile,hz⟩
    refine ⟨fun hlt => ?_,fun hlt => ?_⟩
    · have hlt : i < (oths R).length:=by simpa using hlt
      have hget : (othZ R.me R.v.mem R.v.joi)[i]? = (oths R)[i]?:=oth_get hlt
      have wz:=w64 (n:=(i : Int) + 1) (by omega) (by omega)
      have pr : nO R + (tks R L.cur I Q i).length = (List.map postD R.out ++ List.map postD (tks R L.cur I Q i)).length:=by simp [nO]
      have pl : LenR (nO R + (tks R L.cur I Q i).length):=⟨by have:=tks_len (R:=R) (c:=L.cur) (I:=I) (Q:=Q) i; simp [nO]; omega⟩
      refine ⟨inB_of (by simpa using hlt),[dn .i64 (oths R)[i]],?_,(oths R)[i],rfl,confB hI.b,fun e1 f => ⟨pr,pl,R.c,R.t,hcnt,hT,⟨by simp [SameL]⟩,Nx.mk' ⟨i + 1,hlt,hz⟩ (by
          have eh : tks R L.cur I Q (i + 1) = tks R L.cur I Q i ++ [stateP R (oths R)[i]]:=by rw [tks_s hlt]; simp [tickP,leadM,show mgetB I [(oths R)[i]] 0 = false by simpa using e1]
          simp only [wz]
          simp [eh,cT,postD,msgD,stateP,handP,tabR,stP,haP,pst,dn,ints,Nat.add_assoc]
          try rfl) (by show (oths R).length - (i + 1) < (oths R).length - i; omega)⟩,fun e1 => ?_⟩
      · simp only [Int.toNat_natCast,Nat.zero_add]
        rw [ints_getElem?,hget,List.getElem?_eq_getElem hlt]; rfl
      · cases hp : L.cur.isNone with
        | true =>
          have hp : L.cur = none:=by simpa using hp
          refine ⟨fun f => (by rw [hp] at f; cases f),fun _ => Nx.mk' ⟨i + 1,hlt,hz⟩ (by
          have eh : tks R L.cur I Q (i + 1) = tks R L.cur I Q i ++ []:=by rw [tks_s hlt]; simp [tickP,leadM,hp,show mgetB I [(oths R)[i]] 0 = true by simpa using e1]
          simp only [wz]
          simp [eh,cT,postD,msgD,stateP,handP,tabR,stP,haP,pst,dn,ints,Nat.add_assoc]
          try rfl) (by show (oths R).length - (i + 1) < (oths R).length - i; omega)⟩
        | false =>
          obtain ⟨p,hp⟩ : ∃ p,L.cur = some p:=Option.ne_none_iff_exists'.1 fun h => by rw [h] at hp; cases hp
          refine ⟨fun _ => ⟨confB hQ.b,fun e2 f => ⟨pr,pl,R.c,p,hcnt,by rw [hp]; rfl,⟨by simp [SameL]⟩,Nx.mk' ⟨i + 1,hlt,hz⟩ (by
          have eh : tks R L.cur I Q (i + 1) = tks R L.cur I Q i ++ [handP R p (oths R)[i]]:=by rw [tks_s hlt]; simp [tickP,leadM,hp,show mgetB I [(oths R)[i]] 0 = true by simpa using e1,show mgetB Q [(oths R)[i]] 0 = false by simpa using e2]
          simp only [wz]
          simp [eh,cT,postD,msgD,stateP,handP,tabR,stP,haP,pst,dn,ints,Nat.add_assoc]
          try rfl) (by show (oths R).length - (i + 1) < (oths R).length - i; omega)⟩,fun e2 => Nx.mk' ⟨i + 1,hlt,hz⟩ (by
          have eh : tks R L.cur I Q (i + 1) = tks R L.cur I Q i ++ []:=by rw [tks_s hlt]; simp [tickP,leadM,hp,show mgetB I [(oths R)[i]] 0 = true by simpa using e1,show mgetB Q [(oths R)[i]] 0 = true by simpa using e2]
          simp only [wz]
          simp [eh,cT,postD,msgD,stateP,handP,tabR,stP,haP,pst,dn,ints,Nat.add_assoc]
          try rfl) (by show (oths R).length - (i + 1) < (oths R).length - i; omega)⟩,fun f => (by rw [hp] at f; cases f)⟩
    · have hi2 : i = (oths R).length:=by
        have : ¬ i < (oths R).length:=by simpa using hlt
        omega
      subst hi2
      refine fin (tickR_go hl hz) ?_
      unfold RepKB
      simp only [hl]
      refine ⟨I,Q,T,hI,hQ,hT,?_⟩
      have e2 : tks R L.cur I Q (oths R).length = (oths R).flatMap (tickP R L):=by unfold tks; rw [List.take_length,leadM_eq hI hQ rfl]
      simp [cR,cT,e2]
def Mtick : FSpec:=fun args kb K => ∃ R,args = [.ptr 0 0]∧RepKB R kb∧RepOk R∧0 ≤ R.ti∧R.ti ≤ 2199023255552∧R.out.length + (oths R).length ≤ 100000∧∀ kb',RepKB (tickR R) kb'→K (.tup []) kb'
theorem okTick : MethOk Try.prog 17 Mtick:=methOk_runH mixed 13 msLd (fun args kb K h => by
  obtain ⟨R,rfl,hkb,hR,h0,h1,hroom,hK⟩:=h
  have hkb0:=hkb
  unfold RepKB at hkb
  split at hkb
  · rename_i hl
    obtain ⟨a14,a15,T,hT,rfl⟩:=hkb
    exact ⟨_,_,XTk_ok,tick_n R T a14 a15 hT hl hR h0 h1 hroom K hK⟩
  · rename_i L hl
    obtain ⟨I,Q,T,hI,hQ,hT,rfl⟩:=hkb
    exact ⟨_,_,XTk_ok,tick_l R T I Q L hT hl hI hQ hR h0 h1 hroom K hK⟩)
end Go.Proofs.Ytfcjngcnifdmnaa
namespace Go.Proofs.Ytfcjngcnifdmnaa
open Vc Go
set_option linter.unusedVariables false
set_option linter.unusedSimpArgs false
set_option maxRecDepth 100000
def smS : FuncId→Option Known
  | 34 => some ⟨[],hideIn [true,true,true,true,true,true,false,true,true,true,true,true,true,true,true,true,true,true,true,true,true,true] Scsum⟩
  | _ => none
noncomputable def XSm : CallT:=callS Try.prog smS noT 10
abbrev cOut0:=fun (R : Rep) h1_ (K : V→KB→Prop) => (
 nO R ≤ (nO R) ∧
 K (V.dat (D.sl 5 (List.drop 0 (List.take (nO R) (List.map postD R.out))))) h1_
 : Prop)
theorem vcOut_n (R : Rep) (T : ML) (a14 a15 : Value) (K : V→KB→Prop) (hvc_ :
 cOut0 R [cR R (tbV T) (V.sb false) (V.any a14) (V.any a15) (V.ipo none) (V.sl 1 0 0) (V.sl 2 0 (nD R)),KO.row 76 5 [],rD R] K
 ) : runSpec Try.prog X0 (noT 26) 26 [.ptr 0 0] [cR R (tbV T) (.sb false) (.any a14) (.any a15) (.ipo none) (.sl 1 0 (nO R)) (.sl 2 0 (nD R)),rO R,rD R] (gvRes [.give 5] (nilRes [.cell 0 147 76 5] (rootRes K))):=by apply Eq.mp (a:=hvc_); kernel_rfl
theorem vcOut_l (R : Rep) (T : ML) (I Q : ML) (u : Option (List D)) (K : V→KB→Prop) (hvc_ :
 cOut0 R [cR R (tbV T) (V.sb true) (V.mp 1) (V.mp 2) (V.ipo u) (V.sl 3 0 0) (V.sl 4 0 (nD R)),mpF I,mpF Q,KO.row 76 5 [],rD R] K
 ) : runSpec Try.prog X0 (noT 26) 26 [.ptr 0 0] [cR R (tbV T) (.sb true) (.mp 1) (.mp 2) (.ipo u) (.sl 3 0 (nO R)) (.sl 4 0 (nD R)),mpF I,mpF Q,rO R,rD R] (gvRes [.give 5] (nilRes [.cell 0 147 76 5] (rootRes K))):=by apply Eq.mp (a:=hvc_); kernel_rfl
abbrev cDone0:=fun (R : Rep) h1_ (K : V→KB→Prop) => (
 nD R ≤ (nD R) ∧
 K (V.dat (D.sl 7 (List.drop 0 (List.take (nD R) (List.map dnD R.done))))) h1_
 : Prop)
theorem vcDone_n (R : Rep) (T : ML) (a14 a15 : Value) (K : V→KB→Prop) (hvc_ :
 cDone0 R [cR R (tbV T) (V.sb false) (V.any a14) (V.any a15) (V.ipo none) (V.sl 1 0 (nO R)) (V.sl 2 0 0),rO R,KO.row 46 7 []] K
 ) : runSpec Try.prog X0 (noT 14) 14 [.ptr 0 0] [cR R (tbV T) (.sb false) (.any a14) (.any a15) (.ipo none) (.sl 1 0 (nO R)) (.sl 2 0 (nD R)),rO R,rD R] (gvRes [.give 7] (nilRes [.cell 0 148 46 7] (rootRes K))):=by apply Eq.mp (a:=hvc_); kernel_rfl
theorem vcDone_l (R : Rep) (T : ML) (I Q : ML) (u : Option (List D)) (K : V→KB→Prop) (hvc_ :
 cDone0 R [cR R (tbV T) (V.sb true) (V.mp 1) (V.mp 2) (V.ipo u) (V.sl 3 0 (nO R)) (V.sl 4 0 0),mpF I,mpF Q,rO R,KO.row 46 7 []] K
 ) : runSpec Try.prog X0 (noT 14) 14 [.ptr 0 0] [cR R (tbV T) (.sb true) (.mp 1) (.mp 2) (.ipo u) (.sl 3 0 (nO R)) (.sl 4 0 (nD R)),mpF I,mpF Q,rO R,rD R] (gvRes [.give 7] (nilRes [.cell 0 148 46 7] (rootRes K))):=by apply Eq.mp (a:=hvc_); kernel_rfl
abbrev cChanged0:=fun (R : Rep) h1_ (K : V→KB→Prop) => (
 K (V.sb R.ch) h1_
 : Prop)
theorem vcChanged_n (R : Rep) (T : ML) (a14 a15 : Value) (K : V→KB→Prop) (hvc_ :
 cChanged0 R [cS R (V.int IntKind.i64 R.nu) (V.arr 128 (dns IntKind.u8 R.c)) (V.sb false) (tbV T) (V.sb false) (V.any a14) (V.any a15) (V.ipo none) (V.sl 1 0 (nO R)) (V.sl 2 0 (nD R)),rO R,rD R] K
 ) : runSpec Try.prog X0 (noT 20) 20 [.ptr 0 0] [cR R (tbV T) (.sb false) (.any a14) (.any a15) (.ipo none) (.sl 1 0 (nO R)) (.sl 2 0 (nD R)),rO R,rD R] (rootRes K):=by apply Eq.mp (a:=hvc_); kernel_rfl
theorem vcChanged_l (R : Rep) (T : ML) (I Q : ML) (u : Option (List D)) (K : V→KB→Prop) (hvc_ :
 cChanged0 R [cS R (V.int IntKind.i64 R.nu) (V.arr 128 (dns IntKind.u8 R.c)) (V.sb false) (tbV T) (V.sb true) (V.mp 1) (V.mp 2) (V.ipo u) (V.sl 3 0 (nO R)) (V.sl 4 0 (nD R)),mpF I,mpF Q,rO R,rD R] K
 ) : runSpec Try.prog X0 (noT 20) 20 [.ptr 0 0] [cR R (tbV T) (.sb true) (.mp 1) (.mp 2) (.ipo u) (.sl 3 0 (nO R)) (.sl 4 0 (nD R)),mpF I,mpF Q,rO R,rD R] (rootRes K):=by apply Eq.mp (a:=hvc_); kernel_rfl
abbrev cEpoch0:=fun (R : Rep) h1_ (K : V→KB→Prop) => (
 K (V.tup [V.int IntKind.i64 R.ep,V.int IntKind.i64 R.nu]) h1_
 : Prop)
theorem vcEpoch_n (R : Rep) (T : ML) (a14 a15 : Value) (K : V→KB→Prop) (hvc_ :
 cEpoch0 R [cR R (tbV T) (V.sb false) (V.any a14) (V.any a15) (V.ipo none) (V.sl 1 0 (nO R)) (V.sl 2 0 (nD R)),rO R,rD R] K
 ) : runSpec Try.prog X0 (noT 15) 15 [.ptr 0 0] [cR R (tbV T) (.sb false) (.any a14) (.any a15) (.ipo none) (.sl 1 0 (nO R)) (.sl 2 0 (nD R)),rO R,rD R] (rootRes K):=by apply Eq.mp (a:=hvc_); kernel_rfl
theorem vcEpoch_l (R : Rep) (T : ML) (I Q : ML) (u : Option (List D)) (K : V→KB→Prop) (hvc_ :
 cEpoch0 R [cR R (tbV T) (V.sb true) (V.mp 1) (V.mp 2) (V.ipo u) (V.sl 3 0 (nO R)) (V.sl 4 0 (nD R)),mpF I,mpF Q,rO R,rD R] K
 ) : runSpec Try.prog X0 (noT 15) 15 [.ptr 0 0] [cR R (tbV T) (.sb true) (.mp 1) (.mp 2) (.ipo u) (.sl 3 0 (nO R)) (.sl 4 0 (nD R)),mpF I,mpF Q,rO R,rD R] (rootRes K):=by apply Eq.mp (a:=hvc_); kernel_rfl
abbrev cSum0:=fun (R : Rep) (h1_ : (List Int)→_) (K : V→KB→Prop) => (
 ∀ (y1 : Nat →
 Value),∃ (y2 : List Int),dns IntKind.u8 R.c = dns IntKind.u8 y2 ∧
 y2.length = 128 ∧
 (∀ (y3 : Int),List.Mem y3 y2 →
 0 ≤ y3 ∧
 y3 < 256) ∧
 SmF y1 [0,1,2,3,4,5,7,8,9,10,11,12,13,14,15,16,17,18,19,20,21] ∧
 K (V.int IntKind.u32 (crcI y2)) (h1_ y2)
 : Prop)
theorem vcSum_n (R : Rep) (T : ML) (a14 a15 : Value) (K : V→KB→Prop) (hvc_ :
 cSum0 R (fun y2 => [cS R (V.int IntKind.i64 R.nu) (V.arr 128 (dns IntKind.u8 y2)) (V.sb R.ch) (tbV T) (V.sb false) (V.any a14) (V.any a15) (V.ipo none) (V.sl 1 0 (nO R)) (V.sl 2 0 (nD R)),rO R,rD R]) K
 ) : runSpec Try.prog XSm (noT 13) 13 [.ptr 0 0] [cR R (tbV T) (.sb false) (.any a14) (.any a15) (.ipo none) (.sl 1 0 (nO R)) (.sl 2 0 (nD R)),rO R,rD R] (rootRes K):=by apply Eq.mp (a:=hvc_); kernel_rfl
theorem vcSum_l (R : Rep) (T : ML) (I Q : ML) (u : Option (List D)) (K : V→KB→Prop) (hvc_ :
 cSum0 R (fun y2 => [cS R (V.int IntKind.i64 R.nu) (V.arr 128 (dns IntKind.u8 y2)) (V.sb R.ch) (tbV T) (V.sb true) (V.mp 1) (V.mp 2) (V.ipo u) (V.sl 3 0 (nO R)) (V.sl 4 0 (nD R)),mpF I,mpF Q,rO R,rD R]) K
 ) : runSpec Try.prog XSm (noT 13) 13 [.ptr 0 0] [cR R (tbV T) (.sb true) (.mp 1) (.mp 2) (.ipo u) (.sl 3 0 (nO R)) (.sl 4 0 (nD R)),mpF I,mpF Q,rO R,rD R] (rootRes K):=by apply Eq.mp (a:=hvc_); kernel_rfl
theorem vcLeads_n (R : Rep) (T : ML) (a14 a15 : Value) (K : V→KB→Prop) (hvc_ :
 ∀ (y1 : Nat →
 Value),false = false ∧
 SmF y1 [0,1,2,3,4,5,7,8,9,10,11,12,14,15,17,18,19,20,21] ∧
 K (V.tup [V.sb false,V.sb false,V.sb false]) [cR R (tbV T) (V.sb false) (V.any a14) (V.any a15) (V.ipo none) (V.sl 1 0 (nO R)) (V.sl 2 0 (nD R)),rO R,rD R]
 ) : hideIn [true,true,true,true,true,true,false,true,true,true,true,true,true,false,true,true,false,true,true,true,true,true] Sleads [.ptr 0 0] [cR R (tbV T) (.sb false) (.any a14) (.any a15) (.ipo none) (.sl 1 0 (nO R)) (.sl 2 0 (nD R)),rO R,rD R] (rootRes K):=by apply Eq.mp (a:=hvc_); kernel_rfl
theorem vcLeads_l (R : Rep) (T : ML) (I Q : ML) (u : Option (List D)) (K : V→KB→Prop) (hvc_ :
 ∀ (y1 : Nat →
 Value),∃ (y2 : List Int),∃ (y3 : List Int),ints IntKind.i64 R.v.mem = ints IntKind.i64 y2 ∧
 ints IntKind.i64 R.v.joi = ints IntKind.i64 y3 ∧
 Len5 (y2.length + y3.length) ∧
 BoolM I ∧
 true = true ∧
 SmF y1 [1,2,3,4,5,7,8,9,10,15,17,18,19,20,21] ∧
 K (V.tup [V.sb true,V.sb (allI R.me y2 y3 I),V.sb !u.isNone]) [cR R (tbV T) (V.sb true) (V.mp 1) (V.mp 2) (V.ipo u) (V.sl 3 0 (nO R)) (V.sl 4 0 (nD R)),mpF I,mpF Q,rO R,rD R]
 ) : hideIn [false,true,true,true,true,true,false,true,true,true,true,false,false,false,false,true,false,true,true,true,true,true] Sleads [.ptr 0 0] [cR R (tbV T) (.sb true) (.mp 1) (.mp 2) (.ipo u) (.sl 3 0 (nO R)) (.sl 4 0 (nD R)),mpF I,mpF Q,rO R,rD R] (rootRes K):=by apply Eq.mp (a:=hvc_); kernel_rfl
theorem methOk_runG {P : Program} (hm : P.follows .mixedOrders = true) (ms : List Vc.Mode) (ds : List NilD) {f : FuncId} {S : FSpec} (h : ∀ args kb K,S args kb K→∃ (X : CallT) (T : Nat→Option LI),CallOk P X∧runSpec P X T f args kb (gvRes ms (nilRes ds (rootRes K)))) : MethOk P f S :=
  methOk_of (nilOut_ok (gvOut_ok (specOk_of'' hm (S:=fun a k K0 => ∃ X T,CallOk P X∧runSpec P X T f a k K0) fun _ _ _ h => h) ms) ds) h
def SleadsB : FSpec:=fun args kb K => ∃ ms,hideIn ms Sleads args kb K
theorem SleadsB_ok : SpecOk Try.prog 9 SleadsB:=fun args kb K ⟨ms,h⟩ => hideIn_ok okLeads ms args kb K h
theorem smS_ok : AllOk Try.prog smS:=fun f k h => by
  unfold smS at h
  split at h
  · cases h; exact hideIn_ok okCSum _
  · cases h
theorem XSm_ok : CallOk Try.prog XSm:=callS_ok mixed smS_ok noT 10
theorem rOut_n (R : Rep) (T : ML) (a14 a15 : Value) (hT : Tab T R.t) (hl : R.ld = none) (hR : RepOk R) (K : V→KB→Prop) (hK : ∀ kb',RepKB { R with out:=[] } kb'→K (.dat (.sl 5 (R.out.map postD))) kb') : runSpec Try.prog X0 (noT 26) 26 [.ptr 0 0] [cR R (tbV T) (.sb false) (.any a14) (.any a15) (.ipo none) (.sl 1 0 (nO R)) (.sl 2 0 (nD R)),rO R,rD R] (gvRes [.give 5] (nilRes [.cell 0 147 76 5] (rootRes K))):=by
  have fin : ∀ {kb'},RepKB { R with out:=[] } kb'→∀ {r},r = (.dat (.sl 5 (R.out.map postD)))→K r kb':=fun h r e => e ▸ hK _ h
  refine vcOut_n R T a14 a15 K ⟨Nat.le_refl _,fin ?_ (by rw [List.drop_zero,List.take_of_length_le (Nat.le_refl _)])⟩
  unfold RepKB
  simp only [hl]
  exact ⟨a14,a15,T,hT,rfl⟩
theorem rOut_l (R : Rep) (T : ML) (I Q : ML) (L : Lead) (hT : Tab T R.t) (hl : R.ld = some L) (hI : MB I L.ins) (hQ : MB Q L.acks) (hR : RepOk R) (K : V→KB→Prop) (hK : ∀ kb',RepKB { R with out:=[] } kb'→K (.dat (.sl 5 (R.out.map postD))) kb') : runSpec Try.prog X0 (noT 26) 26 [.ptr 0 0] [cR R (tbV T) (.sb true) (.mp 1) (.mp 2) (.ipo (L.cur.map opD)) (.sl 3 0 (nO R)) (.sl 4 0 (nD R)),mpF I,mpF Q,rO R,rD R] (gvRes [.give 5] (nilRes [.cell 0 147 76 5] (rootRes K))):=by
  have fin : ∀ {kb'},RepKB { R with out:=[] } kb'→∀ {r},r = (.dat (.sl 5 (R.out.map postD)))→K r kb':=fun h r e => e ▸ hK _ h
  refine vcOut_l R T I Q (L.cur.map opD) K ⟨Nat.le_refl _,fin ?_ (by rw [List.drop_zero,List.take_of_length_le (Nat.le_refl _)])⟩
  unfold RepKB
  simp only [hl]
  exact ⟨I,Q,T,hI,hQ,hT,rfl⟩
def Mout : FSpec:=fun args kb K => ∃ R,args = [.ptr 0 0]∧RepKB R kb∧RepOk R∧∀ kb',RepKB { R with out:=[] } kb'→K (.dat (.sl 5 (R.out.map postD))) kb'
set_option maxHeartbeats 4000000 in
theorem okOutM : MethOk Try.prog 26 Mout:=methOk_runG mixed [.give 5] [.cell 0 147 76 5] (fun args kb K h => by
  obtain ⟨R,rfl,hkb,hR,hK⟩:=h
  have hkb0:=hkb
  unfold RepKB at hkb
  split at hkb
  · rename_i hl
    obtain ⟨a14,a15,T,hT,rfl⟩:=hkb
    exact ⟨_,_,X0_ok,rOut_n R T a14 a15 hT hl hR K hK⟩
  · rename_i L hl
    obtain ⟨I,Q,T,hI,hQ,hT,rfl⟩:=hkb
    exact ⟨_,_,X0_ok,rOut_l R T I Q L hT hl hI hQ hR K hK⟩)
theorem rDone_n (R : Rep) (T : ML) (a14 a15 : Value) (hT : Tab T R.t) (hl : R.ld = none) (hR : RepOk R) (K : V→KB→Prop) (hK : ∀ kb',RepKB { R with done:=[] } kb'→K (.dat (.sl 7 (R.done.map dnD))) kb') : runSpec Try.prog X0 (noT 14) 14 [.ptr 0 0] [cR R (tbV T) (.sb false) (.any a14) (.any a15) (.ipo none) (.sl 1 0 (nO R)) (.sl 2 0 (nD R)),rO R,rD R] (gvRes [.give 7] (nilRes [.cell 0 148 46 7] (rootRes K))):=by
  have fin : ∀ {kb'},RepKB { R with done:=[] } kb'→∀ {r},r = (.dat (.sl 7 (R.done.map dnD)))→K r kb':=fun h r e => e ▸ hK _ h
  refine vcDone_n R T a14 a15 K ⟨Nat.le_refl _,fin ?_ (by rw [List.drop_zero,List.take_of_length_le (Nat.le_refl _)])⟩
  unfold RepKB
  simp only [hl]
  exact ⟨a14,a15,T,hT,rfl⟩
theorem rDone_l (R : Rep) (T : ML) (I Q : ML) (L : Lead) (hT : Tab T R.t) (hl : R.ld = some L) (hI : MB I L.ins) (hQ : MB Q L.acks) (hR : RepOk R) (K : V→KB→Prop) (hK : ∀ kb',RepKB { R with done:=[] } kb'→K (.dat (.sl 7 (R.done.map dnD))) kb') : runSpec Try.prog X0 (noT 14) 14 [.ptr 0 0] [cR R (tbV T) (.sb true) (.mp 1) (.mp 2) (.ipo (L.cur.map opD)) (.sl 3 0 (nO R)) (.sl 4 0 (nD R)),mpF I,mpF Q,rO R,rD R] (gvRes [.give 7] (nilRes [.cell 0 148 46 7] (rootRes K))):=by
  have fin : ∀ {kb'},RepKB { R with done:=[] } kb'→∀ {r},r = (.dat (.sl 7 (R.done.map dnD)))→K r kb':=fun h r e => e ▸ hK _ h
  refine vcDone_l R T I Q (L.cur.map opD) K ⟨Nat.le_refl _,fin ?_ (by rw [List.drop_zero,List.take_of_length_le (Nat.le_refl _)])⟩
  unfold RepKB
  simp only [hl]
  exact ⟨I,Q,T,hI,hQ,hT,rfl⟩
def Mdone : FSpec:=fun args kb K => ∃ R,args = [.ptr 0 0]∧RepKB R kb∧RepOk R∧∀ kb',RepKB { R with done:=[] } kb'→K (.dat (.sl 7 (R.done.map dnD))) kb'
set_option maxHeartbeats 4000000 in
theorem okDoneM : MethOk Try.prog 14 Mdone:=methOk_runG mixed [.give 7] [.cell 0 148 46 7] (fun args kb K h => by
  obtain ⟨R,rfl,hkb,hR,hK⟩:=h
  have hkb0:=hkb
  unfold RepKB at hkb
  split at hkb
  · rename_i hl
    obtain ⟨a14,a15,T,hT,rfl⟩:=hkb
    exact ⟨_,_,X0_ok,rDone_n R T a14 a15 hT hl hR K hK⟩
  · rename_i L hl
    obtain ⟨I,Q,T,hI,hQ,hT,rfl⟩:=hkb
    exact ⟨_,_,X0_ok,rDone_l R T I Q L hT hl hI hQ hR K hK⟩)
theorem rChanged_n (R : Rep) (T : ML) (a14 a15 : Value) (hT : Tab T R.t) (hl : R.ld = none) (hR : RepOk R) (K : V→KB→Prop) (hK : ∀ kb',RepKB { R with ch:=false } kb'→K (.sb R.ch) kb') : runSpec Try.prog X0 (noT 20) 20 [.ptr 0 0] [cR R (tbV T) (.sb false) (.any a14) (.any a15) (.ipo none) (.sl 1 0 (nO R)) (.sl 2 0 (nD R)),rO R,rD R] (rootRes K):=by
  have fin : ∀ {kb'},RepKB { R with ch:=false } kb'→∀ {r},r = (.sb R.ch)→K r kb':=fun h r e => e ▸ hK _ h
  refine vcChanged_n R T a14 a15 K (fin ?_ rfl)
  unfold RepKB
  simp only [hl]
  exact ⟨a14,a15,T,hT,rfl⟩
theorem rChanged_l (R : Rep) (T : ML) (I Q : ML) (L : Lead) (hT : Tab T R.t) (hl : R.ld = some L) (hI : MB I L.ins) (hQ : MB Q L.acks) (hR : RepOk R) (K : V→KB→Prop) (hK : ∀ kb',RepKB { R with ch:=false } kb'→K (.sb R.ch) kb') : runSpec Try.prog X0 (noT 20) 20 [.ptr 0 0] [cR R (tbV T) (.sb true) (.mp 1) (.mp 2) (.ipo (L.cur.map opD)) (.sl 3 0 (nO R)) (.sl 4 0 (nD R)),mpF I,mpF Q,rO R,rD R] (rootRes K):=by
  have fin : ∀ {kb'},RepKB { R with ch:=false } kb'→∀ {r},r = (.sb R.ch)→K r kb':=fun h r e => e ▸ hK _ h
  refine vcChanged_l R T I Q (L.cur.map opD) K (fin ?_ rfl)
  unfold RepKB
  simp only [hl]
  exact ⟨I,Q,T,hI,hQ,hT,rfl⟩
def Mchanged : FSpec:=fun args kb K => ∃ R,args = [.ptr 0 0]∧RepKB R kb∧RepOk R∧∀ kb',RepKB { R with ch:=false } kb'→K (.sb R.ch) kb'
set_option maxHeartbeats 4000000 in
theorem okChangedM : MethOk Try.prog 20 Mchanged:=methOk_run1 mixed (fun args kb K h => by
  obtain ⟨R,rfl,hkb,hR,hK⟩:=h
  have hkb0:=hkb
  unfold RepKB at hkb
  split at hkb
  · rename_i hl
    obtain ⟨a14,a15,T,hT,rfl⟩:=hkb
    exact ⟨_,_,X0_ok,rChanged_n R T a14 a15 hT hl hR K hK⟩
  · rename_i L hl
    obtain ⟨I,Q,T,hI,hQ,hT,rfl⟩:=hkb
    exact ⟨_,_,X0_ok,rChanged_l R T I Q L hT hl hI hQ hR K hK⟩)
theorem rEpoch_n (R : Rep) (T : ML) (a14 a15 : Value) (hT : Tab T R.t) (hl : R.ld = none) (hR : RepOk R) (K : V→KB→Prop) (hK : ∀ kb',RepKB R kb'→K (.tup [.int .i64 R.ep,.int .i64 R.nu]) kb') : runSpec Try.prog X0 (noT 15) 15 [.ptr 0 0] [cR R (tbV T) (.sb false) (.any a14) (.any a15) (.ipo none) (.sl 1 0 (nO R)) (.sl 2 0 (nD R)),rO R,rD R] (rootRes K):=by
  have fin : ∀ {kb'},RepKB R kb'→∀ {r},r = (.tup [.int .i64 R.ep,.int .i64 R.nu])→K r kb':=fun h r e => e ▸ hK _ h
  refine vcEpoch_n R T a14 a15 K (fin ?_ rfl)
  unfold RepKB
  simp only [hl]
  exact ⟨a14,a15,T,hT,rfl⟩
theorem rEpoch_l (R : Rep) (T : ML) (I Q : ML) (L : Lead) (hT : Tab T R.t) (hl : R.ld = some L) (hI : MB I L.ins) (hQ : MB Q L.acks) (hR : RepOk R) (K : V→KB→Prop) (hK : ∀ kb',RepKB R kb'→K (.tup [.int .i64 R.ep,.int .i64 R.nu]) kb') : runSpec Try.prog X0 (noT 15) 15 [.ptr 0 0] [cR R (tbV T) (.sb true) (.mp 1) (.mp 2) (.ipo (L.cur.map opD)) (.sl 3 0 (nO R)) (.sl 4 0 (nD R)),mpF I,mpF Q,rO R,rD R] (rootRes K):=by
  have fin : ∀ {kb'},RepKB R kb'→∀ {r},r = (.tup [.int .i64 R.ep,.int .i64 R.nu])→K r kb':=fun h r e => e ▸ hK _ h
  refine vcEpoch_l R T I Q (L.cur.map opD) K (fin ?_ rfl)
  unfold RepKB
  simp only [hl]
  exact ⟨I,Q,T,hI,hQ,hT,rfl⟩
def Mepoch : FSpec:=fun args kb K => ∃ R,args = [.ptr 0 0]∧RepKB R kb∧RepOk R∧∀ kb',RepKB R kb'→K (.tup [.int .i64 R.ep,.int .i64 R.nu]) kb'
set_option maxHeartbeats 4000000 in
theorem okEpochM : MethOk Try.prog 15 Mepoch:=methOk_run1 mixed (fun args kb K h => by
  obtain ⟨R,rfl,hkb,hR,hK⟩:=h
  have hkb0:=hkb
  unfold RepKB at hkb
  split at hkb
  · rename_i hl
    obtain ⟨a14,a15,T,hT,rfl⟩:=hkb
    exact ⟨_,_,X0_ok,rEpoch_n R T a14 a15 hT hl hR K hK⟩
  · rename_i L hl
    obtain ⟨I,Q,T,hI,hQ,hT,rfl⟩:=hkb
    exact ⟨_,_,X0_ok,rEpoch_l R T I Q L hT hl hI hQ hR K hK⟩)
theorem rSum_n (R : Rep) (T : ML) (a14 a15 : Value) (hT : Tab T R.t) (hl : R.ld = none) (hR : RepOk R) (K : V→KB→Prop) (hK : ∀ kb',RepKB R kb'→K (.int .u32 (crcI R.c)) kb') : runSpec Try.prog XSm (noT 13) 13 [.ptr 0 0] [cR R (tbV T) (.sb false) (.any a14) (.any a15) (.ipo none) (.sl 1 0 (nO R)) (.sl 2 0 (nD R)),rO R,rD R] (rootRes K):=by
  have fin : ∀ {kb'},RepKB R kb'→∀ {r},r = (.int .u32 (crcI R.c))→K r kb':=fun h r e => e ▸ hK _ h
  refine vcSum_n R T a14 a15 K fun f => ⟨R.c,rfl,hR.cl,fun c h => hR.cb c h,⟨by simp [SameL]⟩,fin ?_ rfl⟩
  unfold RepKB
  simp only [hl]
  exact ⟨a14,a15,T,hT,rfl⟩
theorem rSum_l (R : Rep) (T : ML) (I Q : ML) (L : Lead) (hT : Tab T R.t) (hl : R.ld = some L) (hI : MB I L.ins) (hQ : MB Q L.acks) (hR : RepOk R) (K : V→KB→Prop) (hK : ∀ kb',RepKB R kb'→K (.int .u32 (crcI R.c)) kb') : runSpec Try.prog XSm (noT 13) 13 [.ptr 0 0] [cR R (tbV T) (.sb true) (.mp 1) (.mp 2) (.ipo (L.cur.map opD)) (.sl 3 0 (nO R)) (.sl 4 0 (nD R)),mpF I,mpF Q,rO R,rD R] (rootRes K):=by
  have fin : ∀ {kb'},RepKB R kb'→∀ {r},r = (.int .u32 (crcI R.c))→K r kb':=fun h r e => e ▸ hK _ h
  refine vcSum_l R T I Q (L.cur.map opD) K fun f => ⟨R.c,rfl,hR.cl,fun c h => hR.cb c h,⟨by simp [SameL]⟩,fin ?_ rfl⟩
  unfold RepKB
  simp only [hl]
  exact ⟨I,Q,T,hI,hQ,hT,rfl⟩
def Msum : FSpec:=fun args kb K => ∃ R,args = [.ptr 0 0]∧RepKB R kb∧RepOk R∧∀ kb',RepKB R kb'→K (.int .u32 (crcI R.c)) kb'
set_option maxHeartbeats 4000000 in
theorem okSumM : MethOk Try.prog 13 Msum:=methOk_run1 mixed (fun args kb K h => by
  obtain ⟨R,rfl,hkb,hR,hK⟩:=h
  have hkb0:=hkb
  unfold RepKB at hkb
  split at hkb
  · rename_i hl
    obtain ⟨a14,a15,T,hT,rfl⟩:=hkb
    exact ⟨_,_,XSm_ok,rSum_n R T a14 a15 hT hl hR K hK⟩
  · rename_i L hl
    obtain ⟨I,Q,T,hI,hQ,hT,rfl⟩:=hkb
    exact ⟨_,_,XSm_ok,rSum_l R T I Q L hT hl hI hQ hR K hK⟩)
theorem rLeads_n (R : Rep) (T : ML) (a14 a15 : Value) (hT : Tab T R.t) (hl : R.ld = none) (hR : RepOk R) (K : V→KB→Prop) (hK : ∀ kb',RepKB R kb'→K (.tup [.sb (leadsR R),.sb (readyR R),.sb (busyR R)]) kb') : hideIn [true,true,true,true,true,true,false,true,true,true,true,true,true,false,true,true,false,true,true,true,true,true] Sleads [.ptr 0 0] [cR R (tbV T) (.sb false) (.any a14) (.any a15) (.ipo none) (.sl 1 0 (nO R)) (.sl 2 0 (nD R)),rO R,rD R] (rootRes K):=by
  have fin : ∀ {kb'},RepKB R kb'→∀ {r},r = (.tup [.sb (leadsR R),.sb (readyR R),.sb (busyR R)])→K r kb':=fun h r e => e ▸ hK _ h
  refine vcLeads_n R T a14 a15 K fun f => ⟨rfl,⟨by simp [SameL]⟩,fin ?_ (by simp [leadsR,readyR,busyR,curR,hl])⟩
  unfold RepKB
  simp only [hl]
  exact ⟨a14,a15,T,hT,rfl⟩
theorem rLeads_l (R : Rep) (T : ML) (I Q : ML) (L : Lead) (hT : Tab T R.t) (hl : R.ld = some L) (hI : MB I L.ins) (hQ : MB Q L.acks) (hR : RepOk R) (K : V→KB→Prop) (hK : ∀ kb',RepKB R kb'→K (.tup [.sb (leadsR R),.sb (readyR R),.sb (busyR R)]) kb') : hideIn [false,true,true,true,true,true,false,true,true,true,true,false,false,false,false,true,false,true,true,true,true,true] Sleads [.ptr 0 0] [cR R (tbV T) (.sb true) (.mp 1) (.mp 2) (.ipo (L.cur.map opD)) (.sl 3 0 (nO R)) (.sl 4 0 (nD R)),mpF I,mpF Q,rO R,rD R] (rootRes K):=by
  have fin : ∀ {kb'},RepKB R kb'→∀ {r},r = (.tup [.sb (leadsR R),.sb (readyR R),.sb (busyR R)])→K r kb':=fun h r e => e ▸ hK _ h
  refine vcLeads_l R T I Q (L.cur.map opD) K fun f => ⟨R.v.mem,R.v.joi,rfl,rfl,⟨by have:=hR.vl; omega⟩,hI.b,rfl,⟨by simp [SameL]⟩,fin ?_ (by simp [leadsR,readyR,busyR,curR,hl,all_allI hI,oths])⟩
  unfold RepKB
  simp only [hl]
  exact ⟨I,Q,T,hI,hQ,hT,rfl⟩
def Mleads : FSpec:=fun args kb K => ∃ R,args = [.ptr 0 0]∧RepKB R kb∧RepOk R∧∀ kb',RepKB R kb'→K (.tup [.sb (leadsR R),.sb (readyR R),.sb (busyR R)]) kb'
set_option maxHeartbeats 4000000 in
theorem okLeadsM : MethOk Try.prog 9 Mleads:=methOk_of SleadsB_ok (fun args kb K h => by
  obtain ⟨R,rfl,hkb,hR,hK⟩:=h
  have hkb0:=hkb
  unfold RepKB at hkb
  split at hkb
  · rename_i hl
    obtain ⟨a14,a15,T,hT,rfl⟩:=hkb
    exact ⟨_,rLeads_n R T a14 a15 hT hl hR K hK⟩
  · rename_i L hl
    obtain ⟨I,Q,T,hI,hQ,hT,rfl⟩:=hkb
    exact ⟨_,rLeads_l R T I Q L hT hl hI hQ hR K hK⟩)
end Go.Proofs.Ytfcjngcnifdmnaa
namespace Go.Proofs.Ytfcjngcnifdmnaa
open Vc Go
set_option linter.unusedVariables false
set_option linter.unusedSimpArgs false
set_option maxRecDepth 100000
def repW (ep nu : Int) (c : List Int) (x : List L3) : List Int:=numW ep ++ (numW nu ++ (textW (sealI c) ++ textW (tabW x)))
def bytesR (R : Rep) : List Int:=repW R.ep R.nu R.c (tabR R)
def bySR : FuncId→Option Known
  | 50 => some ⟨[],hideIn [true,true,true,true,true,true,false,true,true,true,true,true,true,true,true,true,true,true,true,true,true,true] Sbytes⟩
  | 51 => some ⟨[],hideIn [true,true,true,true,true,true,false,false,true,true,true,true,true,true,true,true,true,true,true,true,true,true] StBytesR⟩
  | f => pkS f
noncomputable def XBy : CallT:=callS Try.prog bySR noT 10
abbrev newK (me id : Int) (bl : Bool) (ep nu : Int) (c : List Int) (M : ML) : KO:=.cells [.int .i64 me,.int .i64 id,.sb bl,.sb false,.int .i64 ep,.int .i64 nu,.arr 128 (dns .u8 c),tbV M,.int .i64 0,.int .i64 0,.int .i64 0,.dat (.sl 1 []),.dat (.sl 1 []),.sb false,.any (.map none),.any (.map none),.ipo none,.int .i64 0,.sb false,.int .i64 0,.sl 1 0 0,.sl 2 0 0]
def SNew : FSpec:=fun args kb K => match args,kb with
  | [.int .i64 me,.int .i64 id,.sb bl],[] => K (.ptr 0 0) [newK me id bl 0 0 z128 [],.row 76 5 [],.row 46 7 []]
  | _,_ => False
def numQ (l : List Int) (lo : Nat) (e most : Int) : Int × Nat × Int:=((rNum (l.drop lo) e most).1,lo + (rNum (l.drop lo) e most).2.1,(rNum (l.drop lo) e most).2.2)
def textQ (l : List Int) (lo : Nat) (e most : Int) : List Int × Nat × Int:=((rText (l.drop lo) e most).1,lo + (rText (l.drop lo) e most).2.1,(rText (l.drop lo) e most).2.2)
structure LsI (A : List (List D)) (h lo : Nat) (l : List Int) : Prop where
  e : A = ints .u8 l
  h : h = l.length
  lo : lo ≤ l.length
  b : Byt l
  m : l.length ≤ 140737488355328
def SrNumQ : FSpec:=fun args kb K => match args,kb with
  | [.ptr 0 0,.int .i64 most],[.cells [.sl 1 lo h,.int .i64 e],.row 5 1 A] => ∃ l : List Int,LsI A h lo l ∧
    ∀ v p e',numQ l lo e most = (v,p,e')→K (.int .i64 v) [.cells [.sl 1 p l.length,.int .i64 e'],.row 5 1 (ints .u8 l)]
  | _,_ => False
def SrTextQ : FSpec:=fun args kb K => match args,kb with
  | [.ptr 0 0,.int .i64 most],[.cells [.sl 1 lo h,.int .i64 e],.row 5 1 A] => ∃ l : List Int,LsI A h lo l ∧
    ∀ t p e',textQ l lo e most = (t,p,e')→K (.sl 2 0 t.length) [.cells [.sl 1 p l.length,.int .i64 e'],.row 5 1 (ints .u8 l),.row 5 1 (ints .u8 t)]
  | _,_ => False
def SrEndQ : FSpec:=fun args kb K => match args,kb with
  | [.ptr 0 0],[.cells [.sl 1 lo h,.int .i64 e],.row 5 1 A] => ∃ l : List Int,LsI A h lo l ∧
    ∀ e',rEnd (l.drop lo) e = e'→K (.int .i64 e') [.cells [.sl 1 lo l.length,.int .i64 e'],.row 5 1 (ints .u8 l)]
  | _,_ => False
def loSR : FuncId→Option Known
  | 7 => some ⟨[],SNew⟩
  | 43 => some ⟨[],SrNumQ⟩
  | 44 => some ⟨[],SrTextQ⟩
  | 47 => some ⟨[],SrEndQ⟩
  | 42 => some ⟨[.lend 1],SpRead⟩
  | 45 => some ⟨[.give 1],SbLoad⟩
  | 46 => some ⟨[.give 1],SLoad⟩
  | _ => none
noncomputable def XLo : CallT:=callS Try.prog loSR noT 10
abbrev cBytes0:=fun (R : Rep) (T : ML) (h1_ : (List Int)→_) (K : V→KB→Prop) => (
 ∃ (y1 : List Int),[] = ints IntKind.u8 y1 ∧
 0 = y1.length ∧
 y1.length ≤ 10000000 ∧
 LeM R.ep ∧
 ∃ (y2 : List Int),ints IntKind.u8 (y1 ++ numW R.ep) = ints IntKind.u8 y2 ∧
 (y1 ++ numW R.ep).length = y2.length ∧
 y2.length ≤ 10000000 ∧
 LeM R.nu ∧
 ∀ (y3 : Nat →
 Value),∃ (y4 : List Int),dns IntKind.u8 R.c = dns IntKind.u8 y4 ∧
 y4.length = 128 ∧
 (∀ (y5 : Int),List.Mem y5 y4 →
 0 ≤ y5 ∧
 y5 < 256) ∧
 SmF y3 [0,1,2,3,4,5,7,8,9,10,11,12,13,14,15,16,17,18,19,20,21] ∧
 (132 ≤ (ints IntKind.u8 (sealI y4)).length ∧
 True) ∧
 ∃ (y6 : List Int),∃ (y7 : List Int),ints IntKind.u8 (y2 ++ numW R.nu) = ints IntKind.u8 y6 ∧
 List.drop 0 (List.take 132 (ints IntKind.u8 (sealI y4))) = ints IntKind.u8 y7 ∧
 (y2 ++ numW R.nu).length = y6.length ∧
 y6.length ≤ 1000000 ∧
 y7.length ≤ 1000000 ∧
 PlainS (ints IntKind.u8 (y6 ++ textW y7)).flatten ∧
 ∀ (y8 : Nat →
 Value),∃ (y9 : List L3),Tab T y9 ∧
 SmF y8 [0,1,2,3,4,5,8,9,10,11,12,13,14,15,16,17,18,19,20,21] ∧
 ((tabW y9).length ≤ (ints IntKind.u8 (tabW y9)).length ∧
 True) ∧
 ∃ (y10 : List Int),∃ (y11 : List Int),ints IntKind.u8 (y6 ++ textW y7) = ints IntKind.u8 y10 ∧
 List.drop 0 (List.take (tabW y9).length (ints IntKind.u8 (tabW y9))) = ints IntKind.u8 y11 ∧
 (y6 ++ textW y7).length = y10.length ∧
 y10.length ≤ 1000000 ∧
 y11.length ≤ 1000000 ∧
 PlainS (ints IntKind.u8 (y10 ++ textW y11)).flatten ∧
 ∃ (y12 : List Int),ints IntKind.u8 (y10 ++ textW y11) = ints IntKind.u8 y12 ∧
 (y10 ++ textW y11).length = y12.length ∧
 y12.length ≤ 1000000 ∧
 y12.length ≤ (ints IntKind.u8 y12).length ∧
 K (V.dat (D.sl 1 (List.drop 0 (List.take y12.length (ints IntKind.u8 y12))))) (h1_ y4)
 : Prop)
theorem vcBytes_n (R : Rep) (T : ML) (a14 a15 : Value) (K : V→KB→Prop) (hvc_ :
 cBytes0 R T (fun y4 => [cS R (V.int IntKind.i64 R.nu) (V.arr 128 (dns IntKind.u8 y4)) (V.sb R.ch) (tbV T) (V.sb false) (V.any a14) (V.any a15) (V.ipo none) (V.sl 1 0 (nO R)) (V.sl 2 0 (nD R)),rO R,rD R]) K
 ) : runSpec Try.prog XBy (noT 19) 19 [.ptr 0 0] [cR R (tbV T) (.sb false) (.any a14) (.any a15) (.ipo none) (.sl 1 0 (nO R)) (.sl 2 0 (nD R)),rO R,rD R] (gvRes [.give 1] (rootRes K)):=by apply Eq.mp (a:=hvc_); kernel_rfl
theorem vcBytes_l (R : Rep) (T : ML) (I Q : ML) (u : Option (List D)) (K : V→KB→Prop) (hvc_ :
 cBytes0 R T (fun y4 => [cS R (V.int IntKind.i64 R.nu) (V.arr 128 (dns IntKind.u8 y4)) (V.sb R.ch) (tbV T) (V.sb true) (V.mp 1) (V.mp 2) (V.ipo u) (V.sl 3 0 (nO R)) (V.sl 4 0 (nD R)),mpF I,mpF Q,rO R,rD R]) K
 ) : runSpec Try.prog XBy (noT 19) 19 [.ptr 0 0] [cR R (tbV T) (.sb true) (.mp 1) (.mp 2) (.ipo u) (.sl 3 0 (nO R)) (.sl 4 0 (nD R)),mpF I,mpF Q,rO R,rD R] (gvRes [.give 1] (rootRes K)):=by apply Eq.mp (a:=hvc_); kernel_rfl
theorem vcNew (me id : Int) (bl : Bool) (K : V→KB→Prop) (hvc_ :
 K (V.ptr 0 0) [KO.cells [V.int IntKind.i64 me,V.int IntKind.i64 id,V.sb bl,V.sb false,V.int IntKind.i64 0,V.int IntKind.i64 0,V.arr 128 (List.replicate 128 (D.val (Value.int IntKind.u8 0))),tbV [],V.int IntKind.i64 0,V.int IntKind.i64 0,V.int IntKind.i64 0,V.dat (D.sl 1 []),V.dat (D.sl 1 []),V.sb false,V.any (Value.map none),V.any (Value.map none),V.ipo none,V.int IntKind.i64 0,V.sb false,V.int IntKind.i64 0,V.sl 1 0 0,V.sl 2 0 0],KO.row 76 5 [],KO.row 46 7 []]
 ) : runSpec Try.prog X0 (noT 7) 7 [.int .i64 me,.int .i64 id,.sb bl] [] (nilRes [.cellD 0 138 1,.cellD 0 139 1,.cell 0 147 76 5,.cell 0 148 46 7,.impC 0 134 [.i64] false true 2,.ipoC 0 143] K):=by apply Eq.mp (a:=hvc_); kernel_rfl
theorem vcLoadR (me id : Int) (l : List Int) (K : V→KB→Prop) (hvc_ :
 let z1_:=(V.tup [V.any (Value.pointer none),V.sb false]); let z2_:=V.arr 128 (List.replicate 128 (D.val (Value.int IntKind.u8 0))); (ints IntKind.u8 l).length ≤ 140737488355328 ∧
 ∃ (y1 : List Int),LsI (ints IntKind.u8 l) (ints IntKind.u8 l).length 0 y1 ∧
 ∀ (y2 : Int) (y3 : Nat) (y4 : Int),numQ y1 0 0 1099511627776 = (y2,y3,y4) →
 ∃ (y5 : List Int),LsI (ints IntKind.u8 y1) y1.length y3 y5 ∧
 ∀ (y6 : Int) (y7 : Nat) (y8 : Int),numQ y5 y3 y4 1099511627776 = (y6,y7,y8) →
 ∃ (y9 : List Int),LsI (ints IntKind.u8 y5) y5.length y7 y9 ∧
 ∀ (y10 : List Int) (y11 : Nat) (y12 : Int),textQ y9 y7 y8 (↑(ints IntKind.u8 l).length : Int) = (y10,y11,y12) →
 ∃ (y13 : List Int),LsI (ints IntKind.u8 y9) y9.length y11 y13 ∧
 ∀ (y14 : List Int) (y15 : Nat) (y16 : Int),textQ y13 y11 y12 (↑(ints IntKind.u8 l).length : Int) = (y14,y15,y16) →
 y10.length ≤ (ints IntKind.u8 y10).length ∧
 ∃ (y17 : List Int),List.drop 0 (List.take y10.length (ints IntKind.u8 y10)) = ints IntKind.u8 y17 ∧
 (∀ (y18 : Int),List.Mem y18 y17 →
 0 ≤ y18 ∧
 y18 < 256) ∧
 y17.length ≤ 900000 ∧
 (∀ (y19 : List Int),openI y17 = some y19 →
 y19.length = 128 →
 y14.length ≤ (ints IntKind.u8 y14).length ∧
 ∃ (y20 : List Int),List.drop 0 (List.take y14.length (ints IntKind.u8 y14)) = ints IntKind.u8 y20 ∧
 (∀ (y21 : Int),List.Mem y21 y20 →
 0 ≤ y21 ∧
 y21 < 256) ∧
 y20.length ≤ 140737488355328 ∧
 (((∃ (y22 : List L3),OkX y22 ∧
 y20 = tabW y22) →
 False) →
 ∃ (y23 : List Int),LsI (ints IntKind.u8 y13) y13.length y15 y23 ∧
 ∀ (y24 : Int),rEnd (List.drop y15 y23) y16 = y24 →
 ((y24 != 0) = true →
 K z1_ []) ∧
 ((y24 != 0) = false →
 (false = true →
 K z1_ []) ∧
 (false = false →
 (true = true →
 K z1_ []) ∧
 (true = false →
 V.any (Value.map none) = V.any (Value.map none) ∧
 K (V.tup [V.ptr 0 0,V.sb true]) [KO.cells [V.int IntKind.i64 me,V.int IntKind.i64 id,V.sb false,V.sb false,V.int IntKind.i64 y2,V.int IntKind.i64 y6,V.arr 128 (dns IntKind.u8 y19),V.any (Value.map none),V.int IntKind.i64 0,V.int IntKind.i64 0,V.int IntKind.i64 0,V.dat (D.sl 1 []),V.dat (D.sl 1 []),V.sb false,V.any (Value.map none),V.any (Value.map none),V.ipo none,V.int IntKind.i64 0,V.sb false,V.int IntKind.i64 0,V.sl 1 0 0,V.sl 2 0 0],KO.row 76 5 [],KO.row 46 7 []])))) ∧
 ∀ (y25 : List L3) (y26 : ML),Tab y26 y25 →
 y20 = tabW y25 →
 ∃ (y27 : List Int),LsI (ints IntKind.u8 y13) y13.length y15 y27 ∧
 ∀ (y28 : Int),rEnd (List.drop y15 y27) y16 = y28 →
 ((y28 != 0) = true →
 K z1_ []) ∧
 ((y28 != 0) = false →
 (false = true →
 K z1_ []) ∧
 (false = false →
 (false = true →
 K z1_ []) ∧
 (false = false →
 K (V.tup [V.ptr 0 0,V.sb true]) [KO.cells [V.int IntKind.i64 me,V.int IntKind.i64 id,V.sb false,V.sb false,V.int IntKind.i64 y2,V.int IntKind.i64 y6,V.arr 128 (dns IntKind.u8 y19),tbV y26,V.int IntKind.i64 0,V.int IntKind.i64 0,V.int IntKind.i64 0,V.dat (D.sl 1 []),V.dat (D.sl 1 []),V.sb false,V.any (Value.map none),V.any (Value.map none),V.ipo none,V.int IntKind.i64 0,V.sb false,V.int IntKind.i64 0,V.sl 1 0 0,V.sl 2 0 0],KO.row 76 5 [],KO.row 46 7 []] ∧
 K (V.tup [V.ptr 0 0,V.sb true]) [KO.cells [V.int IntKind.i64 me,V.int IntKind.i64 id,V.sb false,V.sb false,V.int IntKind.i64 y2,V.int IntKind.i64 y6,V.arr 128 (dns IntKind.u8 y19),tbV y26,V.int IntKind.i64 0,V.int IntKind.i64 0,V.int IntKind.i64 0,V.dat (D.sl 1 []),V.dat (D.sl 1 []),V.sb false,V.any (Value.map none),V.any (Value.map none),V.ipo none,V.int IntKind.i64 0,V.sb false,V.int IntKind.i64 0,V.sl 1 0 0,V.sl 2 0 0],KO.row 76 5 [],KO.row 46 7 []])))) ∧
 ((∀ (y29 : List Int),openI y17 = some y29 →
 y29.length = 128 →
 False) →
 y14.length ≤ (ints IntKind.u8 y14).length ∧
 ∃ (y30 : List Int),List.drop 0 (List.take y14.length (ints IntKind.u8 y14)) = ints IntKind.u8 y30 ∧
 (∀ (y31 : Int),List.Mem y31 y30 →
 0 ≤ y31 ∧
 y31 < 256) ∧
 y30.length ≤ 140737488355328 ∧
 (((∃ (y32 : List L3),OkX y32 ∧
 y30 = tabW y32) →
 False) →
 ∃ (y33 : List Int),LsI (ints IntKind.u8 y13) y13.length y15 y33 ∧
 ∀ (y34 : Int),rEnd (List.drop y15 y33) y16 = y34 →
 ((y34 != 0) = true →
 K z1_ []) ∧
 ((y34 != 0) = false →
 (true = true →
 K z1_ []) ∧
 (true = false →
 (true = true →
 K z1_ []) ∧
 (true = false →
 V.any (Value.map none) = V.any (Value.map none) ∧
 K (V.tup [V.ptr 0 0,V.sb true]) [KO.cells [V.int IntKind.i64 me,V.int IntKind.i64 id,V.sb false,V.sb false,V.int IntKind.i64 y2,V.int IntKind.i64 y6,z2_,V.any (Value.map none),V.int IntKind.i64 0,V.int IntKind.i64 0,V.int IntKind.i64 0,V.dat (D.sl 1 []),V.dat (D.sl 1 []),V.sb false,V.any (Value.map none),V.any (Value.map none),V.ipo none,V.int IntKind.i64 0,V.sb false,V.int IntKind.i64 0,V.sl 1 0 0,V.sl 2 0 0],KO.row 76 5 [],KO.row 46 7 []])))) ∧
 ∀ (y35 : List L3) (y36 : ML),Tab y36 y35 →
 y30 = tabW y35 →
 ∃ (y37 : List Int),LsI (ints IntKind.u8 y13) y13.length y15 y37 ∧
 ∀ (y38 : Int),rEnd (List.drop y15 y37) y16 = y38 →
 ((y38 != 0) = true →
 K z1_ []) ∧
 ((y38 != 0) = false →
 (true = true →
 K z1_ []) ∧
 (true = false →
 (false = true →
 K z1_ []) ∧
 (false = false →
 K (V.tup [V.ptr 0 0,V.sb true]) [KO.cells [V.int IntKind.i64 me,V.int IntKind.i64 id,V.sb false,V.sb false,V.int IntKind.i64 y2,V.int IntKind.i64 y6,z2_,tbV y36,V.int IntKind.i64 0,V.int IntKind.i64 0,V.int IntKind.i64 0,V.dat (D.sl 1 []),V.dat (D.sl 1 []),V.sb false,V.any (Value.map none),V.any (Value.map none),V.ipo none,V.int IntKind.i64 0,V.sb false,V.int IntKind.i64 0,V.sl 1 0 0,V.sl 2 0 0],KO.row 76 5 [],KO.row 46 7 []] ∧
 K (V.tup [V.ptr 0 0,V.sb true]) [KO.cells [V.int IntKind.i64 me,V.int IntKind.i64 id,V.sb false,V.sb false,V.int IntKind.i64 y2,V.int IntKind.i64 y6,z2_,tbV y36,V.int IntKind.i64 0,V.int IntKind.i64 0,V.int IntKind.i64 0,V.dat (D.sl 1 []),V.dat (D.sl 1 []),V.sb false,V.any (Value.map none),V.any (Value.map none),V.ipo none,V.int IntKind.i64 0,V.sb false,V.int IntKind.i64 0,V.sl 1 0 0,V.sl 2 0 0],KO.row 76 5 [],KO.row 46 7 []]))))
 ) : runSpec Try.prog XLo (noT 18) 18 [.int .i64 me,.int .i64 id,.dat (.sl 1 (ints .u8 l))] [] K:=by apply Eq.mp (a:=hvc_); kernel_rfl
theorem bytA {a b : List Int} (ha : Byt a) (hb : Byt b) : Byt (a ++ b):=fun c hc => (List.mem_append.1 hc).elim (ha c) (hb c)
theorem numQ_b {l : List Int} (hb : Byt l) {lo : Nat} {e m v e' : Int} {p : Nat} (hlo : lo ≤ l.length) (h : numQ l lo e m = (v,p,e')) : p ≤ l.length:=by
  have:=num_b hb (p:=(lo,e)) hlo m
  unfold numQ at h
  simp only [Prod.mk.injEq] at h
  obtain ⟨-,h2,-⟩:=h
  rw [← h2]; exact this
theorem numQ_ok {l : List Int} (hb : Byt l) {lo : Nat} {e m v : Int} {p : Nat} (hm : 0 ≤ m) (h : numQ l lo e m = (v,p,0)) : e = 0∧l.drop lo = numW v ++ l.drop p∧0 ≤ v∧v ≤ m:=by
  unfold numQ at h
  simp only [Prod.mk.injEq] at h
  obtain ⟨h1,h2,h3⟩:=h
  have hs : (numSt l (lo,e) m).2 = 0:=h3
  have k1:=num_sk hs
  have k2:=num_ok hb hs
  have k3:=rNum_most (l:=l.drop lo) hm e
  refine ⟨k1,?_,by rw [← h1]; exact k3.2,by rw [← h1]; exact k3.1⟩
  rw [← h1,← h2]
  exact k2
theorem numQ_app {pre rest : List Int} {v m : Int} (h0 : 0 ≤ v) (hm : v ≤ m) (h : m ≤ 9223372036854775807) : numQ (pre ++ (numW v ++ rest)) pre.length 0 m = (v,(pre ++ numW v).length,0):=by
  have:=num_app (pre:=pre) (rest:=rest) h0 (by omega) hm
  unfold numSt numAt at this
  simp only [Prod.mk.injEq] at this
  unfold numQ
  rw [this.2,this.1.1,this.1.2]
theorem rText_e' {l : List Int} {e most : Int} (h : e ≠ 0) : rText l e most = ([],0,e):=by
  unfold rText
  rw [rNum_e h]
  simp [h]
theorem rText_all {l : List Int} (hb : Byt l) (e m : Int) : (rText l e m).1.length ≤ l.length∧(rText l e m).2.1 ≤ l.length∧Byt (rText l e m).1:=by
  have k:=(rNum_val hb e m).2.2
  unfold rText
  split
  · split
    · exact ⟨Nat.zero_le _,k,fun c hc => by cases hc⟩
    · rename_i h2
      rw [List.length_drop] at h2
      refine ⟨by rw [List.length_take,List.length_drop]; omega,by simp only; omega,Byt.take (byt_drop hb _) _⟩
  · exact ⟨Nat.zero_le _,k,fun c hc => by cases hc⟩
theorem textQ_b {l : List Int} (hb : Byt l) {lo : Nat} {e m e' : Int} {t : List Int} {p : Nat} (hlo : lo ≤ l.length) (h : textQ l lo e m = (t,p,e')) : p ≤ l.length∧t.length ≤ l.length∧Byt t:=by
  have:=rText_all (byt_drop hb lo) e m
  rw [List.length_drop] at this
  unfold textQ at h
  simp only [Prod.mk.injEq] at h
  obtain ⟨h1,h2,-⟩:=h
  rw [← h1,← h2]
  exact ⟨by omega,by omega,this.2.2⟩
theorem textQ_ok {l : List Int} (hb : Byt l) {lo : Nat} {e m : Int} {t : List Int} {p : Nat} (hm : 0 ≤ m) (h : textQ l lo e m = (t,p,0)) : e = 0∧l.drop lo = textW t ++ l.drop p:=by
  unfold textQ at h
  simp only [Prod.mk.injEq] at h
  obtain ⟨h1,h2,h3⟩:=h
  have he : e = 0:=Classical.byContradiction fun f => by
    rw [rText_e' f] at h3; exact f h3
  subst he
  refine ⟨rfl,?_⟩
  unfold rText at h1 h2 h3
  split at h3
  · rename_i hn
    rw [if_pos hn] at h1 h2
    split at h3
    · cases h3
    · rename_i hl
      rw [if_neg hl] at h1 h2
      obtain ⟨-,k1,k2,-⟩:=numQ_ok (lo:=lo) (e:=0) (m:=m) (v:=(rNum (l.drop lo) 0 m).1) (p:=lo + (rNum (l.drop lo) 0 m).2.1) hb hm (by unfold numQ; rw [hn])
      simp only at h1 h2
      have hlen : (t.length : Int) = (rNum (l.drop lo) 0 m).1:=by
        rw [← h1,List.length_take]
        omega
      unfold textW
      rw [hlen,List.append_assoc]
      have e2 : t ++ l.drop p = l.drop (lo + (rNum (l.drop lo) 0 m).2.1):=by
        rw [← h1,← h2,← Nat.add_assoc,← List.drop_drop,← List.drop_drop,List.take_append_drop]
      rw [e2]
      exact k1
  · rename_i hn
    exact absurd h3 hn
theorem textQ_app {pre rest b : List Int} {m : Int} (hm : (b.length : Int) ≤ m) (h : m ≤ 9223372036854775807) : textQ (pre ++ (textW b ++ rest)) pre.length 0 m = (b,(pre ++ textW b).length,0):=by
  unfold textQ
  rw [List.drop_left,rText_app hm (by omega),List.length_append]
structure IsRep (l : List Int) (ep nu : Int) (c : List Int) (x : List L3) : Prop where
  e : l = repW ep nu c x
  e0 : 0 ≤ ep
  e1 : ep ≤ 1099511627776
  n0 : 0 ≤ nu
  n1 : nu ≤ 1099511627776
  cl : c.length = 128
  x : OkX x
structure PrsA (l : List Int) (v v1 : Int) (t t1 : List Int) (e : Int) : Prop where
  back : e = 0→∀ c x,t = sealI c→c.length = 128→t1 = tabW x→OkX x→IsRep l v v1 c x
  fwd : ∀ ep nu c x,IsRep l ep nu c x→v = ep∧v1 = nu∧t = sealI c∧t1 = tabW x∧e = 0
theorem prsA {l : List Int} (hb : Byt l) (hl : l.length ≤ 900000) {v v1 : Int} {t t1 : List Int} {p p1 p2 p3 : Nat} {e e1 e2 e3 e4 : Int} (h1 : numQ l 0 0 1099511627776 = (v,p,e)) (h2 : numQ l p e 1099511627776 = (v1,p1,e1)) (h3 : textQ l p1 e1 l.length = (t,p2,e2)) (h4 : textQ l p2 e2 l.length = (t1,p3,e3)) (h5 : rEnd (l.drop p3) e3 = e4) : PrsA l v v1 t t1 e4:=by
  refine ⟨fun h c x ht hc ht1 hx => ?_,fun ep nu c x hr => ?_⟩
  · subst h
    obtain ⟨rfl,q5⟩:=rEnd_0 h5
    obtain ⟨rfl,q4⟩:=textQ_ok hb (by omega) h4
    obtain ⟨rfl,q3⟩:=textQ_ok hb (by omega) h3
    obtain ⟨rfl,q2,k1,k2⟩:=numQ_ok hb (by omega) h2
    obtain ⟨-,q1,k3,k4⟩:=numQ_ok hb (by omega) h1
    refine ⟨?_,k3,k4,k1,k2,hc,hx⟩
    rw [List.drop_zero] at q1
    unfold repW
    rw [q1,q2,q3,q4,q5,List.append_nil,ht,ht1]
  · obtain ⟨rfl,a0,a1,a2,a3,a4,a5⟩:=hr
    have hlen : (sealI c).length ≤ (repW ep nu c x).length∧(tabW x).length ≤ (repW ep nu c x).length:=by
      unfold repW textW; simp only [List.length_append]; omega
    have b1:=numQ_app (pre:=[]) (rest:=numW nu ++ (textW (sealI c) ++ textW (tabW x))) a0 a1 (by omega)
    rw [List.nil_append] at b1
    have c1 : numQ (repW ep nu c x) 0 0 1099511627776 = (ep,([] ++ numW ep).length,0):=b1
    rw [c1] at h1
    simp only [Prod.mk.injEq] at h1
    obtain ⟨rfl,rfl,rfl⟩:=h1
    have b2:=numQ_app (pre:=[] ++ numW ep) (rest:=textW (sealI c) ++ textW (tabW x)) a2 a3 (by omega)
    have c2 : numQ (repW ep nu c x) ([] ++ numW ep).length 0 1099511627776 = (nu,([] ++ numW ep ++ numW nu).length,0):=b2
    rw [c2] at h2
    simp only [Prod.mk.injEq] at h2
    obtain ⟨rfl,rfl,rfl⟩:=h2
    have b3:=textQ_app (pre:=[] ++ numW ep ++ numW nu) (b:=sealI c) (rest:=textW (tabW x)) (m:=((repW ep nu c x).length : Int)) (by omega) (by omega)
    have r3 : [] ++ numW ep ++ numW nu ++ (textW (sealI c) ++ textW (tabW x)) = repW ep nu c x:=by unfold repW; simp [List.append_assoc]
    rw [r3] at b3
    rw [b3] at h3
    simp only [Prod.mk.injEq] at h3
    obtain ⟨rfl,rfl,rfl⟩:=h3
    have b4:=textQ_app (pre:=[] ++ numW ep ++ numW nu ++ textW (sealI c)) (b:=tabW x) (rest:=[]) (m:=((repW ep nu c x).length : Int)) (by omega) (by omega)
    have r4 : [] ++ numW ep ++ numW nu ++ textW (sealI c) ++ (textW (tabW x) ++ []) = repW ep nu c x:=by unfold repW; simp [List.append_assoc]
    rw [r4] at b4
    rw [b4] at h4
    simp only [Prod.mk.injEq] at h4
    obtain ⟨rfl,rfl,rfl⟩:=h4
    refine ⟨rfl,rfl,rfl,rfl,?_⟩
    rw [← h5]
    have r5 : repW ep nu c x = [] ++ numW ep ++ numW nu ++ textW (sealI c) ++ textW (tabW x):=by rw [← r4,List.append_nil]
    rw [r5,List.drop_length]
    rfl
theorem repW_len (ep nu : Int) {c : List Int} (hc : c.length = 128) {x : List L3} (hx : x.length ≤ 32) : (repW ep nu c x).length ≤ 2000:=by
  have h1:=numW_len ep
  have h2:=numW_len nu
  have h3:=textW_len (sealI c)
  have h4:=textW_len (tabW x)
  have h5:=tabI_len hx x.length
  rw [tabI_all] at h5
  rw [sealI_len,hc] at h3
  unfold repW; simp only [List.length_append]; omega
theorem tabW_byt {x : List L3} (h : OkX x) : Byt (tabW x):=by
  unfold tabW catP
  refine bytA (numW_byt (by have:=h.len; omega)) fun c hc => ?_
  simp only [List.mem_flatten,List.mem_map] at hc
  obtain ⟨_,⟨p,hp,rfl⟩,hc⟩:=hc
  have hr:=h.rg p hp
  unfold trW at hc
  simp only [List.mem_append] at hc
  rcases hc with (hc | hc) | hc
  · exact numW_byt (by omega) c hc
  · exact numW_byt (by omega) c hc
  · exact numW_byt (by omega) c hc
theorem repW_byt {ep nu : Int} {c : List Int} {x : List L3} (h1 : ep ≤ 9223372036854775807) (h2 : nu ≤ 9223372036854775807) (hc : c.length = 128) (hb : Byt c) (hx : OkX x) : Byt (repW ep nu c x):=by
  have h5:=tabI_len hx.len x.length
  rw [tabI_all] at h5
  exact bytA (numW_byt h1) (bytA (numW_byt h2) (bytA (textW_byt (sealI_byt hb) (by rw [sealI_len]; omega)) (textW_byt (tabW_byt hx) (by omega))))
theorem okNumQ : SpecOk Try.prog 43 SrNumQ:=fun args kb K h => okNum args kb K (by
  unfold SrNumQ at h
  unfold SrNum
  split at h <;> try exact h.elim
  obtain ⟨l,h1,h2⟩:=h
  exact ⟨l,h1.e,h1.h,h1.lo,h1.b,h1.m,h2 _ _ _ rfl⟩)
theorem okTextQ : SpecOk Try.prog 44 SrTextQ:=fun args kb K h => okText args kb K (by
  unfold SrTextQ at h
  unfold SrText
  split at h <;> try exact h.elim
  obtain ⟨l,h1,h2⟩:=h
  exact ⟨l,h1.e,h1.h,h1.lo,h1.b,h1.m,h2 _ _ _ rfl⟩)
theorem okEndQ : SpecOk Try.prog 47 SrEndQ:=fun args kb K h => okEnd args kb K (by
  unfold SrEndQ at h
  unfold SrEnd
  split at h <;> try exact h.elim
  obtain ⟨l,h1,h2⟩:=h
  exact ⟨l,h1.e,h1.h,h2 _ rfl⟩)
theorem bySR_ok : AllOk Try.prog bySR:=fun f k h => by
  unfold bySR at h
  split at h
  · cases h; exact hideIn_ok okBytes _
  · cases h; exact hideIn_ok okTBytesR _
  · exact pkS_ok _ _ h
theorem XBy_ok : CallOk Try.prog XBy:=callS_ok mixed bySR_ok noT 10
theorem okNew : SpecOk Try.prog 7 SNew:=specOk_nil X0_ok mixed [.cellD 0 138 1,.cellD 0 139 1,.cell 0 147 76 5,.cell 0 148 46 7,.impC 0 134 [.i64] false true 2,.ipoC 0 143] (fun args kb K h => by
  unfold SNew at h; split at h <;> try exact h.elim
  exact ⟨_,vcNew _ _ _ K h⟩)
theorem loSR_ok : AllOk Try.prog loSR:=fun f k h => by
  unfold loSR at h
  split at h
  · cases h; exact okNew
  · cases h; exact okNumQ
  · cases h; exact okTextQ
  · cases h; exact okEndQ
  · cases h; exact okPRead
  · cases h; exact okBLoad
  · cases h; exact okLoad
  · cases h
theorem XLo_ok : CallOk Try.prog XLo:=callS_ok mixed loSR_ok noT 10
def SRLoad : FSpec:=fun args kb K => match args,kb with
  | [.int .i64 me,.int .i64 id,.dat (.sl 1 B)],[] => ∃ l,B = ints .u8 l∧Byt l∧l.length ≤ 900000 ∧
      ((¬ ∃ ep nu c x,IsRep l ep nu c x)→K (.tup [.any (.pointer none),.sb false]) []) ∧
      ∀ ep nu c x M,IsRep l ep nu c x→Tab M x→K (.tup [.ptr 0 0,.sb true]) [newK me id false ep nu c M,.row 76 5 [],.row 46 7 []]
  | _,_ => False
theorem okRLoad : SpecOk Try.prog 18 SRLoad:=specOk_of' XLo_ok mixed (fun args kb K h => by
  unfold SRLoad at h; split at h <;> try exact h.elim
  obtain ⟨l,rfl,hb,hl,hno,h1⟩:=h
  refine ⟨_,vcLoadR _ _ l K ?_⟩
  have hk : ∀ {lo : Nat},lo ≤ l.length→LsI (ints .u8 l) l.length lo l:=fun h => ⟨rfl,rfl,h,hb,by omega⟩
  have tk : ∀ t : List Int,List.drop 0 (List.take t.length (ints .u8 t)) = ints .u8 t:=fun t => by rw [List.drop_zero,List.take_of_length_le (by rw [ints_len]; omega)]
  simp only [ints_len]
  refine ⟨by omega,l,hk (Nat.zero_le _),fun v p e q1 => ?_⟩
  have b1:=numQ_b hb (Nat.zero_le _) q1
  refine ⟨l,hk b1,fun v1 p1 e1 q2 => ?_⟩
  have b2:=numQ_b hb b1 q2
  refine ⟨l,hk b2,fun t p2 e2 q3 => ?_⟩
  have b3:=textQ_b hb b2 q3
  refine ⟨l,hk b3.1,fun t1 p3 e3 q4 => ?_⟩
  have b4:=textQ_b hb b3.1 q4
  have fin : ∀ e4,rEnd (l.drop p3) e3 = e4→PrsA l v v1 t t1 e4:=fun e4 q5 => prsA hb hl q1 q2 q3 q4 q5
  refine ⟨Nat.le_refl _,t,tk t,b3.2.2,by omega,fun m hm hm8 => ⟨Nat.le_refl _,t1,tk t1,b4.2.2,by omega,fun hnx => ⟨l,hk b4.1,fun e4 q5 => ?_⟩,fun x M hT hxe => ⟨l,hk b4.1,fun e4 q5 => ?_⟩⟩,fun hnm => ?_⟩
  · have no : K (.tup [.any (.pointer none),.sb false]) []:=hno fun ⟨ep,nu,c,x,hr⟩ => by
      obtain ⟨-,-,-,k4,-⟩:=(fin e4 q5).fwd _ _ _ _ hr
      exact hnx ⟨x,hr.x,k4⟩
    exact ⟨fun _ => no,fun _ => ⟨fun q => (by cases q),fun _ => ⟨fun _ => no,fun q => (by cases q)⟩⟩⟩
  · have F:=fin e4 q5
    refine ⟨fun hne => hno fun ⟨ep,nu,c,x,hr⟩ => ?_,fun he => ⟨fun q => (by cases q),fun _ => ⟨fun q => (by cases q),fun _ => ?_⟩⟩⟩
    · obtain ⟨-,-,-,-,k⟩:=F.fwd _ _ _ _ hr
      rw [k] at hne; simp at hne
    · have he : e4 = 0:=by simpa using he
      have k:=h1 v v1 m x M (F.back he m x (openI_some hm) hm8 hxe hT.ok) hT
      exact ⟨k,k⟩
  · have no : K (.tup [.any (.pointer none),.sb false]) []:=hno fun ⟨ep,nu,c,x',hr⟩ => by
      obtain ⟨-,-,k3,-,-⟩:=(fin _ rfl).fwd _ _ _ _ hr
      exact hnm c (by rw [k3,openI_seal]) hr.cl
    exact ⟨Nat.le_refl _,t1,tk t1,b4.2.2,by omega,fun _ => ⟨l,hk b4.1,fun e4 q5 => ⟨fun _ => no,fun _ => ⟨fun _ => no,fun q => (by cases q)⟩⟩⟩,fun x M hT hxe => ⟨l,hk b4.1,fun e4 q5 => ⟨fun _ => no,fun _ => ⟨fun _ => no,fun q => (by cases q)⟩⟩⟩⟩)
def newR (me id : Int) (bl : Bool) (ep nu : Int) (c : List Int) (x : List L3) : Rep:=⟨me,id,ep,nu,0,0,bl,false,false,c,x,⟨0,0,0,[],[]⟩,none,[],[]⟩
theorem rep_new (me id : Int) (bl : Bool) (ep nu : Int) (c : List Int) {x : List L3} {M : ML} (hM : Tab M x) : RepKB (newR me id bl ep nu c x) [newK me id bl ep nu c M,.row 76 5 [],.row 46 7 []]:=by
  unfold RepKB newR
  exact ⟨_,_,M,hM,rfl⟩
theorem repOk_new (me id : Int) (bl : Bool) (ep : Int) {nu : Int} {c : List Int} (x : List L3) (h0 : 0 ≤ nu) (h1 : nu ≤ 2199023255552) (hc : c.length = 128) (hb : Byt c) : RepOk (newR me id bl ep nu c x) :=
  ⟨hc,hb,h0,h1,Nat.zero_le _,Nat.zero_le _,Nat.zero_le _,fun o h => by simp [newR,curR] at h⟩
theorem rBytes_n (R : Rep) (T : ML) (a14 a15 : Value) (hT : Tab T R.t) (hl : R.ld = none) (hR : RepOk R) (hE : LeM R.ep) (K : V→KB→Prop) (hK : ∀ kb',RepKB R kb'→K (.dat (.sl 1 (ints .u8 (bytesR R)))) kb') : runSpec Try.prog XBy (noT 19) 19 [.ptr 0 0] [cR R (tbV T) (.sb false) (.any a14) (.any a15) (.ipo none) (.sl 1 0 (nO R)) (.sl 2 0 (nD R)),rO R,rD R] (gvRes [.give 1] (rootRes K)):=by
  have hN : LeM R.nu:=⟨by have:=hR.n1; omega⟩
  have e1:=takeD (sealI_len' hR.cl).symm
  have e2:=takeD (l:=tabW R.t) rfl
  have w1:=numW_len R.ep
  have w2:=numW_len R.nu
  have w3:=textW_len (sealI R.c)
  have w4:=textW_len (tabW R.t)
  have w5:=tabI_len hT.len R.t.length
  rw [tabI_all] at w5
  have w6:=sealI_len' hR.cl
  refine vcBytes_n R T a14 a15 K ⟨[],rfl,rfl,Nat.zero_le _,hE,[] ++ numW R.ep,rfl,rfl,by rw [List.length_append,List.length_nil]; omega,hN,fun f => ⟨R.c,rfl,hR.cl,fun c h => hR.cb c h,⟨by simp [SameL]⟩,⟨by rw [ints_len,w6]; exact Nat.le_refl _,trivial⟩,[] ++ numW R.ep ++ numW R.nu,sealI R.c,rfl,e1,rfl,by simp only [List.length_append,List.length_nil]; omega,by omega,⟨plain_ints⟩,fun f => ⟨R.t,hT,⟨by simp [SameL]⟩,⟨by rw [ints_len]; exact Nat.le_refl _,trivial⟩,[] ++ numW R.ep ++ numW R.nu ++ textW (sealI R.c),tabW R.t,rfl,e2,rfl,by simp only [List.length_append,List.length_nil]; omega,by omega,⟨plain_ints⟩,_,rfl,rfl,by simp only [List.length_append,List.length_nil]; omega,by rw [ints_len]; exact Nat.le_refl _,?_⟩⟩⟩
  rw [takeD rfl]
  have eb : [] ++ numW R.ep ++ numW R.nu ++ textW (sealI R.c) ++ textW (tabW R.t) = bytesR R:=by
    unfold bytesR repW tabR; simp [List.append_assoc]
  rw [eb]
  refine hK _ ?_
  unfold RepKB
  simp only [hl]
  exact ⟨a14,a15,T,hT,rfl⟩
theorem rBytes_l (R : Rep) (T : ML) (I Q : ML) (L : Lead) (hT : Tab T R.t) (hl : R.ld = some L) (hI : MB I L.ins) (hQ : MB Q L.acks) (hR : RepOk R) (hE : LeM R.ep) (K : V→KB→Prop) (hK : ∀ kb',RepKB R kb'→K (.dat (.sl 1 (ints .u8 (bytesR R)))) kb') : runSpec Try.prog XBy (noT 19) 19 [.ptr 0 0] [cR R (tbV T) (.sb true) (.mp 1) (.mp 2) (.ipo (L.cur.map opD)) (.sl 3 0 (nO R)) (.sl 4 0 (nD R)),mpF I,mpF Q,rO R,rD R] (gvRes [.give 1] (rootRes K)):=by
  have hN : LeM R.nu:=⟨by have:=hR.n1; omega⟩
  have e1:=takeD (sealI_len' hR.cl).symm
  have e2:=takeD (l:=tabW R.t) rfl
  have w1:=numW_len R.ep
  have w2:=numW_len R.nu
  have w3:=textW_len (sealI R.c)
  have w4:=textW_len (tabW R.t)
  have w5:=tabI_len hT.len R.t.length
  rw [tabI_all] at w5
  have w6:=sealI_len' hR.cl
  refine vcBytes_l R T I Q (L.cur.map opD) K ⟨[],rfl,rfl,Nat.zero_le _,hE,[] ++ numW R.ep,rfl,rfl,by rw [List.length_append,List.length_nil]; omega,hN,fun f => ⟨R.c,rfl,hR.cl,fun c h => hR.cb c h,⟨by simp [SameL]⟩,⟨by rw [ints_len,w6]; exact Nat.le_refl _,trivial⟩,[] ++ numW R.ep ++ numW R.nu,sealI R.c,rfl,e1,rfl,by simp only [List.length_append,List.length_nil]; omega,by omega,⟨plain_ints⟩,fun f => ⟨R.t,hT,⟨by simp [SameL]⟩,⟨by rw [ints_len]; exact Nat.le_refl _,trivial⟩,[] ++ numW R.ep ++ numW R.nu ++ textW (sealI R.c),tabW R.t,rfl,e2,rfl,by simp only [List.length_append,List.length_nil]; omega,by omega,⟨plain_ints⟩,_,rfl,rfl,by simp only [List.length_append,List.length_nil]; omega,by rw [ints_len]; exact Nat.le_refl _,?_⟩⟩⟩
  rw [takeD rfl]
  have eb : [] ++ numW R.ep ++ numW R.nu ++ textW (sealI R.c) ++ textW (tabW R.t) = bytesR R:=by
    unfold bytesR repW tabR; simp [List.append_assoc]
  rw [eb]
  refine hK _ ?_
  unfold RepKB
  simp only [hl]
  exact ⟨I,Q,T,hI,hQ,hT,rfl⟩
def Mbytes : FSpec:=fun args kb K => ∃ R,args = [.ptr 0 0]∧RepKB R kb∧RepOk R∧LeM R.ep∧∀ kb',RepKB R kb'→K (.dat (.sl 1 (ints .u8 (bytesR R)))) kb'
set_option maxHeartbeats 4000000 in
theorem okBytesM : MethOk Try.prog 19 Mbytes:=methOk_runG mixed [.give 1] [] (fun args kb K h => by
  obtain ⟨R,rfl,hkb,hR,hE,hK⟩:=h
  have hkb0:=hkb
  unfold RepKB at hkb
  split at hkb
  · rename_i hl
    obtain ⟨a14,a15,T,hT,rfl⟩:=hkb
    exact ⟨_,_,XBy_ok,rBytes_n R T a14 a15 hT hl hR hE K hK⟩
  · rename_i L hl
    obtain ⟨I,Q,T,hI,hQ,hT,rfl⟩:=hkb
    exact ⟨_,_,XBy_ok,rBytes_l R T I Q L hT hl hI hQ hR hE K hK⟩)
end Go.Proofs.Ytfcjngcnifdmnaa
