import Derived.Test.YtlompcfnjfjaeaaRows
import Derived.Test.YtlompcfnjfjaeaaVcN
namespace Go.Proofs.Ytlompcfnjfjaeaa
open Vc Go

def rightB (t v : Int) : Bool := decide (0 ≤ t) && (decide (t ≤ 1099511627776) && (decide (-1 ≤ v) && decide (v ≤ 15)))
def newB (a b c d : Int) : Bool := decide (c < a) || (decide (a = c) && decide (d ≤ b))
def seeT (t term : Int) : Int := if t < term then term else t
def seeV (t v term : Int) : Int := if t < term then -1 else v
def okB (t v term who : Int) (n : Bool) : Bool := decide (seeT t term = term) && (n && (decide (0 ≤ who) && (decide (who ≤ 15) && (decide (seeV t v term = -1) || decide (seeV t v term = who)))))
def graV (t v term who : Int) (n : Bool) : Int := if okB t v term who n = true then who else seeV t v term

def S7 : FSpec := fun args kb K => match args, kb with | [.agg [.int .i64 t, .int .i64 v]], [] => K (.sb (rightB t v)) [] | _, _ => False
def S15 : FSpec := fun args kb K => match args, kb with | [.int .i64 a, .int .i64 b, .int .i64 c, .int .i64 d], [] => K (.sb (newB a b c d)) [] | _, _ => False
def S13 : FSpec := fun args kb K => match args, kb with | [.agg [.int .i64 t, .int .i64 v], .int .i64 term], [] => K (.agg [.int .i64 (seeT t term), .int .i64 (seeV t v term)]) [] | _, _ => False
def S9 : FSpec := fun args kb K => match args, kb with
  | [.agg [.int .i64 t, .int .i64 v], .int .i64 term, .int .i64 who, .sb n], [] => K (.tup [.agg [.int .i64 (seeT t term), .int .i64 (graV t v term who n)], .sb (okB t v term who n)]) []
  | _, _ => False
def S8 : FSpec := fun args kb K => match args, kb with | [], [] => K (.sb true) [] | _, _ => False
def noT : FuncId → Nat → Option LI := fun _ _ => none
def noS : FuncId → Option Known := fun _ => none
def ballotS : FuncId → Option Known
  | 7 => some ⟨[], S7⟩
  | 8 => some ⟨[], S8⟩
  | 9 => some ⟨[], S9⟩
  | 11 => some ⟨[], S9⟩
  | 12 => some ⟨[], S7⟩
  | 13 => some ⟨[], S13⟩
  | 14 => some ⟨[], S13⟩
  | 15 => some ⟨[], S15⟩
  | _ => none
noncomputable def X0 : CallT := callS Try.prog noS noT 10
noncomputable def X1 : CallT := callS Try.prog ballotS noT 10
end Go.Proofs.Ytlompcfnjfjaeaa
