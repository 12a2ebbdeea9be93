/-
  No cell of these rows narrows 'for every input' (looked for: loops, veiled, ifaces, maps, wideKeys, modest, calm, conditions, laid).
  DERIVED. THE GIVEN ROWS OF THIS SEAT. 4 by the template 'for every input the law returns true; each argument reads behind the call as it read before'; 0 by the template 'total and deterministic' (their statements: YtgadaeodoapgiaaTotals.lean).
  GIVEN WITH THE SEED: the statements are not yours to turn. If you find one false, say at which input.
  Laid BY PROGRAM, IN A SANDBOX (cutbox-rows.mjs): the forced cells as the released guide's own fill.sh prints them over the translation 0b0d2add5db79e0b… (all of the seat's roots in one cut). By AI agents, Wed Nov 11 2026. No macro, syntax, notation, axiom, sorry.
-/
import Derived.Test.YtgadaeodoapgiaaChecked
import GoSem.Claim
import GoSem.ClaimJoined
import GoSem.ClaimMapViews
import Derived.JoinedTies
import Derived.KernelRfl
namespace Go.Proofs.Ytgadaeodoapgiaa
/- THE CELL 'sum', in the pinned program and in every row, IS THE sha256 OF THE DUMP (.gsa) THAT YtgadaeodoapgiaaProg.lean LOADS. Nothing in Lean hashes anything: it is a label: what it is worth is what the hold of that sum in a sandbox is worth. -/
noncomputable def Try.pinned : Pinned := { name := "ytgadaeodoapgiaa", sum := "0b0d2add5db79e0b926ca294bcd3ea6e3c54524eba260a5c53531c527e3fd399", checked := Try.checked }
namespace Rows
def none {H : Type} : Left H := { results := [], args := [] }

/-- 'dotterellaw20.StripeOnce': WHATEVER THE INPUT: true; the input reads as it did. -/
def stripeOnceSpec : ChangeSpec := { name := "stripeOnce", fn := fun _ => fun
  | [d1, d2] => { results := [.lit (.bool true)], args := [d1, d2] }
  | _ => none }
def stripeOnceRow : OpenClaim := { program := "ytgadaeodoapgiaa", sum := "0b0d2add5db79e0b926ca294bcd3ea6e3c54524eba260a5c53531c527e3fd399", func := "dotterel/dotterellaw20.StripeOnce", spec := "stripeOnce", apart := false }
def StripeOnceSaid : Prop := stripeOnceRow.holds Try.pinned (OpenSpec.ofChange stripeOnceSpec)

/-- ITS FALSE NEIGHBOUR: 'it returns false'. Refute it at one input. -/
def stripeOnceWrong : ChangeSpec := { name := "stripeOnce", fn := fun _ => fun
  | [d1, d2] => { results := [.lit (.bool false)], args := [d1, d2] }
  | _ => none }
def StripeOnceWrongFalsely : Prop := stripeOnceRow.holds Try.pinned (OpenSpec.ofChange stripeOnceWrong)

/-- 'dotterellaw20.StripeTells': WHATEVER THE INPUT: true; the input reads as it did. -/
def stripeTellsSpec : ChangeSpec := { name := "stripeTells", fn := fun _ => fun
  | [d1, d2, d3] => { results := [.lit (.bool true)], args := [d1, d2, d3] }
  | _ => none }
def stripeTellsRow : OpenClaim := { program := "ytgadaeodoapgiaa", sum := "0b0d2add5db79e0b926ca294bcd3ea6e3c54524eba260a5c53531c527e3fd399", func := "dotterel/dotterellaw20.StripeTells", spec := "stripeTells", apart := false }
def StripeTellsSaid : Prop := stripeTellsRow.holds Try.pinned (OpenSpec.ofChange stripeTellsSpec)

/-- ITS FALSE NEIGHBOUR: 'it returns false'. Refute it at one input. -/
def stripeTellsWrong : ChangeSpec := { name := "stripeTells", fn := fun _ => fun
  | [d1, d2, d3] => { results := [.lit (.bool false)], args := [d1, d2, d3] }
  | _ => none }
def StripeTellsWrongFalsely : Prop := stripeTellsRow.holds Try.pinned (OpenSpec.ofChange stripeTellsWrong)

/-- 'dotterellaw20.StripeWhere': WHATEVER THE INPUT: true; the input reads as it did. -/
def stripeWhereSpec : ChangeSpec := { name := "stripeWhere", fn := fun _ => fun
  | [d1, d2] => { results := [.lit (.bool true)], args := [d1, d2] }
  | _ => none }
def stripeWhereRow : OpenClaim := { program := "ytgadaeodoapgiaa", sum := "0b0d2add5db79e0b926ca294bcd3ea6e3c54524eba260a5c53531c527e3fd399", func := "dotterel/dotterellaw20.StripeWhere", spec := "stripeWhere", apart := false }
def StripeWhereSaid : Prop := stripeWhereRow.holds Try.pinned (OpenSpec.ofChange stripeWhereSpec)

/-- ITS FALSE NEIGHBOUR: 'it returns false'. Refute it at one input. -/
def stripeWhereWrong : ChangeSpec := { name := "stripeWhere", fn := fun _ => fun
  | [d1, d2] => { results := [.lit (.bool false)], args := [d1, d2] }
  | _ => none }
def StripeWhereWrongFalsely : Prop := stripeWhereRow.holds Try.pinned (OpenSpec.ofChange stripeWhereWrong)

/-- 'dotterellaw20.StripeBytes': WHATEVER THE INPUT: true; the input reads as it did. -/
def stripeBytesSpec : ChangeSpec := { name := "stripeBytes", fn := fun _ => fun
  | [d1, d2] => { results := [.lit (.bool true)], args := [d1, d2] }
  | _ => none }
def stripeBytesRow : OpenClaim := { program := "ytgadaeodoapgiaa", sum := "0b0d2add5db79e0b926ca294bcd3ea6e3c54524eba260a5c53531c527e3fd399", func := "dotterel/dotterellaw20.StripeBytes", spec := "stripeBytes", apart := false }
def StripeBytesSaid : Prop := stripeBytesRow.holds Try.pinned (OpenSpec.ofChange stripeBytesSpec)

/-- ITS FALSE NEIGHBOUR: 'it returns false'. Refute it at one input. -/
def stripeBytesWrong : ChangeSpec := { name := "stripeBytes", fn := fun _ => fun
  | [d1, d2] => { results := [.lit (.bool false)], args := [d1, d2] }
  | _ => none }
def StripeBytesWrongFalsely : Prop := stripeBytesRow.holds Try.pinned (OpenSpec.ofChange stripeBytesWrong)

/- THE SECOND FORM. 'bulk': how many values and letters a reading holds, each counted each time it is reached (what is shared counts as often as it is met; a slice's spare places count too). A statement '..UptoSaid' is the law's where the arguments, and the package variables that the reading takes, are together of bulk at most 1048576: NARROWER than '..Said'. Prove '..Said' where nothing that the law and all that it calls make is longer than what came in: it says more and counts as full. Else prove '..UptoSaid'. A law counts once. -/
mutual
def uptoBulk {H : Type} : DataW H → Nat
  | .lit (.string bytes) => bytes.length + 1
  | .lit _ => 1
  | .nil => 1
  | .ptr d => uptoBulk d + 1
  | .slice elems spare => uptoBulkAll elems + uptoBulkAll spare + 1
  | .agg parts => uptoBulkAll parts + 1
  | .iface _ d => uptoBulk d + 1
  | .map entries => uptoBulkEntries entries + 1
  | .held _ => 1
def uptoBulkAll {H : Type} : List (DataW H) → Nat
  | [] => 0
  | d :: r => uptoBulk d + uptoBulkAll r
def uptoBulkEntries {H : Type} : List (Lit × DataW H) → Nat
  | [] => 0
  | x :: r => uptoBulkEntry x + uptoBulkEntries r
def uptoBulkEntry {H : Type} : Lit × DataW H → Nat
  | (.string bytes, d) => bytes.length + uptoBulk d + 1
  | (_, d) => uptoBulk d + 1
 end
def uptoSmall : (H : Type) → List (DataW H) → Bool := fun _ ds => decide (uptoBulkAll ds ≤ 1048576)
def OpenSpec.upto (s : _root_.Go.ChangeSpec) : _root_.Go.OpenSpec := { _root_.Go.OpenSpec.ofChange s with cond := some uptoSmall }

/-- 'dotterellaw20.StripeOnce', WHERE WHAT IT READS IS OF BULK AT MOST 1048576: true; the input reads as it did. -/
def stripeOnceUptoRow : OpenClaim := { program := "ytgadaeodoapgiaa", sum := "0b0d2add5db79e0b926ca294bcd3ea6e3c54524eba260a5c53531c527e3fd399", func := "dotterel/dotterellaw20.StripeOnce", spec := "stripeOnce", apart := false, narrowed := true }
def StripeOnceUptoSaid : Prop := stripeOnceUptoRow.holds Try.pinned (OpenSpec.upto stripeOnceSpec)

/-- 'dotterellaw20.StripeTells', WHERE WHAT IT READS IS OF BULK AT MOST 1048576: true; the input reads as it did. -/
def stripeTellsUptoRow : OpenClaim := { program := "ytgadaeodoapgiaa", sum := "0b0d2add5db79e0b926ca294bcd3ea6e3c54524eba260a5c53531c527e3fd399", func := "dotterel/dotterellaw20.StripeTells", spec := "stripeTells", apart := false, narrowed := true }
def StripeTellsUptoSaid : Prop := stripeTellsUptoRow.holds Try.pinned (OpenSpec.upto stripeTellsSpec)

/-- 'dotterellaw20.StripeWhere', WHERE WHAT IT READS IS OF BULK AT MOST 1048576: true; the input reads as it did. -/
def stripeWhereUptoRow : OpenClaim := { program := "ytgadaeodoapgiaa", sum := "0b0d2add5db79e0b926ca294bcd3ea6e3c54524eba260a5c53531c527e3fd399", func := "dotterel/dotterellaw20.StripeWhere", spec := "stripeWhere", apart := false, narrowed := true }
def StripeWhereUptoSaid : Prop := stripeWhereUptoRow.holds Try.pinned (OpenSpec.upto stripeWhereSpec)

/-- 'dotterellaw20.StripeBytes', WHERE WHAT IT READS IS OF BULK AT MOST 1048576: true; the input reads as it did. -/
def stripeBytesUptoRow : OpenClaim := { program := "ytgadaeodoapgiaa", sum := "0b0d2add5db79e0b926ca294bcd3ea6e3c54524eba260a5c53531c527e3fd399", func := "dotterel/dotterellaw20.StripeBytes", spec := "stripeBytes", apart := false, narrowed := true }
def StripeBytesUptoSaid : Prop := stripeBytesUptoRow.holds Try.pinned (OpenSpec.upto stripeBytesSpec)

end Rows
end Go.Proofs.Ytgadaeodoapgiaa
