/-
  No cell of these rows narrows 'for every input' (looked for: loops, veiled, ifaces, maps, wideKeys, modest, calm, conditions, laid).
  DERIVED. THE GIVEN ROWS OF THIS SEAT. 4 by the template 'for every input the law returns true; each argument reads behind the call as it read before'; 0 by the template 'total and deterministic' (their statements: YtfbiimeoadngoaaTotals.lean).
  GIVEN WITH THE SEED: the statements are not yours to turn. If you find one false, say at which input.
  Laid BY PROGRAM, IN A SANDBOX (cutbox-rows.mjs): the forced cells as the released guide's own fill.sh prints them over the translation 18ccdcc1b4f61e6b… (all of the seat's roots in one cut). By AI agents, Wed Nov 11 2026. No macro, syntax, notation, axiom, sorry.
-/
import Derived.Test.YtfbiimeoadngoaaChecked
import GoSem.Claim
import GoSem.ClaimJoined
import GoSem.ClaimMapViews
import Derived.JoinedTies
import Derived.KernelRfl
namespace Go.Proofs.Ytfbiimeoadngoaa
/- THE CELL 'sum', in the pinned program and in every row, IS THE sha256 OF THE DUMP (.gsa) THAT YtfbiimeoadngoaaProg.lean LOADS. Nothing in Lean hashes anything: it is a label: what it is worth is what the hold of that sum in a sandbox is worth. -/
noncomputable def Try.pinned : Pinned := { name := "ytfbiimeoadngoaa", sum := "18ccdcc1b4f61e6b1272d93dff7c30bec7795803ed7815ad871e0fd0e6592d48", checked := Try.checked }
namespace Rows
def none {H : Type} : Left H := { results := [], args := [] }

/-- 'dotterellaw16.BallotOne': WHATEVER THE INPUT: true; the input reads as it did. -/
def ballotOneSpec : ChangeSpec := { name := "ballotOne", fn := fun _ => fun
  | [d1, d2, d3] => { results := [.lit (.bool true)], args := [d1, d2, d3] }
  | _ => none }
def ballotOneRow : OpenClaim := { program := "ytfbiimeoadngoaa", sum := "18ccdcc1b4f61e6b1272d93dff7c30bec7795803ed7815ad871e0fd0e6592d48", func := "dotterel/dotterellaw16.BallotOne", spec := "ballotOne", apart := false }
def BallotOneSaid : Prop := ballotOneRow.holds Try.pinned (OpenSpec.ofChange ballotOneSpec)

/-- ITS FALSE NEIGHBOUR: 'it returns false'. Refute it at one input. -/
def ballotOneWrong : ChangeSpec := { name := "ballotOne", fn := fun _ => fun
  | [d1, d2, d3] => { results := [.lit (.bool false)], args := [d1, d2, d3] }
  | _ => none }
def BallotOneWrongFalsely : Prop := ballotOneRow.holds Try.pinned (OpenSpec.ofChange ballotOneWrong)

/-- 'dotterellaw16.BallotTells': WHATEVER THE INPUT: true; the input reads as it did. -/
def ballotTellsSpec : ChangeSpec := { name := "ballotTells", fn := fun _ => fun
  | [d1, d2, d3, d4, d5, d6] => { results := [.lit (.bool true)], args := [d1, d2, d3, d4, d5, d6] }
  | _ => none }
def ballotTellsRow : OpenClaim := { program := "ytfbiimeoadngoaa", sum := "18ccdcc1b4f61e6b1272d93dff7c30bec7795803ed7815ad871e0fd0e6592d48", func := "dotterel/dotterellaw16.BallotTells", spec := "ballotTells", apart := false }
def BallotTellsSaid : Prop := ballotTellsRow.holds Try.pinned (OpenSpec.ofChange ballotTellsSpec)

/-- ITS FALSE NEIGHBOUR: 'it returns false'. Refute it at one input. -/
def ballotTellsWrong : ChangeSpec := { name := "ballotTells", fn := fun _ => fun
  | [d1, d2, d3, d4, d5, d6] => { results := [.lit (.bool false)], args := [d1, d2, d3, d4, d5, d6] }
  | _ => none }
def BallotTellsWrongFalsely : Prop := ballotTellsRow.holds Try.pinned (OpenSpec.ofChange ballotTellsWrong)

/-- 'dotterellaw16.BallotNew': WHATEVER THE INPUT: true; the input reads as it did. -/
def ballotNewSpec : ChangeSpec := { name := "ballotNew", fn := fun _ => fun
  | [d1, d2, d3] => { results := [.lit (.bool true)], args := [d1, d2, d3] }
  | _ => none }
def ballotNewRow : OpenClaim := { program := "ytfbiimeoadngoaa", sum := "18ccdcc1b4f61e6b1272d93dff7c30bec7795803ed7815ad871e0fd0e6592d48", func := "dotterel/dotterellaw16.BallotNew", spec := "ballotNew", apart := false }
def BallotNewSaid : Prop := ballotNewRow.holds Try.pinned (OpenSpec.ofChange ballotNewSpec)

/-- ITS FALSE NEIGHBOUR: 'it returns false'. Refute it at one input. -/
def ballotNewWrong : ChangeSpec := { name := "ballotNew", fn := fun _ => fun
  | [d1, d2, d3] => { results := [.lit (.bool false)], args := [d1, d2, d3] }
  | _ => none }
def BallotNewWrongFalsely : Prop := ballotNewRow.holds Try.pinned (OpenSpec.ofChange ballotNewWrong)

/-- 'dotterellaw16.BallotBytes': WHATEVER THE INPUT: true; the input reads as it did. -/
def ballotBytesSpec : ChangeSpec := { name := "ballotBytes", fn := fun _ => fun
  | [d1, d2] => { results := [.lit (.bool true)], args := [d1, d2] }
  | _ => none }
def ballotBytesRow : OpenClaim := { program := "ytfbiimeoadngoaa", sum := "18ccdcc1b4f61e6b1272d93dff7c30bec7795803ed7815ad871e0fd0e6592d48", func := "dotterel/dotterellaw16.BallotBytes", spec := "ballotBytes", apart := false }
def BallotBytesSaid : Prop := ballotBytesRow.holds Try.pinned (OpenSpec.ofChange ballotBytesSpec)

/-- ITS FALSE NEIGHBOUR: 'it returns false'. Refute it at one input. -/
def ballotBytesWrong : ChangeSpec := { name := "ballotBytes", fn := fun _ => fun
  | [d1, d2] => { results := [.lit (.bool false)], args := [d1, d2] }
  | _ => none }
def BallotBytesWrongFalsely : Prop := ballotBytesRow.holds Try.pinned (OpenSpec.ofChange ballotBytesWrong)

/- THE SECOND FORM. 'bulk': how many values and letters a reading holds, each counted each time it is reached (what is shared counts as often as it is met; a slice's spare places count too). A statement '..UptoSaid' is the law's where the arguments, and the package variables that the reading takes, are together of bulk at most 1048576: NARROWER than '..Said'. Prove '..Said' where nothing that the law and all that it calls make is longer than what came in: it says more and counts as full. Else prove '..UptoSaid'. A law counts once. -/
mutual
def uptoBulk {H : Type} : DataW H → Nat
  | .lit (.string bytes) => bytes.length + 1
  | .lit _ => 1
  | .nil => 1
  | .ptr d => uptoBulk d + 1
  | .slice elems spare => uptoBulkAll elems + uptoBulkAll spare + 1
  | .agg parts => uptoBulkAll parts + 1
  | .iface _ d => uptoBulk d + 1
  | .map entries => uptoBulkEntries entries + 1
  | .held _ => 1
def uptoBulkAll {H : Type} : List (DataW H) → Nat
  | [] => 0
  | d :: r => uptoBulk d + uptoBulkAll r
def uptoBulkEntries {H : Type} : List (Lit × DataW H) → Nat
  | [] => 0
  | x :: r => uptoBulkEntry x + uptoBulkEntries r
def uptoBulkEntry {H : Type} : Lit × DataW H → Nat
  | (.string bytes, d) => bytes.length + uptoBulk d + 1
  | (_, d) => uptoBulk d + 1
 end
def uptoSmall : (H : Type) → List (DataW H) → Bool := fun _ ds => decide (uptoBulkAll ds ≤ 1048576)
def OpenSpec.upto (s : _root_.Go.ChangeSpec) : _root_.Go.OpenSpec := { _root_.Go.OpenSpec.ofChange s with cond := some uptoSmall }

/-- 'dotterellaw16.BallotOne', WHERE WHAT IT READS IS OF BULK AT MOST 1048576: true; the input reads as it did. -/
def ballotOneUptoRow : OpenClaim := { program := "ytfbiimeoadngoaa", sum := "18ccdcc1b4f61e6b1272d93dff7c30bec7795803ed7815ad871e0fd0e6592d48", func := "dotterel/dotterellaw16.BallotOne", spec := "ballotOne", apart := false, narrowed := true }
def BallotOneUptoSaid : Prop := ballotOneUptoRow.holds Try.pinned (OpenSpec.upto ballotOneSpec)

/-- 'dotterellaw16.BallotTells', WHERE WHAT IT READS IS OF BULK AT MOST 1048576: true; the input reads as it did. -/
def ballotTellsUptoRow : OpenClaim := { program := "ytfbiimeoadngoaa", sum := "18ccdcc1b4f61e6b1272d93dff7c30bec7795803ed7815ad871e0fd0e6592d48", func := "dotterel/dotterellaw16.BallotTells", spec := "ballotTells", apart := false, narrowed := true }
def BallotTellsUptoSaid : Prop := ballotTellsUptoRow.holds Try.pinned (OpenSpec.upto ballotTellsSpec)

/-- 'dotterellaw16.BallotNew', WHERE WHAT IT READS IS OF BULK AT MOST 1048576: true; the input reads as it did. -/
def ballotNewUptoRow : OpenClaim := { program := "ytfbiimeoadngoaa", sum := "18ccdcc1b4f61e6b1272d93dff7c30bec7795803ed7815ad871e0fd0e6592d48", func := "dotterel/dotterellaw16.BallotNew", spec := "ballotNew", apart := false, narrowed := true }
def BallotNewUptoSaid : Prop := ballotNewUptoRow.holds Try.pinned (OpenSpec.upto ballotNewSpec)

/-- 'dotterellaw16.BallotBytes', WHERE WHAT IT READS IS OF BULK AT MOST 1048576: true; the input reads as it did. -/
def ballotBytesUptoRow : OpenClaim := { program := "ytfbiimeoadngoaa", sum := "18ccdcc1b4f61e6b1272d93dff7c30bec7795803ed7815ad871e0fd0e6592d48", func := "dotterel/dotterellaw16.BallotBytes", spec := "ballotBytes", apart := false, narrowed := true }
def BallotBytesUptoSaid : Prop := ballotBytesUptoRow.holds Try.pinned (OpenSpec.upto ballotBytesSpec)

end Rows
end Go.Proofs.Ytfbiimeoadngoaa
