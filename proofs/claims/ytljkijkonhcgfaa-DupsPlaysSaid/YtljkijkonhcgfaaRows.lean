/-
  No cell of these rows narrows 'for every input' (looked for: loops, veiled, ifaces, maps, wideKeys, modest, calm, conditions, laid).
  DERIVED. THE GIVEN ROWS OF THIS SEAT. 3 by the template 'for every input the law returns true; each argument reads behind the call as it read before'; 0 by the template 'total and deterministic' (their statements: YtljkijkonhcgfaaTotals.lean).
  GIVEN WITH THE SEED: the statements are not yours to turn. If you find one false, say at which input.
  Laid BY PROGRAM, IN A SANDBOX (cutbox-rows.mjs): the forced cells as the released guide's own fill.sh prints them over the translation 11d254ed3c193753… (all of the seat's roots in one cut). By AI agents, Wed Nov 11 2026. No macro, syntax, notation, axiom, sorry.
-/
import Derived.Test.YtljkijkonhcgfaaChecked
import GoSem.Claim
import GoSem.ClaimJoined
import GoSem.ClaimMapViews
import Derived.JoinedTies
import Derived.KernelRfl
namespace Go.Proofs.Ytljkijkonhcgfaa
/- THE CELL 'sum', in the pinned program and in every row, IS THE sha256 OF THE DUMP (.gsa) THAT YtljkijkonhcgfaaProg.lean LOADS. Nothing in Lean hashes anything: it is a label: what it is worth is what the hold of that sum in a sandbox is worth. -/
noncomputable def Try.pinned : Pinned := { name := "ytljkijkonhcgfaa", sum := "11d254ed3c193753d015160115b538705d6ebd660d745685c7bd1e0000b830c1", checked := Try.checked }
namespace Rows
def none {H : Type} : Left H := { results := [], args := [] }

/-- 'dotterellaw22.DupsOthers': WHATEVER THE INPUT: true; the input reads as it did. -/
def dupsOthersSpec : ChangeSpec := { name := "dupsOthers", fn := fun _ => fun
  | [d1, d2, d3] => { results := [.lit (.bool true)], args := [d1, d2, d3] }
  | _ => none }
def dupsOthersRow : OpenClaim := { program := "ytljkijkonhcgfaa", sum := "11d254ed3c193753d015160115b538705d6ebd660d745685c7bd1e0000b830c1", func := "dotterel/dotterellaw22.DupsOthers", spec := "dupsOthers", inPlace := ["maps.clone"], unfollowed := true, recurses := true, apart := false }
def DupsOthersSaid : Prop := dupsOthersRow.holds Try.pinned (OpenSpec.ofChange dupsOthersSpec)

/-- ITS FALSE NEIGHBOUR: 'it returns false'. Refute it at one input. -/
def dupsOthersWrong : ChangeSpec := { name := "dupsOthers", fn := fun _ => fun
  | [d1, d2, d3] => { results := [.lit (.bool false)], args := [d1, d2, d3] }
  | _ => none }
def DupsOthersWrongFalsely : Prop := dupsOthersRow.holds Try.pinned (OpenSpec.ofChange dupsOthersWrong)

/-- 'dotterellaw22.DupsPlays': WHATEVER THE INPUT: true; the input reads as it did. -/
def dupsPlaysSpec : ChangeSpec := { name := "dupsPlays", fn := fun _ => fun
  | [d] => { results := [.lit (.bool true)], args := [d] }
  | _ => none }
def dupsPlaysRow : OpenClaim := { program := "ytljkijkonhcgfaa", sum := "11d254ed3c193753d015160115b538705d6ebd660d745685c7bd1e0000b830c1", func := "dotterel/dotterellaw22.DupsPlays", spec := "dupsPlays", inPlace := ["maps.clone"], unfollowed := true, recurses := true, apart := false }
def DupsPlaysSaid : Prop := dupsPlaysRow.holds Try.pinned (OpenSpec.ofChange dupsPlaysSpec)

/-- ITS FALSE NEIGHBOUR: 'it returns false'. Refute it at one input. -/
def dupsPlaysWrong : ChangeSpec := { name := "dupsPlays", fn := fun _ => fun
  | [d] => { results := [.lit (.bool false)], args := [d] }
  | _ => none }
def DupsPlaysWrongFalsely : Prop := dupsPlaysRow.holds Try.pinned (OpenSpec.ofChange dupsPlaysWrong)

/-- 'dotterellaw22.DupsLoads': WHATEVER THE INPUT: true; the input reads as it did. -/
def dupsLoadsSpec : ChangeSpec := { name := "dupsLoads", fn := fun _ => fun
  | [d] => { results := [.lit (.bool true)], args := [d] }
  | _ => none }
def dupsLoadsRow : OpenClaim := { program := "ytljkijkonhcgfaa", sum := "11d254ed3c193753d015160115b538705d6ebd660d745685c7bd1e0000b830c1", func := "dotterel/dotterellaw22.DupsLoads", spec := "dupsLoads", inPlace := ["maps.clone"], unfollowed := true, recurses := true, apart := false }
def DupsLoadsSaid : Prop := dupsLoadsRow.holds Try.pinned (OpenSpec.ofChange dupsLoadsSpec)

/-- ITS FALSE NEIGHBOUR: 'it returns false'. Refute it at one input. -/
def dupsLoadsWrong : ChangeSpec := { name := "dupsLoads", fn := fun _ => fun
  | [d] => { results := [.lit (.bool false)], args := [d] }
  | _ => none }
def DupsLoadsWrongFalsely : Prop := dupsLoadsRow.holds Try.pinned (OpenSpec.ofChange dupsLoadsWrong)

/- THE SECOND FORM. 'bulk': how many values and letters a reading holds, each counted each time it is reached (what is shared counts as often as it is met; a slice's spare places count too). A statement '..UptoSaid' is the law's where the arguments, and the package variables that the reading takes, are together of bulk at most 1048576: NARROWER than '..Said'. Prove '..Said' where nothing that the law and all that it calls make is longer than what came in: it says more and counts as full. Else prove '..UptoSaid'. A law counts once. -/
mutual
def uptoBulk {H : Type} : DataW H → Nat
  | .lit (.string bytes) => bytes.length + 1
  | .lit _ => 1
  | .nil => 1
  | .ptr d => uptoBulk d + 1
  | .slice elems spare => uptoBulkAll elems + uptoBulkAll spare + 1
  | .agg parts => uptoBulkAll parts + 1
  | .iface _ d => uptoBulk d + 1
  | .map entries => uptoBulkEntries entries + 1
  | .held _ => 1
def uptoBulkAll {H : Type} : List (DataW H) → Nat
  | [] => 0
  | d :: r => uptoBulk d + uptoBulkAll r
def uptoBulkEntries {H : Type} : List (Lit × DataW H) → Nat
  | [] => 0
  | x :: r => uptoBulkEntry x + uptoBulkEntries r
def uptoBulkEntry {H : Type} : Lit × DataW H → Nat
  | (.string bytes, d) => bytes.length + uptoBulk d + 1
  | (_, d) => uptoBulk d + 1
 end
def uptoSmall : (H : Type) → List (DataW H) → Bool := fun _ ds => decide (uptoBulkAll ds ≤ 1048576)
def OpenSpec.upto (s : _root_.Go.ChangeSpec) : _root_.Go.OpenSpec := { _root_.Go.OpenSpec.ofChange s with cond := some uptoSmall }

/-- 'dotterellaw22.DupsOthers', WHERE WHAT IT READS IS OF BULK AT MOST 1048576: true; the input reads as it did. -/
def dupsOthersUptoRow : OpenClaim := { program := "ytljkijkonhcgfaa", sum := "11d254ed3c193753d015160115b538705d6ebd660d745685c7bd1e0000b830c1", func := "dotterel/dotterellaw22.DupsOthers", spec := "dupsOthers", inPlace := ["maps.clone"], unfollowed := true, recurses := true, apart := false, narrowed := true }
def DupsOthersUptoSaid : Prop := dupsOthersUptoRow.holds Try.pinned (OpenSpec.upto dupsOthersSpec)

/-- 'dotterellaw22.DupsPlays', WHERE WHAT IT READS IS OF BULK AT MOST 1048576: true; the input reads as it did. -/
def dupsPlaysUptoRow : OpenClaim := { program := "ytljkijkonhcgfaa", sum := "11d254ed3c193753d015160115b538705d6ebd660d745685c7bd1e0000b830c1", func := "dotterel/dotterellaw22.DupsPlays", spec := "dupsPlays", inPlace := ["maps.clone"], unfollowed := true, recurses := true, apart := false, narrowed := true }
def DupsPlaysUptoSaid : Prop := dupsPlaysUptoRow.holds Try.pinned (OpenSpec.upto dupsPlaysSpec)

/-- 'dotterellaw22.DupsLoads', WHERE WHAT IT READS IS OF BULK AT MOST 1048576: true; the input reads as it did. -/
def dupsLoadsUptoRow : OpenClaim := { program := "ytljkijkonhcgfaa", sum := "11d254ed3c193753d015160115b538705d6ebd660d745685c7bd1e0000b830c1", func := "dotterel/dotterellaw22.DupsLoads", spec := "dupsLoads", inPlace := ["maps.clone"], unfollowed := true, recurses := true, apart := false, narrowed := true }
def DupsLoadsUptoSaid : Prop := dupsLoadsUptoRow.holds Try.pinned (OpenSpec.upto dupsLoadsSpec)

end Rows
end Go.Proofs.Ytljkijkonhcgfaa
