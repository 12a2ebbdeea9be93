/-
  No cell of these rows narrows 'for every input' (looked for: loops, veiled, ifaces, maps, wideKeys, modest, calm, conditions, laid).
  DERIVED. THE GIVEN ROWS OF THIS SEAT. 5 by the template 'for every input the law returns true; each argument reads behind the call as it read before'; 0 by the template 'total and deterministic' (their statements: YtmemkblmocgnlaaTotals.lean).
  GIVEN WITH THE SEED: the statements are not yours to turn. If you find one false, say at which input.
  Laid BY PROGRAM, IN A SANDBOX (cutbox-rows.mjs): the forced cells as the released guide's own fill.sh prints them over the translation bd87d43fe2ba3585… (all of the seat's roots in one cut). By AI agents, Wed Nov 11 2026. No macro, syntax, notation, axiom, sorry.
-/
import Derived.Test.YtmemkblmocgnlaaChecked
import GoSem.Claim
import GoSem.ClaimJoined
import GoSem.ClaimMapViews
import Derived.JoinedTies
import Derived.KernelRfl
namespace Go.Proofs.Ytmemkblmocgnlaa
/- THE CELL 'sum', in the pinned program and in every row, IS THE sha256 OF THE DUMP (.gsa) THAT YtmemkblmocgnlaaProg.lean LOADS. Nothing in Lean hashes anything: it is a label: what it is worth is what the hold of that sum in a sandbox is worth. -/
noncomputable def Try.pinned : Pinned := { name := "ytmemkblmocgnlaa", sum := "bd87d43fe2ba35852f792063b3e1c130cb5bc6d7f9466156a917dcde15e177ca", checked := Try.checked }
namespace Rows
def none {H : Type} : Left H := { results := [], args := [] }

/-- 'dotterellaw07.FramesForms': WHATEVER THE INPUT: true; the input reads as it did. -/
def framesFormsSpec : ChangeSpec := { name := "framesForms", fn := fun _ => fun
  | [d] => { results := [.lit (.bool true)], args := [d] }
  | _ => none }
def framesFormsRow : OpenClaim := { program := "ytmemkblmocgnlaa", sum := "bd87d43fe2ba35852f792063b3e1c130cb5bc6d7f9466156a917dcde15e177ca", func := "dotterel/dotterellaw07.FramesForms", spec := "framesForms", unfollowed := true, recurses := true, apart := false }
def FramesFormsSaid : Prop := framesFormsRow.holds Try.pinned (OpenSpec.ofChange framesFormsSpec)

/-- ITS FALSE NEIGHBOUR: 'it returns false'. Refute it at one input. -/
def framesFormsWrong : ChangeSpec := { name := "framesForms", fn := fun _ => fun
  | [d] => { results := [.lit (.bool false)], args := [d] }
  | _ => none }
def FramesFormsWrongFalsely : Prop := framesFormsRow.holds Try.pinned (OpenSpec.ofChange framesFormsWrong)

/-- 'dotterellaw07.FramesReads': WHATEVER THE INPUT: true; the input reads as it did. -/
def framesReadsSpec : ChangeSpec := { name := "framesReads", fn := fun _ => fun
  | [d1, d2] => { results := [.lit (.bool true)], args := [d1, d2] }
  | _ => none }
def framesReadsRow : OpenClaim := { program := "ytmemkblmocgnlaa", sum := "bd87d43fe2ba35852f792063b3e1c130cb5bc6d7f9466156a917dcde15e177ca", func := "dotterel/dotterellaw07.FramesReads", spec := "framesReads", unfollowed := true, recurses := true, apart := false }
def FramesReadsSaid : Prop := framesReadsRow.holds Try.pinned (OpenSpec.ofChange framesReadsSpec)

/-- ITS FALSE NEIGHBOUR: 'it returns false'. Refute it at one input. -/
def framesReadsWrong : ChangeSpec := { name := "framesReads", fn := fun _ => fun
  | [d1, d2] => { results := [.lit (.bool false)], args := [d1, d2] }
  | _ => none }
def FramesReadsWrongFalsely : Prop := framesReadsRow.holds Try.pinned (OpenSpec.ofChange framesReadsWrong)

/-- 'dotterellaw07.FramesTurned': WHATEVER THE INPUT: true; the input reads as it did. -/
def framesTurnedSpec : ChangeSpec := { name := "framesTurned", fn := fun _ => fun
  | [d1, d2, d3] => { results := [.lit (.bool true)], args := [d1, d2, d3] }
  | _ => none }
def framesTurnedRow : OpenClaim := { program := "ytmemkblmocgnlaa", sum := "bd87d43fe2ba35852f792063b3e1c130cb5bc6d7f9466156a917dcde15e177ca", func := "dotterel/dotterellaw07.FramesTurned", spec := "framesTurned", unfollowed := true, recurses := true, apart := false }
def FramesTurnedSaid : Prop := framesTurnedRow.holds Try.pinned (OpenSpec.ofChange framesTurnedSpec)

/-- ITS FALSE NEIGHBOUR: 'it returns false'. Refute it at one input. -/
def framesTurnedWrong : ChangeSpec := { name := "framesTurned", fn := fun _ => fun
  | [d1, d2, d3] => { results := [.lit (.bool false)], args := [d1, d2, d3] }
  | _ => none }
def FramesTurnedWrongFalsely : Prop := framesTurnedRow.holds Try.pinned (OpenSpec.ofChange framesTurnedWrong)

/-- 'dotterellaw07.FramesShort': WHATEVER THE INPUT: true; the input reads as it did. -/
def framesShortSpec : ChangeSpec := { name := "framesShort", fn := fun _ => fun
  | [d1, d2, d3] => { results := [.lit (.bool true)], args := [d1, d2, d3] }
  | _ => none }
def framesShortRow : OpenClaim := { program := "ytmemkblmocgnlaa", sum := "bd87d43fe2ba35852f792063b3e1c130cb5bc6d7f9466156a917dcde15e177ca", func := "dotterel/dotterellaw07.FramesShort", spec := "framesShort", unfollowed := true, recurses := true, apart := false }
def FramesShortSaid : Prop := framesShortRow.holds Try.pinned (OpenSpec.ofChange framesShortSpec)

/-- ITS FALSE NEIGHBOUR: 'it returns false'. Refute it at one input. -/
def framesShortWrong : ChangeSpec := { name := "framesShort", fn := fun _ => fun
  | [d1, d2, d3] => { results := [.lit (.bool false)], args := [d1, d2, d3] }
  | _ => none }
def FramesShortWrongFalsely : Prop := framesShortRow.holds Try.pinned (OpenSpec.ofChange framesShortWrong)

/-- 'dotterellaw07.FramesSame': WHATEVER THE INPUT: true; the input reads as it did. -/
def framesSameSpec : ChangeSpec := { name := "framesSame", fn := fun _ => fun
  | [d1, d2] => { results := [.lit (.bool true)], args := [d1, d2] }
  | _ => none }
def framesSameRow : OpenClaim := { program := "ytmemkblmocgnlaa", sum := "bd87d43fe2ba35852f792063b3e1c130cb5bc6d7f9466156a917dcde15e177ca", func := "dotterel/dotterellaw07.FramesSame", spec := "framesSame", unfollowed := true, recurses := true, apart := false }
def FramesSameSaid : Prop := framesSameRow.holds Try.pinned (OpenSpec.ofChange framesSameSpec)

/-- ITS FALSE NEIGHBOUR: 'it returns false'. Refute it at one input. -/
def framesSameWrong : ChangeSpec := { name := "framesSame", fn := fun _ => fun
  | [d1, d2] => { results := [.lit (.bool false)], args := [d1, d2] }
  | _ => none }
def FramesSameWrongFalsely : Prop := framesSameRow.holds Try.pinned (OpenSpec.ofChange framesSameWrong)

/- THE SECOND FORM. 'bulk': how many values and letters a reading holds, each counted each time it is reached (what is shared counts as often as it is met; a slice's spare places count too). A statement '..UptoSaid' is the law's where the arguments, and the package variables that the reading takes, are together of bulk at most 1048576: NARROWER than '..Said'. Prove '..Said' where nothing that the law and all that it calls make is longer than what came in: it says more and counts as full. Else prove '..UptoSaid'. A law counts once. -/
mutual
def uptoBulk {H : Type} : DataW H → Nat
  | .lit (.string bytes) => bytes.length + 1
  | .lit _ => 1
  | .nil => 1
  | .ptr d => uptoBulk d + 1
  | .slice elems spare => uptoBulkAll elems + uptoBulkAll spare + 1
  | .agg parts => uptoBulkAll parts + 1
  | .iface _ d => uptoBulk d + 1
  | .map entries => uptoBulkEntries entries + 1
  | .held _ => 1
def uptoBulkAll {H : Type} : List (DataW H) → Nat
  | [] => 0
  | d :: r => uptoBulk d + uptoBulkAll r
def uptoBulkEntries {H : Type} : List (Lit × DataW H) → Nat
  | [] => 0
  | x :: r => uptoBulkEntry x + uptoBulkEntries r
def uptoBulkEntry {H : Type} : Lit × DataW H → Nat
  | (.string bytes, d) => bytes.length + uptoBulk d + 1
  | (_, d) => uptoBulk d + 1
 end
def uptoSmall : (H : Type) → List (DataW H) → Bool := fun _ ds => decide (uptoBulkAll ds ≤ 1048576)
def OpenSpec.upto (s : _root_.Go.ChangeSpec) : _root_.Go.OpenSpec := { _root_.Go.OpenSpec.ofChange s with cond := some uptoSmall }

/-- 'dotterellaw07.FramesForms', WHERE WHAT IT READS IS OF BULK AT MOST 1048576: true; the input reads as it did. -/
def framesFormsUptoRow : OpenClaim := { program := "ytmemkblmocgnlaa", sum := "bd87d43fe2ba35852f792063b3e1c130cb5bc6d7f9466156a917dcde15e177ca", func := "dotterel/dotterellaw07.FramesForms", spec := "framesForms", unfollowed := true, recurses := true, apart := false, narrowed := true }
def FramesFormsUptoSaid : Prop := framesFormsUptoRow.holds Try.pinned (OpenSpec.upto framesFormsSpec)

/-- 'dotterellaw07.FramesReads', WHERE WHAT IT READS IS OF BULK AT MOST 1048576: true; the input reads as it did. -/
def framesReadsUptoRow : OpenClaim := { program := "ytmemkblmocgnlaa", sum := "bd87d43fe2ba35852f792063b3e1c130cb5bc6d7f9466156a917dcde15e177ca", func := "dotterel/dotterellaw07.FramesReads", spec := "framesReads", unfollowed := true, recurses := true, apart := false, narrowed := true }
def FramesReadsUptoSaid : Prop := framesReadsUptoRow.holds Try.pinned (OpenSpec.upto framesReadsSpec)

/-- 'dotterellaw07.FramesTurned', WHERE WHAT IT READS IS OF BULK AT MOST 1048576: true; the input reads as it did. -/
def framesTurnedUptoRow : OpenClaim := { program := "ytmemkblmocgnlaa", sum := "bd87d43fe2ba35852f792063b3e1c130cb5bc6d7f9466156a917dcde15e177ca", func := "dotterel/dotterellaw07.FramesTurned", spec := "framesTurned", unfollowed := true, recurses := true, apart := false, narrowed := true }
def FramesTurnedUptoSaid : Prop := framesTurnedUptoRow.holds Try.pinned (OpenSpec.upto framesTurnedSpec)

/-- 'dotterellaw07.FramesShort', WHERE WHAT IT READS IS OF BULK AT MOST 1048576: true; the input reads as it did. -/
def framesShortUptoRow : OpenClaim := { program := "ytmemkblmocgnlaa", sum := "bd87d43fe2ba35852f792063b3e1c130cb5bc6d7f9466156a917dcde15e177ca", func := "dotterel/dotterellaw07.FramesShort", spec := "framesShort", unfollowed := true, recurses := true, apart := false, narrowed := true }
def FramesShortUptoSaid : Prop := framesShortUptoRow.holds Try.pinned (OpenSpec.upto framesShortSpec)

/-- 'dotterellaw07.FramesSame', WHERE WHAT IT READS IS OF BULK AT MOST 1048576: true; the input reads as it did. -/
def framesSameUptoRow : OpenClaim := { program := "ytmemkblmocgnlaa", sum := "bd87d43fe2ba35852f792063b3e1c130cb5bc6d7f9466156a917dcde15e177ca", func := "dotterel/dotterellaw07.FramesSame", spec := "framesSame", unfollowed := true, recurses := true, apart := false, narrowed := true }
def FramesSameUptoSaid : Prop := framesSameUptoRow.holds Try.pinned (OpenSpec.upto framesSameSpec)

end Rows
end Go.Proofs.Ytmemkblmocgnlaa
