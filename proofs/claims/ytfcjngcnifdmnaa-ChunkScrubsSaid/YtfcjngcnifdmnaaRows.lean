/-
  No cell of these rows narrows 'for every input' (looked for: loops, veiled, ifaces, maps, wideKeys, modest, calm, conditions, laid).
  DERIVED. THE GIVEN ROWS OF THIS SEAT. 3 by the template 'for every input the law returns true; each argument reads behind the call as it read before'; 0 by the template 'total and deterministic' (their statements: YtfcjngcnifdmnaaTotals.lean).
  GIVEN WITH THE SEED: the statements are not yours to turn. If you find one false, say at which input.
  Laid BY PROGRAM, IN A SANDBOX (cutbox-rows.mjs): the forced cells as the released guide's own fill.sh prints them over the translation e892d93c6d82cc13… (all of the seat's roots in one cut). By AI agents, Wed Nov 11 2026. No macro, syntax, notation, axiom, sorry.
-/
import Derived.Test.YtfcjngcnifdmnaaChecked
import GoSem.Claim
import GoSem.ClaimJoined
import GoSem.ClaimMapViews
import Derived.JoinedTies
import Derived.KernelRfl
namespace Go.Proofs.Ytfcjngcnifdmnaa
/- THE CELL 'sum', in the pinned program and in every row, IS THE sha256 OF THE DUMP (.gsa) THAT YtfcjngcnifdmnaaProg.lean LOADS. Nothing in Lean hashes anything: it is a label: what it is worth is what the hold of that sum in a sandbox is worth. -/
noncomputable def Try.pinned : Pinned := { name := "ytfcjngcnifdmnaa", sum := "e892d93c6d82cc1345c86a36ef7ce796a77e6deede76a770c62b66e154b5ef16", checked := Try.checked }
namespace Rows
def none {H : Type} : Left H := { results := [], args := [] }

/-- 'dotterellaw24.ChunkBlank': WHATEVER THE INPUT: true; the input reads as it did. -/
def chunkBlankSpec : ChangeSpec := { name := "chunkBlank", fn := fun _ => fun
  | [d] => { results := [.lit (.bool true)], args := [d] }
  | _ => none }
def chunkBlankRow : OpenClaim := { program := "ytfcjngcnifdmnaa", sum := "e892d93c6d82cc1345c86a36ef7ce796a77e6deede76a770c62b66e154b5ef16", func := "dotterel/dotterellaw24.ChunkBlank", spec := "chunkBlank", inPlace := ["maps.clone"], unfollowed := true, recurses := true, apart := false }
def ChunkBlankSaid : Prop := chunkBlankRow.holds Try.pinned (OpenSpec.ofChange chunkBlankSpec)

/-- ITS FALSE NEIGHBOUR: 'it returns false'. Refute it at one input. -/
def chunkBlankWrong : ChangeSpec := { name := "chunkBlank", fn := fun _ => fun
  | [d] => { results := [.lit (.bool false)], args := [d] }
  | _ => none }
def ChunkBlankWrongFalsely : Prop := chunkBlankRow.holds Try.pinned (OpenSpec.ofChange chunkBlankWrong)

/-- 'dotterellaw24.ChunkScrubs': WHATEVER THE INPUT: true; the input reads as it did. -/
def chunkScrubsSpec : ChangeSpec := { name := "chunkScrubs", fn := fun _ => fun
  | [d1, d2] => { results := [.lit (.bool true)], args := [d1, d2] }
  | _ => none }
def chunkScrubsRow : OpenClaim := { program := "ytfcjngcnifdmnaa", sum := "e892d93c6d82cc1345c86a36ef7ce796a77e6deede76a770c62b66e154b5ef16", func := "dotterel/dotterellaw24.ChunkScrubs", spec := "chunkScrubs", inPlace := ["maps.clone"], unfollowed := true, recurses := true, apart := false }
def ChunkScrubsSaid : Prop := chunkScrubsRow.holds Try.pinned (OpenSpec.ofChange chunkScrubsSpec)

/-- ITS FALSE NEIGHBOUR: 'it returns false'. Refute it at one input. -/
def chunkScrubsWrong : ChangeSpec := { name := "chunkScrubs", fn := fun _ => fun
  | [d1, d2] => { results := [.lit (.bool false)], args := [d1, d2] }
  | _ => none }
def ChunkScrubsWrongFalsely : Prop := chunkScrubsRow.holds Try.pinned (OpenSpec.ofChange chunkScrubsWrong)

/-- 'dotterellaw24.ChunkRaw': WHATEVER THE INPUT: true; the input reads as it did. -/
def chunkRawSpec : ChangeSpec := { name := "chunkRaw", fn := fun _ => fun
  | [d1, d2] => { results := [.lit (.bool true)], args := [d1, d2] }
  | _ => none }
def chunkRawRow : OpenClaim := { program := "ytfcjngcnifdmnaa", sum := "e892d93c6d82cc1345c86a36ef7ce796a77e6deede76a770c62b66e154b5ef16", func := "dotterel/dotterellaw24.ChunkRaw", spec := "chunkRaw", inPlace := ["maps.clone"], unfollowed := true, recurses := true, apart := false }
def ChunkRawSaid : Prop := chunkRawRow.holds Try.pinned (OpenSpec.ofChange chunkRawSpec)

/-- ITS FALSE NEIGHBOUR: 'it returns false'. Refute it at one input. -/
def chunkRawWrong : ChangeSpec := { name := "chunkRaw", fn := fun _ => fun
  | [d1, d2] => { results := [.lit (.bool false)], args := [d1, d2] }
  | _ => none }
def ChunkRawWrongFalsely : Prop := chunkRawRow.holds Try.pinned (OpenSpec.ofChange chunkRawWrong)

/- THE SECOND FORM. 'bulk': how many values and letters a reading holds, each counted each time it is reached (what is shared counts as often as it is met; a slice's spare places count too). A statement '..UptoSaid' is the law's where the arguments, and the package variables that the reading takes, are together of bulk at most 1048576: NARROWER than '..Said'. Prove '..Said' where nothing that the law and all that it calls make is longer than what came in: it says more and counts as full. Else prove '..UptoSaid'. A law counts once. -/
mutual
def uptoBulk {H : Type} : DataW H → Nat
  | .lit (.string bytes) => bytes.length + 1
  | .lit _ => 1
  | .nil => 1
  | .ptr d => uptoBulk d + 1
  | .slice elems spare => uptoBulkAll elems + uptoBulkAll spare + 1
  | .agg parts => uptoBulkAll parts + 1
  | .iface _ d => uptoBulk d + 1
  | .map entries => uptoBulkEntries entries + 1
  | .held _ => 1
def uptoBulkAll {H : Type} : List (DataW H) → Nat
  | [] => 0
  | d :: r => uptoBulk d + uptoBulkAll r
def uptoBulkEntries {H : Type} : List (Lit × DataW H) → Nat
  | [] => 0
  | x :: r => uptoBulkEntry x + uptoBulkEntries r
def uptoBulkEntry {H : Type} : Lit × DataW H → Nat
  | (.string bytes, d) => bytes.length + uptoBulk d + 1
  | (_, d) => uptoBulk d + 1
 end
def uptoSmall : (H : Type) → List (DataW H) → Bool := fun _ ds => decide (uptoBulkAll ds ≤ 1048576)
def OpenSpec.upto (s : _root_.Go.ChangeSpec) : _root_.Go.OpenSpec := { _root_.Go.OpenSpec.ofChange s with cond := some uptoSmall }

/-- 'dotterellaw24.ChunkBlank', WHERE WHAT IT READS IS OF BULK AT MOST 1048576: true; the input reads as it did. -/
def chunkBlankUptoRow : OpenClaim := { program := "ytfcjngcnifdmnaa", sum := "e892d93c6d82cc1345c86a36ef7ce796a77e6deede76a770c62b66e154b5ef16", func := "dotterel/dotterellaw24.ChunkBlank", spec := "chunkBlank", inPlace := ["maps.clone"], unfollowed := true, recurses := true, apart := false, narrowed := true }
def ChunkBlankUptoSaid : Prop := chunkBlankUptoRow.holds Try.pinned (OpenSpec.upto chunkBlankSpec)

/-- 'dotterellaw24.ChunkScrubs', WHERE WHAT IT READS IS OF BULK AT MOST 1048576: true; the input reads as it did. -/
def chunkScrubsUptoRow : OpenClaim := { program := "ytfcjngcnifdmnaa", sum := "e892d93c6d82cc1345c86a36ef7ce796a77e6deede76a770c62b66e154b5ef16", func := "dotterel/dotterellaw24.ChunkScrubs", spec := "chunkScrubs", inPlace := ["maps.clone"], unfollowed := true, recurses := true, apart := false, narrowed := true }
def ChunkScrubsUptoSaid : Prop := chunkScrubsUptoRow.holds Try.pinned (OpenSpec.upto chunkScrubsSpec)

/-- 'dotterellaw24.ChunkRaw', WHERE WHAT IT READS IS OF BULK AT MOST 1048576: true; the input reads as it did. -/
def chunkRawUptoRow : OpenClaim := { program := "ytfcjngcnifdmnaa", sum := "e892d93c6d82cc1345c86a36ef7ce796a77e6deede76a770c62b66e154b5ef16", func := "dotterel/dotterellaw24.ChunkRaw", spec := "chunkRaw", inPlace := ["maps.clone"], unfollowed := true, recurses := true, apart := false, narrowed := true }
def ChunkRawUptoSaid : Prop := chunkRawUptoRow.holds Try.pinned (OpenSpec.upto chunkRawSpec)

end Rows
end Go.Proofs.Ytfcjngcnifdmnaa
