/-
  No cell of these rows narrows 'for every input' (looked for: loops, veiled, ifaces, maps, wideKeys, modest, calm, conditions, laid).
  DERIVED. THE GIVEN ROWS OF THIS SEAT. 4 by the template 'for every input the law returns true; each argument reads behind the call as it read before'; 0 by the template 'total and deterministic' (their statements: YthobahlcphmafaaTotals.lean).
  GIVEN WITH THE SEED: the statements are not yours to turn. If you find one false, say at which input.
  Laid BY PROGRAM, IN A SANDBOX (cutbox-rows.mjs): the forced cells as the released guide's own fill.sh prints them over the translation 3a86a5466e9ff0f5… (all of the seat's roots in one cut). By AI agents, Wed Nov 11 2026. No macro, syntax, notation, axiom, sorry.
-/
import Derived.Test.YthobahlcphmafaaChecked
import GoSem.Claim
import GoSem.ClaimJoined
import GoSem.ClaimMapViews
import Derived.JoinedTies
import Derived.KernelRfl
namespace Go.Proofs.Ythobahlcphmafaa
/- THE CELL 'sum', in the pinned program and in every row, IS THE sha256 OF THE DUMP (.gsa) THAT YthobahlcphmafaaProg.lean LOADS. Nothing in Lean hashes anything: it is a label: what it is worth is what the hold of that sum in a sandbox is worth. -/
noncomputable def Try.pinned : Pinned := { name := "ythobahlcphmafaa", sum := "3a86a5466e9ff0f543bda2fbc2341755fb1874432b3acc8595c729cba5575eb8", checked := Try.checked }
namespace Rows
def none {H : Type} : Left H := { results := [], args := [] }

/-- 'dotterellaw21.BlockOthers': WHATEVER THE INPUT: true; the input reads as it did. -/
def blockOthersSpec : ChangeSpec := { name := "blockOthers", fn := fun _ => fun
  | [d1, d2, d3] => { results := [.lit (.bool true)], args := [d1, d2, d3] }
  | _ => none }
def blockOthersRow : OpenClaim := { program := "ythobahlcphmafaa", sum := "3a86a5466e9ff0f543bda2fbc2341755fb1874432b3acc8595c729cba5575eb8", func := "dotterel/dotterellaw21.BlockOthers", spec := "blockOthers", apart := false }
def BlockOthersSaid : Prop := blockOthersRow.holds Try.pinned (OpenSpec.ofChange blockOthersSpec)

/-- ITS FALSE NEIGHBOUR: 'it returns false'. Refute it at one input. -/
def blockOthersWrong : ChangeSpec := { name := "blockOthers", fn := fun _ => fun
  | [d1, d2, d3] => { results := [.lit (.bool false)], args := [d1, d2, d3] }
  | _ => none }
def BlockOthersWrongFalsely : Prop := blockOthersRow.holds Try.pinned (OpenSpec.ofChange blockOthersWrong)

/-- 'dotterellaw21.BlockValues': WHATEVER THE INPUT: true; the input reads as it did. -/
def blockValuesSpec : ChangeSpec := { name := "blockValues", fn := fun _ => fun
  | [d1, d2] => { results := [.lit (.bool true)], args := [d1, d2] }
  | _ => none }
def blockValuesRow : OpenClaim := { program := "ythobahlcphmafaa", sum := "3a86a5466e9ff0f543bda2fbc2341755fb1874432b3acc8595c729cba5575eb8", func := "dotterel/dotterellaw21.BlockValues", spec := "blockValues", apart := false }
def BlockValuesSaid : Prop := blockValuesRow.holds Try.pinned (OpenSpec.ofChange blockValuesSpec)

/-- ITS FALSE NEIGHBOUR: 'it returns false'. Refute it at one input. -/
def blockValuesWrong : ChangeSpec := { name := "blockValues", fn := fun _ => fun
  | [d1, d2] => { results := [.lit (.bool false)], args := [d1, d2] }
  | _ => none }
def BlockValuesWrongFalsely : Prop := blockValuesRow.holds Try.pinned (OpenSpec.ofChange blockValuesWrong)

/-- 'dotterellaw21.BlockPlays': WHATEVER THE INPUT: true; the input reads as it did. -/
def blockPlaysSpec : ChangeSpec := { name := "blockPlays", fn := fun _ => fun
  | [d] => { results := [.lit (.bool true)], args := [d] }
  | _ => none }
def blockPlaysRow : OpenClaim := { program := "ythobahlcphmafaa", sum := "3a86a5466e9ff0f543bda2fbc2341755fb1874432b3acc8595c729cba5575eb8", func := "dotterel/dotterellaw21.BlockPlays", spec := "blockPlays", apart := false }
def BlockPlaysSaid : Prop := blockPlaysRow.holds Try.pinned (OpenSpec.ofChange blockPlaysSpec)

/-- ITS FALSE NEIGHBOUR: 'it returns false'. Refute it at one input. -/
def blockPlaysWrong : ChangeSpec := { name := "blockPlays", fn := fun _ => fun
  | [d] => { results := [.lit (.bool false)], args := [d] }
  | _ => none }
def BlockPlaysWrongFalsely : Prop := blockPlaysRow.holds Try.pinned (OpenSpec.ofChange blockPlaysWrong)

/-- 'dotterellaw21.BlockLoads': WHATEVER THE INPUT: true; the input reads as it did. -/
def blockLoadsSpec : ChangeSpec := { name := "blockLoads", fn := fun _ => fun
  | [d] => { results := [.lit (.bool true)], args := [d] }
  | _ => none }
def blockLoadsRow : OpenClaim := { program := "ythobahlcphmafaa", sum := "3a86a5466e9ff0f543bda2fbc2341755fb1874432b3acc8595c729cba5575eb8", func := "dotterel/dotterellaw21.BlockLoads", spec := "blockLoads", apart := false }
def BlockLoadsSaid : Prop := blockLoadsRow.holds Try.pinned (OpenSpec.ofChange blockLoadsSpec)

/-- ITS FALSE NEIGHBOUR: 'it returns false'. Refute it at one input. -/
def blockLoadsWrong : ChangeSpec := { name := "blockLoads", fn := fun _ => fun
  | [d] => { results := [.lit (.bool false)], args := [d] }
  | _ => none }
def BlockLoadsWrongFalsely : Prop := blockLoadsRow.holds Try.pinned (OpenSpec.ofChange blockLoadsWrong)

/- THE SECOND FORM. 'bulk': how many values and letters a reading holds, each counted each time it is reached (what is shared counts as often as it is met; a slice's spare places count too). A statement '..UptoSaid' is the law's where the arguments, and the package variables that the reading takes, are together of bulk at most 1048576: NARROWER than '..Said'. Prove '..Said' where nothing that the law and all that it calls make is longer than what came in: it says more and counts as full. Else prove '..UptoSaid'. A law counts once. -/
mutual
def uptoBulk {H : Type} : DataW H → Nat
  | .lit (.string bytes) => bytes.length + 1
  | .lit _ => 1
  | .nil => 1
  | .ptr d => uptoBulk d + 1
  | .slice elems spare => uptoBulkAll elems + uptoBulkAll spare + 1
  | .agg parts => uptoBulkAll parts + 1
  | .iface _ d => uptoBulk d + 1
  | .map entries => uptoBulkEntries entries + 1
  | .held _ => 1
def uptoBulkAll {H : Type} : List (DataW H) → Nat
  | [] => 0
  | d :: r => uptoBulk d + uptoBulkAll r
def uptoBulkEntries {H : Type} : List (Lit × DataW H) → Nat
  | [] => 0
  | x :: r => uptoBulkEntry x + uptoBulkEntries r
def uptoBulkEntry {H : Type} : Lit × DataW H → Nat
  | (.string bytes, d) => bytes.length + uptoBulk d + 1
  | (_, d) => uptoBulk d + 1
 end
def uptoSmall : (H : Type) → List (DataW H) → Bool := fun _ ds => decide (uptoBulkAll ds ≤ 1048576)
def OpenSpec.upto (s : _root_.Go.ChangeSpec) : _root_.Go.OpenSpec := { _root_.Go.OpenSpec.ofChange s with cond := some uptoSmall }

/-- 'dotterellaw21.BlockOthers', WHERE WHAT IT READS IS OF BULK AT MOST 1048576: true; the input reads as it did. -/
def blockOthersUptoRow : OpenClaim := { program := "ythobahlcphmafaa", sum := "3a86a5466e9ff0f543bda2fbc2341755fb1874432b3acc8595c729cba5575eb8", func := "dotterel/dotterellaw21.BlockOthers", spec := "blockOthers", apart := false, narrowed := true }
def BlockOthersUptoSaid : Prop := blockOthersUptoRow.holds Try.pinned (OpenSpec.upto blockOthersSpec)

/-- 'dotterellaw21.BlockValues', WHERE WHAT IT READS IS OF BULK AT MOST 1048576: true; the input reads as it did. -/
def blockValuesUptoRow : OpenClaim := { program := "ythobahlcphmafaa", sum := "3a86a5466e9ff0f543bda2fbc2341755fb1874432b3acc8595c729cba5575eb8", func := "dotterel/dotterellaw21.BlockValues", spec := "blockValues", apart := false, narrowed := true }
def BlockValuesUptoSaid : Prop := blockValuesUptoRow.holds Try.pinned (OpenSpec.upto blockValuesSpec)

/-- 'dotterellaw21.BlockPlays', WHERE WHAT IT READS IS OF BULK AT MOST 1048576: true; the input reads as it did. -/
def blockPlaysUptoRow : OpenClaim := { program := "ythobahlcphmafaa", sum := "3a86a5466e9ff0f543bda2fbc2341755fb1874432b3acc8595c729cba5575eb8", func := "dotterel/dotterellaw21.BlockPlays", spec := "blockPlays", apart := false, narrowed := true }
def BlockPlaysUptoSaid : Prop := blockPlaysUptoRow.holds Try.pinned (OpenSpec.upto blockPlaysSpec)

/-- 'dotterellaw21.BlockLoads', WHERE WHAT IT READS IS OF BULK AT MOST 1048576: true; the input reads as it did. -/
def blockLoadsUptoRow : OpenClaim := { program := "ythobahlcphmafaa", sum := "3a86a5466e9ff0f543bda2fbc2341755fb1874432b3acc8595c729cba5575eb8", func := "dotterel/dotterellaw21.BlockLoads", spec := "blockLoads", apart := false, narrowed := true }
def BlockLoadsUptoSaid : Prop := blockLoadsUptoRow.holds Try.pinned (OpenSpec.upto blockLoadsSpec)

end Rows
end Go.Proofs.Ythobahlcphmafaa
