/-
  No cell of these rows narrows 'for every input' (looked for: loops, veiled, ifaces, maps, wideKeys, modest, calm, conditions, laid).
  DERIVED. THE GIVEN ROWS OF THIS SEAT. 4 by the template 'for every input the law returns true; each argument reads behind the call as it read before'; 0 by the template 'total and deterministic' (their statements: YtkodjbegpheomaaTotals.lean).
  GIVEN WITH THE SEED: the statements are not yours to turn. If you find one false, say at which input.
  Laid BY PROGRAM, IN A SANDBOX (cutbox-rows.mjs): the forced cells as the released guide's own fill.sh prints them over the translation 13f6118d7d590130… (all of the seat's roots in one cut). By AI agents, Wed Nov 11 2026. No macro, syntax, notation, axiom, sorry.
-/
import Derived.Test.YtkodjbegpheomaaChecked
import GoSem.Claim
import GoSem.ClaimJoined
import GoSem.ClaimMapViews
import Derived.JoinedTies
import Derived.KernelRfl
namespace Go.Proofs.Ytkodjbegpheomaa
/- THE CELL 'sum', in the pinned program and in every row, IS THE sha256 OF THE DUMP (.gsa) THAT YtkodjbegpheomaaProg.lean LOADS. Nothing in Lean hashes anything: it is a label: what it is worth is what the hold of that sum in a sandbox is worth. -/
noncomputable def Try.pinned : Pinned := { name := "ytkodjbegpheomaa", sum := "13f6118d7d5901303366a951f42e5ed7954bb83a655d77fa19a3c1c6a0a759ba", checked := Try.checked }
namespace Rows
def none {H : Type} : Left H := { results := [], args := [] }

/-- 'dotterellaw06.VaultTurns': WHATEVER THE INPUT: true; the input reads as it did. -/
def vaultTurnsSpec : ChangeSpec := { name := "vaultTurns", fn := fun _ => fun
  | [d1, d2] => { results := [.lit (.bool true)], args := [d1, d2] }
  | _ => none }
def vaultTurnsRow : OpenClaim := { program := "ytkodjbegpheomaa", sum := "13f6118d7d5901303366a951f42e5ed7954bb83a655d77fa19a3c1c6a0a759ba", func := "dotterel/dotterellaw06.VaultTurns", spec := "vaultTurns", inPlace := ["maps.clone"], unfollowed := true, recurses := true, apart := false }
def VaultTurnsSaid : Prop := vaultTurnsRow.holds Try.pinned (OpenSpec.ofChange vaultTurnsSpec)

/-- ITS FALSE NEIGHBOUR: 'it returns false'. Refute it at one input. -/
def vaultTurnsWrong : ChangeSpec := { name := "vaultTurns", fn := fun _ => fun
  | [d1, d2] => { results := [.lit (.bool false)], args := [d1, d2] }
  | _ => none }
def VaultTurnsWrongFalsely : Prop := vaultTurnsRow.holds Try.pinned (OpenSpec.ofChange vaultTurnsWrong)

/-- 'dotterellaw06.VaultMany': WHATEVER THE INPUT: true; the input reads as it did. -/
def vaultManySpec : ChangeSpec := { name := "vaultMany", fn := fun _ => fun
  | [d1, d2] => { results := [.lit (.bool true)], args := [d1, d2] }
  | _ => none }
def vaultManyRow : OpenClaim := { program := "ytkodjbegpheomaa", sum := "13f6118d7d5901303366a951f42e5ed7954bb83a655d77fa19a3c1c6a0a759ba", func := "dotterel/dotterellaw06.VaultMany", spec := "vaultMany", inPlace := ["maps.clone"], unfollowed := true, recurses := true, apart := false }
def VaultManySaid : Prop := vaultManyRow.holds Try.pinned (OpenSpec.ofChange vaultManySpec)

/-- ITS FALSE NEIGHBOUR: 'it returns false'. Refute it at one input. -/
def vaultManyWrong : ChangeSpec := { name := "vaultMany", fn := fun _ => fun
  | [d1, d2] => { results := [.lit (.bool false)], args := [d1, d2] }
  | _ => none }
def VaultManyWrongFalsely : Prop := vaultManyRow.holds Try.pinned (OpenSpec.ofChange vaultManyWrong)

/-- 'dotterellaw06.VaultPlays': WHATEVER THE INPUT: true; the input reads as it did. -/
def vaultPlaysSpec : ChangeSpec := { name := "vaultPlays", fn := fun _ => fun
  | [d1, d2] => { results := [.lit (.bool true)], args := [d1, d2] }
  | _ => none }
def vaultPlaysRow : OpenClaim := { program := "ytkodjbegpheomaa", sum := "13f6118d7d5901303366a951f42e5ed7954bb83a655d77fa19a3c1c6a0a759ba", func := "dotterel/dotterellaw06.VaultPlays", spec := "vaultPlays", inPlace := ["maps.clone"], unfollowed := true, recurses := true, apart := false }
def VaultPlaysSaid : Prop := vaultPlaysRow.holds Try.pinned (OpenSpec.ofChange vaultPlaysSpec)

/-- ITS FALSE NEIGHBOUR: 'it returns false'. Refute it at one input. -/
def vaultPlaysWrong : ChangeSpec := { name := "vaultPlays", fn := fun _ => fun
  | [d1, d2] => { results := [.lit (.bool false)], args := [d1, d2] }
  | _ => none }
def VaultPlaysWrongFalsely : Prop := vaultPlaysRow.holds Try.pinned (OpenSpec.ofChange vaultPlaysWrong)

/-- 'dotterellaw06.VaultOwn': WHATEVER THE INPUT: true; the input reads as it did. -/
def vaultOwnSpec : ChangeSpec := { name := "vaultOwn", fn := fun _ => fun
  | [d1, d2, d3] => { results := [.lit (.bool true)], args := [d1, d2, d3] }
  | _ => none }
def vaultOwnRow : OpenClaim := { program := "ytkodjbegpheomaa", sum := "13f6118d7d5901303366a951f42e5ed7954bb83a655d77fa19a3c1c6a0a759ba", func := "dotterel/dotterellaw06.VaultOwn", spec := "vaultOwn", inPlace := ["maps.clone"], unfollowed := true, recurses := true, apart := false }
def VaultOwnSaid : Prop := vaultOwnRow.holds Try.pinned (OpenSpec.ofChange vaultOwnSpec)

/-- ITS FALSE NEIGHBOUR: 'it returns false'. Refute it at one input. -/
def vaultOwnWrong : ChangeSpec := { name := "vaultOwn", fn := fun _ => fun
  | [d1, d2, d3] => { results := [.lit (.bool false)], args := [d1, d2, d3] }
  | _ => none }
def VaultOwnWrongFalsely : Prop := vaultOwnRow.holds Try.pinned (OpenSpec.ofChange vaultOwnWrong)

/- THE SECOND FORM. 'bulk': how many values and letters a reading holds, each counted each time it is reached (what is shared counts as often as it is met; a slice's spare places count too). A statement '..UptoSaid' is the law's where the arguments, and the package variables that the reading takes, are together of bulk at most 1048576: NARROWER than '..Said'. Prove '..Said' where nothing that the law and all that it calls make is longer than what came in: it says more and counts as full. Else prove '..UptoSaid'. A law counts once. -/
mutual
def uptoBulk {H : Type} : DataW H → Nat
  | .lit (.string bytes) => bytes.length + 1
  | .lit _ => 1
  | .nil => 1
  | .ptr d => uptoBulk d + 1
  | .slice elems spare => uptoBulkAll elems + uptoBulkAll spare + 1
  | .agg parts => uptoBulkAll parts + 1
  | .iface _ d => uptoBulk d + 1
  | .map entries => uptoBulkEntries entries + 1
  | .held _ => 1
def uptoBulkAll {H : Type} : List (DataW H) → Nat
  | [] => 0
  | d :: r => uptoBulk d + uptoBulkAll r
def uptoBulkEntries {H : Type} : List (Lit × DataW H) → Nat
  | [] => 0
  | x :: r => uptoBulkEntry x + uptoBulkEntries r
def uptoBulkEntry {H : Type} : Lit × DataW H → Nat
  | (.string bytes, d) => bytes.length + uptoBulk d + 1
  | (_, d) => uptoBulk d + 1
 end
def uptoSmall : (H : Type) → List (DataW H) → Bool := fun _ ds => decide (uptoBulkAll ds ≤ 1048576)
def OpenSpec.upto (s : _root_.Go.ChangeSpec) : _root_.Go.OpenSpec := { _root_.Go.OpenSpec.ofChange s with cond := some uptoSmall }

/-- 'dotterellaw06.VaultTurns', WHERE WHAT IT READS IS OF BULK AT MOST 1048576: true; the input reads as it did. -/
def vaultTurnsUptoRow : OpenClaim := { program := "ytkodjbegpheomaa", sum := "13f6118d7d5901303366a951f42e5ed7954bb83a655d77fa19a3c1c6a0a759ba", func := "dotterel/dotterellaw06.VaultTurns", spec := "vaultTurns", inPlace := ["maps.clone"], unfollowed := true, recurses := true, apart := false, narrowed := true }
def VaultTurnsUptoSaid : Prop := vaultTurnsUptoRow.holds Try.pinned (OpenSpec.upto vaultTurnsSpec)

/-- 'dotterellaw06.VaultMany', WHERE WHAT IT READS IS OF BULK AT MOST 1048576: true; the input reads as it did. -/
def vaultManyUptoRow : OpenClaim := { program := "ytkodjbegpheomaa", sum := "13f6118d7d5901303366a951f42e5ed7954bb83a655d77fa19a3c1c6a0a759ba", func := "dotterel/dotterellaw06.VaultMany", spec := "vaultMany", inPlace := ["maps.clone"], unfollowed := true, recurses := true, apart := false, narrowed := true }
def VaultManyUptoSaid : Prop := vaultManyUptoRow.holds Try.pinned (OpenSpec.upto vaultManySpec)

/-- 'dotterellaw06.VaultPlays', WHERE WHAT IT READS IS OF BULK AT MOST 1048576: true; the input reads as it did. -/
def vaultPlaysUptoRow : OpenClaim := { program := "ytkodjbegpheomaa", sum := "13f6118d7d5901303366a951f42e5ed7954bb83a655d77fa19a3c1c6a0a759ba", func := "dotterel/dotterellaw06.VaultPlays", spec := "vaultPlays", inPlace := ["maps.clone"], unfollowed := true, recurses := true, apart := false, narrowed := true }
def VaultPlaysUptoSaid : Prop := vaultPlaysUptoRow.holds Try.pinned (OpenSpec.upto vaultPlaysSpec)

/-- 'dotterellaw06.VaultOwn', WHERE WHAT IT READS IS OF BULK AT MOST 1048576: true; the input reads as it did. -/
def vaultOwnUptoRow : OpenClaim := { program := "ytkodjbegpheomaa", sum := "13f6118d7d5901303366a951f42e5ed7954bb83a655d77fa19a3c1c6a0a759ba", func := "dotterel/dotterellaw06.VaultOwn", spec := "vaultOwn", inPlace := ["maps.clone"], unfollowed := true, recurses := true, apart := false, narrowed := true }
def VaultOwnUptoSaid : Prop := vaultOwnUptoRow.holds Try.pinned (OpenSpec.upto vaultOwnSpec)

end Rows
end Go.Proofs.Ytkodjbegpheomaa
