/-
  No cell of these rows narrows 'for every input' (looked for: loops, veiled, ifaces, maps, wideKeys, modest, calm, conditions, laid).
  DERIVED. THE GIVEN ROWS OF THIS SEAT. 5 by the template 'for every input the law returns true; each argument reads behind the call as it read before'; 0 by the template 'total and deterministic' (their statements: YtodibmhakdhflaaTotals.lean).
  GIVEN WITH THE SEED: the statements are not yours to turn. If you find one false, say at which input.
  Laid BY PROGRAM, IN A SANDBOX (cutbox-rows.mjs): the forced cells as the released guide's own fill.sh prints them over the translation 7ea05eed437d7a24… (all of the seat's roots in one cut). By AI agents, Wed Nov 11 2026. No macro, syntax, notation, axiom, sorry.
-/
import Derived.Test.YtodibmhakdhflaaChecked
import GoSem.Claim
import GoSem.ClaimJoined
import GoSem.ClaimMapViews
import Derived.JoinedTies
import Derived.KernelRfl
namespace Go.Proofs.Ytodibmhakdhflaa
/- THE CELL 'sum', in the pinned program and in every row, IS THE sha256 OF THE DUMP (.gsa) THAT YtodibmhakdhflaaProg.lean LOADS. Nothing in Lean hashes anything: it is a label: what it is worth is what the hold of that sum in a sandbox is worth. -/
noncomputable def Try.pinned : Pinned := { name := "ytodibmhakdhflaa", sum := "7ea05eed437d7a24d70715c60653946b7b0b6fabcbf63189c07953d436debf02", checked := Try.checked }
namespace Rows
def none {H : Type} : Left H := { results := [], args := [] }

/-- 'dotterellaw23.HistoryFinds': WHATEVER THE INPUT: true; the input reads as it did. -/
def historyFindsSpec : ChangeSpec := { name := "historyFinds", fn := fun _ => fun
  | [d] => { results := [.lit (.bool true)], args := [d] }
  | _ => none }
def historyFindsRow : OpenClaim := { program := "ytodibmhakdhflaa", sum := "7ea05eed437d7a24d70715c60653946b7b0b6fabcbf63189c07953d436debf02", func := "dotterel/dotterellaw23.HistoryFinds", spec := "historyFinds", recurses := true, plainKeys := false, apart := false }
def HistoryFindsSaid : Prop := historyFindsRow.holds Try.pinned (OpenSpec.ofChange historyFindsSpec)

/-- ITS FALSE NEIGHBOUR: 'it returns false'. Refute it at one input. -/
def historyFindsWrong : ChangeSpec := { name := "historyFinds", fn := fun _ => fun
  | [d] => { results := [.lit (.bool false)], args := [d] }
  | _ => none }
def HistoryFindsWrongFalsely : Prop := historyFindsRow.holds Try.pinned (OpenSpec.ofChange historyFindsWrong)

/-- 'dotterellaw23.HistoryTrue': WHATEVER THE INPUT: true; the input reads as it did. -/
def historyTrueSpec : ChangeSpec := { name := "historyTrue", fn := fun _ => fun
  | [d1, d2, d3, d4] => { results := [.lit (.bool true)], args := [d1, d2, d3, d4] }
  | _ => none }
def historyTrueRow : OpenClaim := { program := "ytodibmhakdhflaa", sum := "7ea05eed437d7a24d70715c60653946b7b0b6fabcbf63189c07953d436debf02", func := "dotterel/dotterellaw23.HistoryTrue", spec := "historyTrue", recurses := true, plainKeys := false, apart := false }
def HistoryTrueSaid : Prop := historyTrueRow.holds Try.pinned (OpenSpec.ofChange historyTrueSpec)

/-- ITS FALSE NEIGHBOUR: 'it returns false'. Refute it at one input. -/
def historyTrueWrong : ChangeSpec := { name := "historyTrue", fn := fun _ => fun
  | [d1, d2, d3, d4] => { results := [.lit (.bool false)], args := [d1, d2, d3, d4] }
  | _ => none }
def HistoryTrueWrongFalsely : Prop := historyTrueRow.holds Try.pinned (OpenSpec.ofChange historyTrueWrong)

/-- 'dotterellaw23.HistoryStale': WHATEVER THE INPUT: true; the input reads as it did. -/
def historyStaleSpec : ChangeSpec := { name := "historyStale", fn := fun _ => fun
  | [d1, d2, d3] => { results := [.lit (.bool true)], args := [d1, d2, d3] }
  | _ => none }
def historyStaleRow : OpenClaim := { program := "ytodibmhakdhflaa", sum := "7ea05eed437d7a24d70715c60653946b7b0b6fabcbf63189c07953d436debf02", func := "dotterel/dotterellaw23.HistoryStale", spec := "historyStale", recurses := true, plainKeys := false, apart := false }
def HistoryStaleSaid : Prop := historyStaleRow.holds Try.pinned (OpenSpec.ofChange historyStaleSpec)

/-- ITS FALSE NEIGHBOUR: 'it returns false'. Refute it at one input. -/
def historyStaleWrong : ChangeSpec := { name := "historyStale", fn := fun _ => fun
  | [d1, d2, d3] => { results := [.lit (.bool false)], args := [d1, d2, d3] }
  | _ => none }
def HistoryStaleWrongFalsely : Prop := historyStaleRow.holds Try.pinned (OpenSpec.ofChange historyStaleWrong)

/-- 'dotterellaw23.HistoryWider': WHATEVER THE INPUT: true; the input reads as it did. -/
def historyWiderSpec : ChangeSpec := { name := "historyWider", fn := fun _ => fun
  | [d1, d2, d3] => { results := [.lit (.bool true)], args := [d1, d2, d3] }
  | _ => none }
def historyWiderRow : OpenClaim := { program := "ytodibmhakdhflaa", sum := "7ea05eed437d7a24d70715c60653946b7b0b6fabcbf63189c07953d436debf02", func := "dotterel/dotterellaw23.HistoryWider", spec := "historyWider", recurses := true, plainKeys := false, apart := false }
def HistoryWiderSaid : Prop := historyWiderRow.holds Try.pinned (OpenSpec.ofChange historyWiderSpec)

/-- ITS FALSE NEIGHBOUR: 'it returns false'. Refute it at one input. -/
def historyWiderWrong : ChangeSpec := { name := "historyWider", fn := fun _ => fun
  | [d1, d2, d3] => { results := [.lit (.bool false)], args := [d1, d2, d3] }
  | _ => none }
def HistoryWiderWrongFalsely : Prop := historyWiderRow.holds Try.pinned (OpenSpec.ofChange historyWiderWrong)

/-- 'dotterellaw23.HistoryIs': WHATEVER THE INPUT: true; the input reads as it did. -/
def historyIsSpec : ChangeSpec := { name := "historyIs", fn := fun _ => fun
  | [d1, d2] => { results := [.lit (.bool true)], args := [d1, d2] }
  | _ => none }
def historyIsRow : OpenClaim := { program := "ytodibmhakdhflaa", sum := "7ea05eed437d7a24d70715c60653946b7b0b6fabcbf63189c07953d436debf02", func := "dotterel/dotterellaw23.HistoryIs", spec := "historyIs", recurses := true, plainKeys := false, apart := false }
def HistoryIsSaid : Prop := historyIsRow.holds Try.pinned (OpenSpec.ofChange historyIsSpec)

/-- ITS FALSE NEIGHBOUR: 'it returns false'. Refute it at one input. -/
def historyIsWrong : ChangeSpec := { name := "historyIs", fn := fun _ => fun
  | [d1, d2] => { results := [.lit (.bool false)], args := [d1, d2] }
  | _ => none }
def HistoryIsWrongFalsely : Prop := historyIsRow.holds Try.pinned (OpenSpec.ofChange historyIsWrong)

/- THE SECOND FORM. 'bulk': how many values and letters a reading holds, each counted each time it is reached (what is shared counts as often as it is met; a slice's spare places count too). A statement '..UptoSaid' is the law's where the arguments, and the package variables that the reading takes, are together of bulk at most 1048576: NARROWER than '..Said'. Prove '..Said' where nothing that the law and all that it calls make is longer than what came in: it says more and counts as full. Else prove '..UptoSaid'. A law counts once. -/
mutual
def uptoBulk {H : Type} : DataW H → Nat
  | .lit (.string bytes) => bytes.length + 1
  | .lit _ => 1
  | .nil => 1
  | .ptr d => uptoBulk d + 1
  | .slice elems spare => uptoBulkAll elems + uptoBulkAll spare + 1
  | .agg parts => uptoBulkAll parts + 1
  | .iface _ d => uptoBulk d + 1
  | .map entries => uptoBulkEntries entries + 1
  | .held _ => 1
def uptoBulkAll {H : Type} : List (DataW H) → Nat
  | [] => 0
  | d :: r => uptoBulk d + uptoBulkAll r
def uptoBulkEntries {H : Type} : List (Lit × DataW H) → Nat
  | [] => 0
  | x :: r => uptoBulkEntry x + uptoBulkEntries r
def uptoBulkEntry {H : Type} : Lit × DataW H → Nat
  | (.string bytes, d) => bytes.length + uptoBulk d + 1
  | (_, d) => uptoBulk d + 1
 end
def uptoSmall : (H : Type) → List (DataW H) → Bool := fun _ ds => decide (uptoBulkAll ds ≤ 1048576)
def OpenSpec.upto (s : _root_.Go.ChangeSpec) : _root_.Go.OpenSpec := { _root_.Go.OpenSpec.ofChange s with cond := some uptoSmall }

/-- 'dotterellaw23.HistoryFinds', WHERE WHAT IT READS IS OF BULK AT MOST 1048576: true; the input reads as it did. -/
def historyFindsUptoRow : OpenClaim := { program := "ytodibmhakdhflaa", sum := "7ea05eed437d7a24d70715c60653946b7b0b6fabcbf63189c07953d436debf02", func := "dotterel/dotterellaw23.HistoryFinds", spec := "historyFinds", recurses := true, plainKeys := false, apart := false, narrowed := true }
def HistoryFindsUptoSaid : Prop := historyFindsUptoRow.holds Try.pinned (OpenSpec.upto historyFindsSpec)

/-- 'dotterellaw23.HistoryTrue', WHERE WHAT IT READS IS OF BULK AT MOST 1048576: true; the input reads as it did. -/
def historyTrueUptoRow : OpenClaim := { program := "ytodibmhakdhflaa", sum := "7ea05eed437d7a24d70715c60653946b7b0b6fabcbf63189c07953d436debf02", func := "dotterel/dotterellaw23.HistoryTrue", spec := "historyTrue", recurses := true, plainKeys := false, apart := false, narrowed := true }
def HistoryTrueUptoSaid : Prop := historyTrueUptoRow.holds Try.pinned (OpenSpec.upto historyTrueSpec)

/-- 'dotterellaw23.HistoryStale', WHERE WHAT IT READS IS OF BULK AT MOST 1048576: true; the input reads as it did. -/
def historyStaleUptoRow : OpenClaim := { program := "ytodibmhakdhflaa", sum := "7ea05eed437d7a24d70715c60653946b7b0b6fabcbf63189c07953d436debf02", func := "dotterel/dotterellaw23.HistoryStale", spec := "historyStale", recurses := true, plainKeys := false, apart := false, narrowed := true }
def HistoryStaleUptoSaid : Prop := historyStaleUptoRow.holds Try.pinned (OpenSpec.upto historyStaleSpec)

/-- 'dotterellaw23.HistoryWider', WHERE WHAT IT READS IS OF BULK AT MOST 1048576: true; the input reads as it did. -/
def historyWiderUptoRow : OpenClaim := { program := "ytodibmhakdhflaa", sum := "7ea05eed437d7a24d70715c60653946b7b0b6fabcbf63189c07953d436debf02", func := "dotterel/dotterellaw23.HistoryWider", spec := "historyWider", recurses := true, plainKeys := false, apart := false, narrowed := true }
def HistoryWiderUptoSaid : Prop := historyWiderUptoRow.holds Try.pinned (OpenSpec.upto historyWiderSpec)

/-- 'dotterellaw23.HistoryIs', WHERE WHAT IT READS IS OF BULK AT MOST 1048576: true; the input reads as it did. -/
def historyIsUptoRow : OpenClaim := { program := "ytodibmhakdhflaa", sum := "7ea05eed437d7a24d70715c60653946b7b0b6fabcbf63189c07953d436debf02", func := "dotterel/dotterellaw23.HistoryIs", spec := "historyIs", recurses := true, plainKeys := false, apart := false, narrowed := true }
def HistoryIsUptoSaid : Prop := historyIsUptoRow.holds Try.pinned (OpenSpec.upto historyIsSpec)

end Rows
end Go.Proofs.Ytodibmhakdhflaa
