/-
  No cell of these rows narrows 'for every input' (looked for: loops, veiled, ifaces, maps, wideKeys, modest, calm, conditions, laid).
  DERIVED. THE GIVEN ROWS OF THIS SEAT. 4 by the template 'for every input the law returns true; each argument reads behind the call as it read before'; 0 by the template 'total and deterministic' (their statements: YtfcjngcnifdmnaaGreatTotals.lean).
  GIVEN WITH THE SEED: the statements are not yours to turn. If you find one false, say at which input.
  Laid BY PROGRAM, IN A SANDBOX (cutbox-rows.mjs): the forced cells as the released guide's own fill.sh prints them over the translation 761c45b5a35f5517… (all of the seat's roots in one cut). By AI agents, Wed Nov 11 2026. No macro, syntax, notation, axiom, sorry.
-/
import Derived.Test.YtfcjngcnifdmnaaGreatChecked
import GoSem.Claim
import GoSem.ClaimJoined
import GoSem.ClaimMapViews
import Derived.JoinedTies
import Derived.KernelRfl
namespace Go.Proofs.YtfcjngcnifdmnaaGreat
/- THE CELL 'sum', in the pinned program and in every row, IS THE sha256 OF THE DUMP (.gsa) THAT YtfcjngcnifdmnaaGreatProg.lean LOADS. Nothing in Lean hashes anything: it is a label: what it is worth is what the hold of that sum in a sandbox is worth. -/
noncomputable def Tryz.pinned : Pinned := { name := "ytfcjngcnifdmnaagreat", sum := "761c45b5a35f5517b28c1511f63cbed96e35f7edec1341844cad31ee374207f7", checked := Tryz.checked }
namespace Rows
def none {H : Type} : Left H := { results := [], args := [] }

/-- 'dotterellaw24.ChunkKeeps': WHATEVER THE INPUT: true; the input reads as it did. -/
def chunkKeepsSpec : ChangeSpec := { name := "chunkKeeps", fn := fun _ => fun
  | [d1, d2] => { results := [.lit (.bool true)], args := [d1, d2] }
  | _ => none }
def chunkKeepsRow : OpenClaim := { program := "ytfcjngcnifdmnaagreat", sum := "761c45b5a35f5517b28c1511f63cbed96e35f7edec1341844cad31ee374207f7", func := "dotterel/dotterellaw24.ChunkKeeps", spec := "chunkKeeps", inPlace := ["maps.clone"], unfollowed := true, recurses := true, plainKeys := false, apart := false }
def ChunkKeepsSaid : Prop := chunkKeepsRow.holds Tryz.pinned (OpenSpec.ofChange chunkKeepsSpec)

/-- ITS FALSE NEIGHBOUR: 'it returns false'. Refute it at one input. -/
def chunkKeepsWrong : ChangeSpec := { name := "chunkKeeps", fn := fun _ => fun
  | [d1, d2] => { results := [.lit (.bool false)], args := [d1, d2] }
  | _ => none }
def ChunkKeepsWrongFalsely : Prop := chunkKeepsRow.holds Tryz.pinned (OpenSpec.ofChange chunkKeepsWrong)

/-- 'dotterellaw24.ChunkSame': WHATEVER THE INPUT: true; the input reads as it did. -/
def chunkSameSpec : ChangeSpec := { name := "chunkSame", fn := fun _ => fun
  | [d] => { results := [.lit (.bool true)], args := [d] }
  | _ => none }
def chunkSameRow : OpenClaim := { program := "ytfcjngcnifdmnaagreat", sum := "761c45b5a35f5517b28c1511f63cbed96e35f7edec1341844cad31ee374207f7", func := "dotterel/dotterellaw24.ChunkSame", spec := "chunkSame", inPlace := ["maps.clone"], unfollowed := true, recurses := true, plainKeys := false, apart := false }
def ChunkSameSaid : Prop := chunkSameRow.holds Tryz.pinned (OpenSpec.ofChange chunkSameSpec)

/-- ITS FALSE NEIGHBOUR: 'it returns false'. Refute it at one input. -/
def chunkSameWrong : ChangeSpec := { name := "chunkSame", fn := fun _ => fun
  | [d] => { results := [.lit (.bool false)], args := [d] }
  | _ => none }
def ChunkSameWrongFalsely : Prop := chunkSameRow.holds Tryz.pinned (OpenSpec.ofChange chunkSameWrong)

/-- 'dotterellaw24.ChunkOne': WHATEVER THE INPUT: true; the input reads as it did. -/
def chunkOneSpec : ChangeSpec := { name := "chunkOne", fn := fun _ => fun
  | [d] => { results := [.lit (.bool true)], args := [d] }
  | _ => none }
def chunkOneRow : OpenClaim := { program := "ytfcjngcnifdmnaagreat", sum := "761c45b5a35f5517b28c1511f63cbed96e35f7edec1341844cad31ee374207f7", func := "dotterel/dotterellaw24.ChunkOne", spec := "chunkOne", inPlace := ["maps.clone"], unfollowed := true, recurses := true, plainKeys := false, apart := false }
def ChunkOneSaid : Prop := chunkOneRow.holds Tryz.pinned (OpenSpec.ofChange chunkOneSpec)

/-- ITS FALSE NEIGHBOUR: 'it returns false'. Refute it at one input. -/
def chunkOneWrong : ChangeSpec := { name := "chunkOne", fn := fun _ => fun
  | [d] => { results := [.lit (.bool false)], args := [d] }
  | _ => none }
def ChunkOneWrongFalsely : Prop := chunkOneRow.holds Tryz.pinned (OpenSpec.ofChange chunkOneWrong)

/-- 'dotterellaw24.ChunkLive': WHATEVER THE INPUT: true; the input reads as it did. -/
def chunkLiveSpec : ChangeSpec := { name := "chunkLive", fn := fun _ => fun
  | [d1, d2] => { results := [.lit (.bool true)], args := [d1, d2] }
  | _ => none }
def chunkLiveRow : OpenClaim := { program := "ytfcjngcnifdmnaagreat", sum := "761c45b5a35f5517b28c1511f63cbed96e35f7edec1341844cad31ee374207f7", func := "dotterel/dotterellaw24.ChunkLive", spec := "chunkLive", inPlace := ["maps.clone"], unfollowed := true, recurses := true, plainKeys := false, apart := false }
def ChunkLiveSaid : Prop := chunkLiveRow.holds Tryz.pinned (OpenSpec.ofChange chunkLiveSpec)

/-- ITS FALSE NEIGHBOUR: 'it returns false'. Refute it at one input. -/
def chunkLiveWrong : ChangeSpec := { name := "chunkLive", fn := fun _ => fun
  | [d1, d2] => { results := [.lit (.bool false)], args := [d1, d2] }
  | _ => none }
def ChunkLiveWrongFalsely : Prop := chunkLiveRow.holds Tryz.pinned (OpenSpec.ofChange chunkLiveWrong)

/- THE SECOND FORM. 'bulk': how many values and letters a reading holds, each counted each time it is reached (what is shared counts as often as it is met; a slice's spare places count too). A statement '..UptoSaid' is the law's where the arguments, and the package variables that the reading takes, are together of bulk at most 1048576: NARROWER than '..Said'. Prove '..Said' where nothing that the law and all that it calls make is longer than what came in: it says more and counts as full. Else prove '..UptoSaid'. A law counts once. -/
mutual
def uptoBulk {H : Type} : DataW H → Nat
  | .lit (.string bytes) => bytes.length + 1
  | .lit _ => 1
  | .nil => 1
  | .ptr d => uptoBulk d + 1
  | .slice elems spare => uptoBulkAll elems + uptoBulkAll spare + 1
  | .agg parts => uptoBulkAll parts + 1
  | .iface _ d => uptoBulk d + 1
  | .map entries => uptoBulkEntries entries + 1
  | .held _ => 1
def uptoBulkAll {H : Type} : List (DataW H) → Nat
  | [] => 0
  | d :: r => uptoBulk d + uptoBulkAll r
def uptoBulkEntries {H : Type} : List (Lit × DataW H) → Nat
  | [] => 0
  | x :: r => uptoBulkEntry x + uptoBulkEntries r
def uptoBulkEntry {H : Type} : Lit × DataW H → Nat
  | (.string bytes, d) => bytes.length + uptoBulk d + 1
  | (_, d) => uptoBulk d + 1
 end
def uptoSmall : (H : Type) → List (DataW H) → Bool := fun _ ds => decide (uptoBulkAll ds ≤ 1048576)
def OpenSpec.upto (s : _root_.Go.ChangeSpec) : _root_.Go.OpenSpec := { _root_.Go.OpenSpec.ofChange s with cond := some uptoSmall }

/-- 'dotterellaw24.ChunkKeeps', WHERE WHAT IT READS IS OF BULK AT MOST 1048576: true; the input reads as it did. -/
def chunkKeepsUptoRow : OpenClaim := { program := "ytfcjngcnifdmnaagreat", sum := "761c45b5a35f5517b28c1511f63cbed96e35f7edec1341844cad31ee374207f7", func := "dotterel/dotterellaw24.ChunkKeeps", spec := "chunkKeeps", inPlace := ["maps.clone"], unfollowed := true, recurses := true, plainKeys := false, apart := false, narrowed := true }
def ChunkKeepsUptoSaid : Prop := chunkKeepsUptoRow.holds Tryz.pinned (OpenSpec.upto chunkKeepsSpec)

/-- 'dotterellaw24.ChunkSame', WHERE WHAT IT READS IS OF BULK AT MOST 1048576: true; the input reads as it did. -/
def chunkSameUptoRow : OpenClaim := { program := "ytfcjngcnifdmnaagreat", sum := "761c45b5a35f5517b28c1511f63cbed96e35f7edec1341844cad31ee374207f7", func := "dotterel/dotterellaw24.ChunkSame", spec := "chunkSame", inPlace := ["maps.clone"], unfollowed := true, recurses := true, plainKeys := false, apart := false, narrowed := true }
def ChunkSameUptoSaid : Prop := chunkSameUptoRow.holds Tryz.pinned (OpenSpec.upto chunkSameSpec)

/-- 'dotterellaw24.ChunkOne', WHERE WHAT IT READS IS OF BULK AT MOST 1048576: true; the input reads as it did. -/
def chunkOneUptoRow : OpenClaim := { program := "ytfcjngcnifdmnaagreat", sum := "761c45b5a35f5517b28c1511f63cbed96e35f7edec1341844cad31ee374207f7", func := "dotterel/dotterellaw24.ChunkOne", spec := "chunkOne", inPlace := ["maps.clone"], unfollowed := true, recurses := true, plainKeys := false, apart := false, narrowed := true }
def ChunkOneUptoSaid : Prop := chunkOneUptoRow.holds Tryz.pinned (OpenSpec.upto chunkOneSpec)

/-- 'dotterellaw24.ChunkLive', WHERE WHAT IT READS IS OF BULK AT MOST 1048576: true; the input reads as it did. -/
def chunkLiveUptoRow : OpenClaim := { program := "ytfcjngcnifdmnaagreat", sum := "761c45b5a35f5517b28c1511f63cbed96e35f7edec1341844cad31ee374207f7", func := "dotterel/dotterellaw24.ChunkLive", spec := "chunkLive", inPlace := ["maps.clone"], unfollowed := true, recurses := true, plainKeys := false, apart := false, narrowed := true }
def ChunkLiveUptoSaid : Prop := chunkLiveUptoRow.holds Tryz.pinned (OpenSpec.upto chunkLiveSpec)

end Rows
end Go.Proofs.YtfcjngcnifdmnaaGreat
