/-
  No cell of these rows narrows 'for every input' (looked for: loops, veiled, ifaces, maps, wideKeys, modest, calm, conditions, laid).
  DERIVED. THE GIVEN ROWS OF THIS SEAT. 4 by the template 'for every input the law returns true; each argument reads behind the call as it read before'; 0 by the template 'total and deterministic' (their statements: YtffbeiaokmopgaaTotals.lean).
  GIVEN WITH THE SEED: the statements are not yours to turn. If you find one false, say at which input.
  Laid BY PROGRAM, IN A SANDBOX (cutbox-rows.mjs): the forced cells as the released guide's own fill.sh prints them over the translation 74bf02f6b431ad17… (all of the seat's roots in one cut). By AI agents, Wed Nov 11 2026. No macro, syntax, notation, axiom, sorry.
-/
import Derived.Test.YtffbeiaokmopgaaChecked
import GoSem.Claim
import GoSem.ClaimJoined
import GoSem.ClaimMapViews
import Derived.JoinedTies
import Derived.KernelRfl
namespace Go.Proofs.Ytffbeiaokmopgaa
/- THE CELL 'sum', in the pinned program and in every row, IS THE sha256 OF THE DUMP (.gsa) THAT YtffbeiaokmopgaaProg.lean LOADS. Nothing in Lean hashes anything: it is a label: what it is worth is what the hold of that sum in a sandbox is worth. -/
noncomputable def Try.pinned : Pinned := { name := "ytffbeiaokmopgaa", sum := "74bf02f6b431ad170b715e614f386b9d313d01c20903718f8ca34968c174309a", checked := Try.checked }
namespace Rows
def none {H : Type} : Left H := { results := [], args := [] }

/-- 'dotterellaw13.RhoTells': WHATEVER THE INPUT: true; the input reads as it did. -/
def rhoTellsSpec : ChangeSpec := { name := "rhoTells", fn := fun _ => fun
  | [d] => { results := [.lit (.bool true)], args := [d] }
  | _ => none }
def rhoTellsRow : OpenClaim := { program := "ytffbeiaokmopgaa", sum := "74bf02f6b431ad170b715e614f386b9d313d01c20903718f8ca34968c174309a", func := "dotterel/dotterellaw13.RhoTells", spec := "rhoTells", apart := false }
def RhoTellsSaid : Prop := rhoTellsRow.holds Try.pinned (OpenSpec.ofChange rhoTellsSpec)

/-- ITS FALSE NEIGHBOUR: 'it returns false'. Refute it at one input. -/
def rhoTellsWrong : ChangeSpec := { name := "rhoTells", fn := fun _ => fun
  | [d] => { results := [.lit (.bool false)], args := [d] }
  | _ => none }
def RhoTellsWrongFalsely : Prop := rhoTellsRow.holds Try.pinned (OpenSpec.ofChange rhoTellsWrong)

/-- 'dotterellaw13.RhoSums': WHATEVER THE INPUT: true; the input reads as it did. -/
def rhoSumsSpec : ChangeSpec := { name := "rhoSums", fn := fun _ => fun
  | [d1, d2] => { results := [.lit (.bool true)], args := [d1, d2] }
  | _ => none }
def rhoSumsRow : OpenClaim := { program := "ytffbeiaokmopgaa", sum := "74bf02f6b431ad170b715e614f386b9d313d01c20903718f8ca34968c174309a", func := "dotterel/dotterellaw13.RhoSums", spec := "rhoSums", apart := false }
def RhoSumsSaid : Prop := rhoSumsRow.holds Try.pinned (OpenSpec.ofChange rhoSumsSpec)

/-- ITS FALSE NEIGHBOUR: 'it returns false'. Refute it at one input. -/
def rhoSumsWrong : ChangeSpec := { name := "rhoSums", fn := fun _ => fun
  | [d1, d2] => { results := [.lit (.bool false)], args := [d1, d2] }
  | _ => none }
def RhoSumsWrongFalsely : Prop := rhoSumsRow.holds Try.pinned (OpenSpec.ofChange rhoSumsWrong)

/-- 'dotterellaw13.RhoAlone': WHATEVER THE INPUT: true; the input reads as it did. -/
def rhoAloneSpec : ChangeSpec := { name := "rhoAlone", fn := fun _ => fun
  | [d1, d2] => { results := [.lit (.bool true)], args := [d1, d2] }
  | _ => none }
def rhoAloneRow : OpenClaim := { program := "ytffbeiaokmopgaa", sum := "74bf02f6b431ad170b715e614f386b9d313d01c20903718f8ca34968c174309a", func := "dotterel/dotterellaw13.RhoAlone", spec := "rhoAlone", apart := false }
def RhoAloneSaid : Prop := rhoAloneRow.holds Try.pinned (OpenSpec.ofChange rhoAloneSpec)

/-- ITS FALSE NEIGHBOUR: 'it returns false'. Refute it at one input. -/
def rhoAloneWrong : ChangeSpec := { name := "rhoAlone", fn := fun _ => fun
  | [d1, d2] => { results := [.lit (.bool false)], args := [d1, d2] }
  | _ => none }
def RhoAloneWrongFalsely : Prop := rhoAloneRow.holds Try.pinned (OpenSpec.ofChange rhoAloneWrong)

/-- 'dotterellaw13.RhoThird': WHATEVER THE INPUT: true; the input reads as it did. -/
def rhoThirdSpec : ChangeSpec := { name := "rhoThird", fn := fun _ => fun
  | [d] => { results := [.lit (.bool true)], args := [d] }
  | _ => none }
def rhoThirdRow : OpenClaim := { program := "ytffbeiaokmopgaa", sum := "74bf02f6b431ad170b715e614f386b9d313d01c20903718f8ca34968c174309a", func := "dotterel/dotterellaw13.RhoThird", spec := "rhoThird", apart := false }
def RhoThirdSaid : Prop := rhoThirdRow.holds Try.pinned (OpenSpec.ofChange rhoThirdSpec)

/-- ITS FALSE NEIGHBOUR: 'it returns false'. Refute it at one input. -/
def rhoThirdWrong : ChangeSpec := { name := "rhoThird", fn := fun _ => fun
  | [d] => { results := [.lit (.bool false)], args := [d] }
  | _ => none }
def RhoThirdWrongFalsely : Prop := rhoThirdRow.holds Try.pinned (OpenSpec.ofChange rhoThirdWrong)

/- THE SECOND FORM. 'bulk': how many values and letters a reading holds, each counted each time it is reached (what is shared counts as often as it is met; a slice's spare places count too). A statement '..UptoSaid' is the law's where the arguments, and the package variables that the reading takes, are together of bulk at most 1048576: NARROWER than '..Said'. Prove '..Said' where nothing that the law and all that it calls make is longer than what came in: it says more and counts as full. Else prove '..UptoSaid'. A law counts once. -/
mutual
def uptoBulk {H : Type} : DataW H → Nat
  | .lit (.string bytes) => bytes.length + 1
  | .lit _ => 1
  | .nil => 1
  | .ptr d => uptoBulk d + 1
  | .slice elems spare => uptoBulkAll elems + uptoBulkAll spare + 1
  | .agg parts => uptoBulkAll parts + 1
  | .iface _ d => uptoBulk d + 1
  | .map entries => uptoBulkEntries entries + 1
  | .held _ => 1
def uptoBulkAll {H : Type} : List (DataW H) → Nat
  | [] => 0
  | d :: r => uptoBulk d + uptoBulkAll r
def uptoBulkEntries {H : Type} : List (Lit × DataW H) → Nat
  | [] => 0
  | x :: r => uptoBulkEntry x + uptoBulkEntries r
def uptoBulkEntry {H : Type} : Lit × DataW H → Nat
  | (.string bytes, d) => bytes.length + uptoBulk d + 1
  | (_, d) => uptoBulk d + 1
 end
def uptoSmall : (H : Type) → List (DataW H) → Bool := fun _ ds => decide (uptoBulkAll ds ≤ 1048576)
def OpenSpec.upto (s : _root_.Go.ChangeSpec) : _root_.Go.OpenSpec := { _root_.Go.OpenSpec.ofChange s with cond := some uptoSmall }

/-- 'dotterellaw13.RhoTells', WHERE WHAT IT READS IS OF BULK AT MOST 1048576: true; the input reads as it did. -/
def rhoTellsUptoRow : OpenClaim := { program := "ytffbeiaokmopgaa", sum := "74bf02f6b431ad170b715e614f386b9d313d01c20903718f8ca34968c174309a", func := "dotterel/dotterellaw13.RhoTells", spec := "rhoTells", apart := false, narrowed := true }
def RhoTellsUptoSaid : Prop := rhoTellsUptoRow.holds Try.pinned (OpenSpec.upto rhoTellsSpec)

/-- 'dotterellaw13.RhoSums', WHERE WHAT IT READS IS OF BULK AT MOST 1048576: true; the input reads as it did. -/
def rhoSumsUptoRow : OpenClaim := { program := "ytffbeiaokmopgaa", sum := "74bf02f6b431ad170b715e614f386b9d313d01c20903718f8ca34968c174309a", func := "dotterel/dotterellaw13.RhoSums", spec := "rhoSums", apart := false, narrowed := true }
def RhoSumsUptoSaid : Prop := rhoSumsUptoRow.holds Try.pinned (OpenSpec.upto rhoSumsSpec)

/-- 'dotterellaw13.RhoAlone', WHERE WHAT IT READS IS OF BULK AT MOST 1048576: true; the input reads as it did. -/
def rhoAloneUptoRow : OpenClaim := { program := "ytffbeiaokmopgaa", sum := "74bf02f6b431ad170b715e614f386b9d313d01c20903718f8ca34968c174309a", func := "dotterel/dotterellaw13.RhoAlone", spec := "rhoAlone", apart := false, narrowed := true }
def RhoAloneUptoSaid : Prop := rhoAloneUptoRow.holds Try.pinned (OpenSpec.upto rhoAloneSpec)

/-- 'dotterellaw13.RhoThird', WHERE WHAT IT READS IS OF BULK AT MOST 1048576: true; the input reads as it did. -/
def rhoThirdUptoRow : OpenClaim := { program := "ytffbeiaokmopgaa", sum := "74bf02f6b431ad170b715e614f386b9d313d01c20903718f8ca34968c174309a", func := "dotterel/dotterellaw13.RhoThird", spec := "rhoThird", apart := false, narrowed := true }
def RhoThirdUptoSaid : Prop := rhoThirdUptoRow.holds Try.pinned (OpenSpec.upto rhoThirdSpec)

end Rows
end Go.Proofs.Ytffbeiaokmopgaa
