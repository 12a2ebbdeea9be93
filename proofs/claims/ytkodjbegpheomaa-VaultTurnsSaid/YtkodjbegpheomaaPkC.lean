import Derived.Test.YtkodjbegpheomaaPkB
import Derived.KernelRfl
namespace Go.Proofs.Ytkodjbegpheomaa
open Vc Go
set_option linter.unusedVariables false
set_option linter.unusedSimpArgs false
set_option maxRecDepth 100000
/-- What is known of packing. -/
def pkS : FuncId → Option Known
  | 46 => some ⟨[], SrText⟩
  | 28 => some ⟨[.asis, .lend 1], nilIn [.cell 0 0 5 1] SwText⟩
  | 30 => some ⟨[], nilIn [.cell 0 0 5 1] SwBytes⟩
  | 43 => some ⟨[.lend 1], SpRead⟩
  | 45 => some ⟨[], SrEnd⟩
  | 35 => some ⟨[.lend 1], SrefText⟩
  | f => rdS f
noncomputable def XPk : CallT := callS Try.prog pkS noT 10
theorem pkS_ok : AllOk Try.prog pkS := fun f k h => by
  unfold pkS at h
  split at h
  · cases h; exact okText
  · cases h; exact nilIn_ok okWText _
  · cases h; exact nilIn_ok okBytesW _
  · cases h; exact okPRead
  · cases h; exact okEnd
  · cases h; exact okRefText
  · exact rdS_ok _ _ h
theorem XPk_ok : CallOk Try.prog XPk := callS_ok mixed pkS_ok noT 10
def pxS : FuncId → Option Known := pkS
theorem pxS_ok : AllOk Try.prog pxS := pkS_ok
noncomputable def XPx : CallT := callS Try.prog pxS noT 10
theorem XPx_ok : CallOk Try.prog XPx := callS_ok mixed pxS_ok noT 10
end Go.Proofs.Ytkodjbegpheomaa
