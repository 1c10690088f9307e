/- Plain laws of values: what is awake, names; no program in sight; no condition beside those that each theorem states. -/
import Derived.Test.YtmfhhlgjbjbnhaaDoorHV2
set_option linter.unusedVariables false
set_option linter.unusedSimpArgs false
namespace Go.Proofs.YtmfhhlgjbjbnhaaDoor.Pure
open Go.Proofs.YtmfhhlgjbjbnhaaDoor.HV Go.Proofs.Val
theorem r1 : readV 2 ⟨#[32, 49, 46, 53, 80, 88, 32]⟩ = ((2, 96), true) := by decide +kernel
theorem r2 : readV 2 ⟨#[53, 48, 37]⟩ = ((3, 3200), true) := by decide +kernel
theorem r3 : (readV 2 ⟨#[45, 49, 112, 120]⟩).2 = false := by decide +kernel
theorem r4 : readV 16 ⟨#[103, 114, 101, 101, 110]⟩ = ((4, 32768), true) := by decide +kernel
theorem awake : scrimlaw08_awake.f = some true := by
  decide +kernel
end Go.Proofs.YtmfhhlgjbjbnhaaDoor.Pure
