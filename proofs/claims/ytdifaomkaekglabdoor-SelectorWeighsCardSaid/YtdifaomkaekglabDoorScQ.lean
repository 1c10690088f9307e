/- Plain laws of lists: splitting at a byte, words, blocks, as machines over bytes; no condition beside those that each theorem states. -/
import Derived.Test.YtdifaomkaekglabDoorScP
set_option linter.unusedVariables false
set_option linter.unusedSimpArgs false
namespace Go.Proofs.Scn
open Go.Lib
/-! ### one byte looked for -/
/-! ### splitting at a byte -/
def ba (l : List UInt8) : ByteArray := ⟨l.toArray⟩
/-! ### words -/
/-! ### blocks -/
end Go.Proofs.Scn
