/- The example at the head of the layer's statements: a closed run. -/
import Derived.Test.YtnkijhpikeokfaaS26
import Derived.Test.YtnkijhpikeokfaaProg
set_option linter.unusedSimpArgs false
set_option linter.unusedVariables false
namespace Go.Proofs.Ytnkijhpikeokfaa
open Go Go.Sym
theorem shown05_ok : SoundC Try.prog 35 [] ⟨[], []⟩ { val := .bool true } := .true (noO_sound _) (F := 400) (n := 40) (by kernel_rfl)
end Go.Proofs.Ytnkijhpikeokfaa
