/- Closed facts of the program, each by the kernel. -/
import Derived.Test.YtnkijhpikeokfaaRows
import Derived.WalkKit
import Derived.ProofKit
import Derived.ReadAgain
set_option linter.unusedSimpArgs false
set_option linter.unusedVariables false
namespace Go.Proofs.Ytnkijhpikeokfaa
open Go Go.ChangeShapes Go.WideShapes
namespace Closed
theorem laid : laidOutB Try.prog = true := by kernel_rfl
theorem rowed : mapsRowed Try.prog = true := by kernel_rfl
theorem plain : Try.prog.plainKeys = true := by kernel_rfl
theorem heard : Try.prog.stopsHeard = true := by kernel_rfl
theorem enter : Try.prog.mayEnter = true := by kernel_rfl
theorem final : Try.prog.liftsFinal = false := by kernel_rfl
theorem own : ownKnob Try.prog.godebug = none := by kernel_rfl
theorem kids : Kids Try.prog (· < Try.prog.types.size) := kids_rows (by kernel_rfl) (by kernel_rfl)
theorem full : ∀ t e, t < Try.prog.types.size → Try.prog.underlying t = some (.slice e) → 0 < Try.prog.cellsOf e := slices_full_of Try.prog (by kernel_rfl)
end Closed
end Go.Proofs.Ytnkijhpikeokfaa
