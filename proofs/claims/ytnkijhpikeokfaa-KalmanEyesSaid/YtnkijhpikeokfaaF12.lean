/- Eye: closed runs, one for each size. -/
import Derived.Test.YtnkijhpikeokfaaS26
import Derived.Test.YtnkijhpikeokfaaF2
set_option linter.unusedSimpArgs false
set_option linter.unusedVariables false
namespace Go.Proofs.Ytnkijhpikeokfaa
open Go Go.Sym Go.IntWalk

def eyeL (n : Nat) : List Int := tab (fun i k => if i = k then 16777216 else 0) n (n * n)
def eyeR (n : Nat) : Res := { val := .tuple [.agg [.int .i64 n, .int .i64 n, .sl (.o 0) 0 (eyeL n).length 1 false], .int .i64 0], newo := [ints (eyeL n)] }
theorem eyeL_length (n : Nat) : (eyeL n).length = n * n := by simp [eyeL, tab_length]

theorem eye1 : exec Try.prog noO 400 20 31 [.int .i64 1] ⟨[], []⟩ = some (eyeR 1) := by kernel_rfl
theorem eye2 : exec Try.prog noO 400 20 31 [.int .i64 2] ⟨[], []⟩ = some (eyeR 2) := by kernel_rfl
theorem eye3 : exec Try.prog noO 400 20 31 [.int .i64 3] ⟨[], []⟩ = some (eyeR 3) := by kernel_rfl
theorem eye4 : exec Try.prog noO 400 20 31 [.int .i64 4] ⟨[], []⟩ = some (eyeR 4) := by kernel_rfl
theorem eye5 : exec Try.prog noO 400 20 31 [.int .i64 5] ⟨[], []⟩ = some (eyeR 5) := by kernel_rfl
theorem eye6 : exec Try.prog noO 400 20 31 [.int .i64 6] ⟨[], []⟩ = some (eyeR 6) := by kernel_rfl
theorem eye7 : exec Try.prog noO 400 20 31 [.int .i64 7] ⟨[], []⟩ = some (eyeR 7) := by kernel_rfl
theorem eye8 : exec Try.prog noO 400 20 31 [.int .i64 8] ⟨[], []⟩ = some (eyeR 8) := by kernel_rfl
theorem eye_ok (n : Nat) (h0 : 0 < n) (hn : n ≤ 8) : SoundC Try.prog 31 [.int .i64 n] ⟨[], []⟩ { val := .tuple [.agg [.int .i64 n, .int .i64 n, .sl (.o 0) 0 (eyeL n).length 1 false], .int .i64 0], newo := [ints (eyeL n)] } := by
  have : n = 1 ∨ n = 2 ∨ n = 3 ∨ n = 4 ∨ n = 5 ∨ n = 6 ∨ n = 7 ∨ n = 8 := by omega
  rcases this with rfl | rfl | rfl | rfl | rfl | rfl | rfl | rfl
  · exact exec_sound (noO_sound _) 400 20 _ _ _ _ eye1
  · exact exec_sound (noO_sound _) 400 20 _ _ _ _ eye2
  · exact exec_sound (noO_sound _) 400 20 _ _ _ _ eye3
  · exact exec_sound (noO_sound _) 400 20 _ _ _ _ eye4
  · exact exec_sound (noO_sound _) 400 20 _ _ _ _ eye5
  · exact exec_sound (noO_sound _) 400 20 _ _ _ _ eye6
  · exact exec_sound (noO_sound _) 400 20 _ _ _ _ eye7
  · exact exec_sound (noO_sound _) 400 20 _ _ _ _ eye8

end Go.Proofs.Ytnkijhpikeokfaa
