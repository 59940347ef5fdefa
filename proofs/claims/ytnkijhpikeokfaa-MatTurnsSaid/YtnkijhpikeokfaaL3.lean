/- MatTurns: for every two matrices: turned twice a matrix is as it was; a product turned is the turned ones product, the other way round; times Eye it is as it was. -/
import Derived.Test.YtnkijhpikeokfaaRows
import Derived.Test.YtnkijhpikeokfaaS27
import Derived.Test.YtnkijhpikeokfaaK1
import Derived.Test.YtnkijhpikeokfaaF13
set_option linter.unusedSimpArgs false
set_option linter.unusedVariables false
namespace Go.Proofs.Ytnkijhpikeokfaa
open Go Go.Sym Go.ChangeShapes Go.WideShapes Go.ChangeAt Go.RowKit

namespace LawMatTurns

theorem any : ∀ avs rows, LV 0 [.f (some .i64), .f (some .i64), .sl [some .i64], .f (some .i64), .f (some .i64), .sl [some .i64]] avs rows → SoundC Try.prog 5 (group [some 3, some 3] avs) ⟨rows, []⟩ { val := .bool true } := by
  rintro avs rows ⟨_, r1, rfl, ⟨R, rfl, _⟩, _, r2, rfl, ⟨C, rfl, _⟩, n, l, r3, rs, rfl, rfl, hn, hl, _, r4, rfl, ⟨R2, rfl, _⟩, _, r5, rfl, ⟨C2, rfl, _⟩, n2, l2, r6, rs2, rfl, rfl, hn2, hl2, rfl, rfl⟩
  obtain ⟨A, rfl, rfl, _⟩ := Rep.ints hl
  obtain ⟨B, rfl, rfl, _⟩ := Rep.ints hl2
  show SoundC _ _ [.agg [.int .i64 R, .int .i64 C, .sl (.r 0) 0 A.length 1 false], .agg [.int .i64 R2, .int .i64 C2, .sl (.r 1) 0 B.length 1 false]] ⟨[ints A, ints B], []⟩ _
  cases h : rightM R C A with
  | false => exact matTurns_no1 R C R2 C2 A B h
  | true =>
    cases h2 : rightM R2 C2 B with
    | false => exact matTurns_no2 R C R2 C2 A B h h2
    | true =>
      obtain ⟨r, m, rfl, rfl, k1, k2, k3, k4, k5, k6⟩ := rightM_nat h
      obtain ⟨r', c', rfl, rfl, j1, j2, j3, j4, j5, j6⟩ := rightM_nat h2
      by_cases e : m = r'
      · subst e
        exact matTurns_yes r m k1 k2 k3 k4 A B k5 k6 c' j3 j4 j5 j6
      · exact matTurns_ne r m k1 k2 k3 k4 A B k5 k6 r' c' h2 e

set_option maxRecDepth 100000 in
theorem lifted (os : Os) (started : os.Started) (HH : Type) (enc : TypeId × Value → HH) :
    ReturnsInHanded {} Try.checked os 5 .any (Rows.matTurnsSpec.pre6 enc Try.prog Try.f5 Rows.matTurnsRow.domain false) (Rows.matTurnsSpec.post enc Try.prog Try.f5 false true false false) := by
  refine returnsInHanded_of_change (C := Try.checked) Closed.own started (by kernel_rfl) Try.func5
    (ChangeSpec.witness6 (enc := enc) (C := Try.checked) false ⟨#[], #[.agg #[.int .i64 0, .int .i64 0, .slice none 0 0], .agg #[.int .i64 0, .int .i64 0, .slice none 0 0]], []⟩ 8 (by kernel_rfl) (by kernel_rfl) (by kernel_rfl) (by kernel_rfl)) ?_
  intro W base args ds gs before hval hW hcnd _
  refine (law_calls (ts := [3, 3, 22, 3, 3, 22]) (sh := [some 3, some 3]) (ks := [.f (some .i64), .f (some .i64), .sl [some .i64], .f (some .i64), .f (some .i64), .sl [some .i64]]) (pts := [24, 24]) (by kernel_rfl) (by kernel_rfl) (by kernel_rfl) any hval hW).mono fun e W' ⟨he, hB⟩ => ⟨_, he, ?_⟩
  obtain ⟨p, q, hA, hV, _, _, _⟩ := id hW
  obtain ⟨rfl, rfl⟩ := trodVars_none hV
  rw [Try.params5] at hA
  obtain ⟨v0, vs0, d0, ds0, p0, q0, e0, rfl, k0, h0, hr0⟩ := trodAll_cons hA
  obtain ⟨v1, vs1, d1, ds1, p1, q1, e1, rfl, k1, h1, hr1⟩ := trodAll_cons hr0
  obtain ⟨_, rfl, _⟩ := trodAll_nil hr1
  exact law_post Closed.kids Closed.full (by rw [Try.params5]; decide) rfl (by kernel_rfl) Try.underlying4 ⟨rfl, rfl, rfl⟩ hW hB
theorem joined : joinedFacts Try.prog 5 Try.f5 Rows.matTurnsSpec Rows.matTurnsRow = true := by
  unfold joinedFacts
  rw [Closed.laid, Closed.rowed, Closed.plain, Closed.heard, Closed.enter, Closed.final]
  kernel_rfl
end LawMatTurns

theorem matTurns_holds : Rows.MatTurnsSaid :=
  OpenClaim.holds_of_wide 5 Try.f5 rfl rfl rfl rfl rfl rfl rfl ⟨rfl, rfl, rfl, rfl, rfl⟩ rfl rfl rfl rfl rfl (by kernel_rfl) Try.func5 LawMatTurns.joined
    (of_decide_eq_true (by kernel_rfl)) (by unfold Func.isWrapper; first | (rw [if_pos (by decide +kernel)]; kernel_rfl) | (rw [if_neg (by decide +kernel)]; exact ⟨rfl, rfl⟩))
    (fun os started H enc _ => LawMatTurns.lifted os started H enc)
end Go.Proofs.Ytnkijhpikeokfaa
