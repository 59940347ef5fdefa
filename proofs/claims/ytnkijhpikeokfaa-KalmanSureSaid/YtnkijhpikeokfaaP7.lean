/- The texts L7. -/
import Derived.Test.YtnkijhpikeokfaaRows
import Derived.Test.YtnkijhpikeokfaaG3
import Derived.Test.YtnkijhpikeokfaaG7
set_option linter.unusedSimpArgs false
set_option linter.unusedVariables false
/- KalmanSure: for every three numbers: a number that does not vary is not changed by what is measured, as long as it has nothing to do with the others. -/
namespace Go.Proofs.Ytnkijhpikeokfaa
open Go Go.Sym Go.ChangeShapes Go.WideShapes Go.ChangeAt Go.RowKit

namespace LawKalmanSure

theorem any : ∀ avs rows, LV 0 [.f (some .i64), .f (some .i64), .f (some .i64)] avs rows → SoundC Try.prog 7 (group [none, none, none] avs) ⟨rows, []⟩ { val := .bool true } := by
  rintro avs rows ⟨_, r1, rfl, ⟨x, rfl, h0⟩, _, r2, rfl, ⟨z, rfl, h1⟩, _, r3, rfl, ⟨r, rfl, h2⟩, rfl, rfl⟩
  show SoundC _ _ [.int .i64 x, .int .i64 z, .int .i64 r] ⟨[], []⟩ _
  by_cases hg : x ≤ 1099511627776 ∧ -1099511627776 ≤ x ∧ z ≤ 1099511627776 ∧ -1099511627776 ≤ z ∧ 16777216 ≤ r ∧ r ≤ 1099511627776
  · by_cases hs : mulQ (offY sureH [x, 5] 2 z) (offY sureH [x, 5] 2 z) > mulQ 16777216 (offS sureH sureP 2 r) ∨ offS sureH sureP 2 r ≤ 0
    · exact kSure_stay x z r hg hs
    · exact kSure_take x z r hg hs
  · exact kSure_no x z r hg

set_option maxRecDepth 100000 in
theorem lifted (os : Os) (started : os.Started) (HH : Type) (enc : TypeId × Value → HH) :
    ReturnsInHanded {} Try.checked os 7 .any (Rows.kalmanSureSpec.pre6 enc Try.prog Try.f7 Rows.kalmanSureRow.domain false) (Rows.kalmanSureSpec.post enc Try.prog Try.f7 false true false false) := by
  refine returnsInHanded_of_change (C := Try.checked) Closed.own started (by kernel_rfl) Try.func7
    (ChangeSpec.witness6 (enc := enc) (C := Try.checked) false ⟨#[], #[.int .i64 0, .int .i64 0, .int .i64 0], []⟩ 8 (by kernel_rfl) (by kernel_rfl) (by kernel_rfl) (by kernel_rfl)) ?_
  intro W base args ds gs before hval hW hcnd _
  refine (law_calls (ts := [30, 30, 30]) (sh := [none, none, none]) (ks := [.f (some .i64), .f (some .i64), .f (some .i64)]) (pts := [30, 30, 30]) (by kernel_rfl) (by kernel_rfl) (by kernel_rfl) any hval hW).mono fun e W' ⟨he, hB⟩ => ⟨_, he, ?_⟩
  obtain ⟨p, q, hA, hV, _, _, _⟩ := id hW
  obtain ⟨rfl, rfl⟩ := trodVars_none hV
  rw [Try.params7] at hA
  obtain ⟨v0, vs0, d0, ds0, p0, q0, e0, rfl, k0, h0, hr0⟩ := trodAll_cons hA
  obtain ⟨v1, vs1, d1, ds1, p1, q1, e1, rfl, k1, h1, hr1⟩ := trodAll_cons hr0
  obtain ⟨v2, vs2, d2, ds2, p2, q2, e2, rfl, k2, h2, hr2⟩ := trodAll_cons hr1
  obtain ⟨_, rfl, _⟩ := trodAll_nil hr2
  exact law_post Closed.kids Closed.full (by rw [Try.params7]; decide) rfl (by kernel_rfl) Try.underlying4 ⟨rfl, rfl, rfl⟩ hW hB
theorem j1 : (Rows.kalmanSureRow.inPlace == Try.prog.inPlace 7) = true := by kernel_rfl
theorem j2 : (Rows.kalmanSureRow.unfollowed == Try.prog.unfollowed 7) = true := by kernel_rfl
theorem j3 : (Rows.kalmanSureRow.recurses == Try.prog.recurses 7) = true := by kernel_rfl
theorem j4 : (Rows.kalmanSureRow.named == Try.prog.varsNamed 7) = true := by kernel_rfl
theorem joined : joinedFacts Try.prog 7 Try.f7 Rows.kalmanSureSpec Rows.kalmanSureRow = true := by
  unfold joinedFacts
  rw [Closed.laid, Closed.rowed, Closed.plain, Closed.heard, Closed.enter, Closed.final, j1, j2, j3, j4]
  kernel_rfl
end LawKalmanSure

theorem kalmanSure_holds : Rows.KalmanSureSaid :=
  OpenClaim.holds_of_wide 7 Try.f7 rfl rfl rfl rfl rfl rfl rfl ⟨rfl, rfl, rfl, rfl, rfl⟩ rfl rfl rfl rfl rfl (by kernel_rfl) Try.func7 LawKalmanSure.joined
    (of_decide_eq_true (by kernel_rfl)) (by unfold Func.isWrapper; first | (rw [if_pos (by decide +kernel)]; kernel_rfl) | (rw [if_neg (by decide +kernel)]; exact ⟨rfl, rfl⟩))
    (fun os started H enc _ => LawKalmanSure.lifted os started H enc)
end Go.Proofs.Ytnkijhpikeokfaa
