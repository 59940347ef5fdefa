/- KalmanEyes: for every track: told on by Eye, and nothing more that varies, it is as it was. -/
import Derived.Test.YtnkijhpikeokfaaRows
import Derived.Test.YtnkijhpikeokfaaS27
import Derived.Test.YtnkijhpikeokfaaK1
import Derived.Test.YtnkijhpikeokfaaF20
set_option linter.unusedSimpArgs false
set_option linter.unusedVariables false
namespace Go.Proofs.Ytnkijhpikeokfaa
open Go Go.Sym Go.ChangeShapes Go.WideShapes Go.ChangeAt Go.RowKit

namespace LawKalmanEyes

theorem any : ∀ avs rows, LV 0 [.f (some .i64), .f (some .i64), .sl [some .i64], .f (some .i64), .f (some .i64), .sl [some .i64]] avs rows → SoundC Try.prog 13 (group [some 6] avs) ⟨rows, []⟩ { val := .bool true } := by
  rintro avs rows ⟨_, r1, rfl, ⟨XR, rfl, _⟩, _, r2, rfl, ⟨XC, rfl, _⟩, n, l, r3, rs, rfl, rfl, hn, hl, _, r4, rfl, ⟨PR, rfl, _⟩, _, r5, rfl, ⟨PC, rfl, _⟩, n2, l2, r6, rs2, rfl, rfl, hn2, hl2, rfl, rfl⟩
  obtain ⟨x, rfl, rfl, _⟩ := Rep.ints hl
  obtain ⟨p, rfl, rfl, _⟩ := Rep.ints hl2
  show SoundC _ _ [.agg [.int .i64 XR, .int .i64 XC, .sl (.r 0) 0 x.length 1 false, .int .i64 PR, .int .i64 PC, .sl (.r 1) 0 p.length 1 false]] ⟨[ints x, ints p], []⟩ _
  cases h : rightT XR XC x PR PC p with
  | false => exact kEyes_no XR XC PR PC x p h
  | true =>
    obtain ⟨h1, h2, rfl, rfl, h5, h6, h7⟩ := rightT_is h
    obtain ⟨r, c, rfl, e2, k1, k2, k3, k4, k5, k6⟩ := rightM_nat h1
    obtain rfl : c = 1 := by omega
    subst h5
    obtain ⟨r', c', e3, e4, _, _, _, _, j5, j6⟩ := rightM_nat h2
    obtain rfl : r = r' := by omega
    obtain rfl : r = c' := by omega
    exact kEyes_yes r k1 k2 x p k5 j5 k6 j6 h

set_option maxRecDepth 100000 in
theorem lifted (os : Os) (started : os.Started) (HH : Type) (enc : TypeId × Value → HH) :
    ReturnsInHanded {} Try.checked os 13 .any (Rows.kalmanEyesSpec.pre6 enc Try.prog Try.f13 Rows.kalmanEyesRow.domain false) (Rows.kalmanEyesSpec.post enc Try.prog Try.f13 false true false false) := by
  refine returnsInHanded_of_change (C := Try.checked) Closed.own started (by kernel_rfl) Try.func13
    (ChangeSpec.witness6 (enc := enc) (C := Try.checked) false ⟨#[], #[.agg #[.int .i64 0, .int .i64 0, .slice none 0 0, .int .i64 0, .int .i64 0, .slice none 0 0]], []⟩ 8 (by kernel_rfl) (by kernel_rfl) (by kernel_rfl) (by kernel_rfl)) ?_
  intro W base args ds gs before hval hW hcnd _
  refine (law_calls (ts := [3, 3, 22, 3, 3, 22]) (sh := [some 6]) (ks := [.f (some .i64), .f (some .i64), .sl [some .i64], .f (some .i64), .f (some .i64), .sl [some .i64]]) (pts := [41]) (by kernel_rfl) (by kernel_rfl) (by kernel_rfl) any hval hW).mono fun e W' ⟨he, hB⟩ => ⟨_, he, ?_⟩
  obtain ⟨p, q, hA, hV, _, _, _⟩ := id hW
  obtain ⟨rfl, rfl⟩ := trodVars_none hV
  rw [Try.params13] at hA
  obtain ⟨v0, vs0, d0, ds0, p0, q0, e0, rfl, k0, h0, hr0⟩ := trodAll_cons hA
  obtain ⟨_, rfl, _⟩ := trodAll_nil hr0
  exact law_post Closed.kids Closed.full (by rw [Try.params13]; decide) rfl (by kernel_rfl) Try.underlying4 ⟨rfl, rfl, rfl⟩ hW hB
theorem j1 : (Rows.kalmanEyesRow.inPlace == Try.prog.inPlace 13) = true := by kernel_rfl
theorem j2 : (Rows.kalmanEyesRow.unfollowed == Try.prog.unfollowed 13) = true := by kernel_rfl
theorem j3 : (Rows.kalmanEyesRow.recurses == Try.prog.recurses 13) = true := by kernel_rfl
theorem j4 : (Rows.kalmanEyesRow.named == Try.prog.varsNamed 13) = true := by kernel_rfl
theorem joined : joinedFacts Try.prog 13 Try.f13 Rows.kalmanEyesSpec Rows.kalmanEyesRow = true := by
  unfold joinedFacts
  rw [Closed.laid, Closed.rowed, Closed.plain, Closed.heard, Closed.enter, Closed.final, j1, j2, j3, j4]
  kernel_rfl
end LawKalmanEyes

theorem kalmanEyes_holds : Rows.KalmanEyesSaid :=
  OpenClaim.holds_of_wide 13 Try.f13 rfl rfl rfl rfl rfl rfl rfl ⟨rfl, rfl, rfl, rfl, rfl⟩ rfl rfl rfl rfl rfl (by kernel_rfl) Try.func13 LawKalmanEyes.joined
    (of_decide_eq_true (by kernel_rfl)) (by unfold Func.isWrapper; first | (rw [if_pos (by decide +kernel)]; kernel_rfl) | (rw [if_neg (by decide +kernel)]; exact ⟨rfl, rfl⟩))
    (fun os started H enc _ => LawKalmanEyes.lifted os started H enc)
end Go.Proofs.Ytnkijhpikeokfaa
