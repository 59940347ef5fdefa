/- The texts L12. -/
import Derived.Test.YtnkijhpikeokfaaRows
import Derived.Test.YtnkijhpikeokfaaG3
import Derived.Test.YtnkijhpikeokfaaG9
set_option linter.unusedSimpArgs false
set_option linter.unusedVariables false
/- KalmanGates: for every track, matrix and numbers: what is right off is taken, with a gate above 0, and leaves the numbers as they were; with a gate below 0 what is off is not taken. -/
namespace Go.Proofs.Ytnkijhpikeokfaa
open Go Go.Sym Go.ChangeShapes Go.WideShapes Go.ChangeAt Go.RowKit

namespace LawKalmanGates

theorem any : ∀ avs rows, LV 0 [.f (some .i64), .f (some .i64), .sl [some .i64], .f (some .i64), .f (some .i64), .sl [some .i64], .f (some .i64), .f (some .i64), .sl [some .i64], .f (some .i64), .f (some .i64)] avs rows → SoundC Try.prog 11 (group [some 11] avs) ⟨rows, []⟩ { val := .bool true } := by
  rintro avs rows ⟨_, r0, rfl, ⟨XR, rfl, _⟩, _, r1, rfl, ⟨XC, rfl, _⟩, n2, l2, r2, rs2, rfl, rfl, hn2, hl2, _, r3, rfl, ⟨PR, rfl, _⟩, _, r4, rfl, ⟨PC, rfl, _⟩, n5, l5, r5, rs5, rfl, rfl, hn5, hl5, _, r6, rfl, ⟨hR, rfl, _⟩, _, r7, rfl, ⟨hC, rfl, _⟩, n8, l8, r8, rs8, rfl, rfl, hn8, hl8, _, r9, rfl, ⟨r, rfl, _⟩, _, r10, rfl, ⟨off, rfl, _⟩, rfl, rfl⟩
  obtain ⟨x, rfl, rfl, _⟩ := Rep.ints hl2
  obtain ⟨p, rfl, rfl, _⟩ := Rep.ints hl5
  obtain ⟨hl, rfl, rfl, _⟩ := Rep.ints hl8
  show SoundC _ _ [.agg [.int .i64 XR, .int .i64 XC, .sl (.r 0) 0 x.length 1 false, .int .i64 PR, .int .i64 PC, .sl (.r 1) 0 p.length 1 false, .int .i64 hR, .int .i64 hC, .sl (.r 2) 0 hl.length 1 false, .int .i64 r, .int .i64 off]] ⟨[ints x, ints p, ints hl], []⟩ _
  cases h : rightT XR XC x PR PC p with
  | false => exact kGates_no1 XR XC PR PC hR hC r off x p hl h
  | true =>
  cases h2 : rightM hR hC hl with
  | false => exact kGates_no2 XR XC PR PC hR hC r off x p hl h h2
  | true =>
  by_cases h3 : hR = 1 ∧ hC = XR ∧ 0 < r
  case neg => exact kGates_no3 XR XC PR PC hR hC r off x p hl h h2 h3
  obtain ⟨rfl, rfl, hr⟩ := h3
  obtain ⟨g1, g2, rfl, rfl, g5, g6, g7⟩ := rightT_is h
  obtain ⟨n, c, rfl, e2, k1, k2, k3, k4, k5, k6⟩ := rightM_nat g1
  obtain rfl : c = 1 := by omega
  subst g5
  obtain ⟨n', c', e3, e4, _, _, _, _, j5, j6⟩ := rightM_nat g2
  obtain rfl : n = n' := by omega
  obtain rfl : n = c' := by omega
  have hH : hl.length = 1 * n := by
    obtain ⟨a, b, ea, eb, _, _, _, _, hab, _⟩ := rightM_nat h2
    obtain rfl : a = 1 := by omega
    obtain rfl : b = n := by omega
    exact hab
  exact kGates_ok n k1 k2 r off x p hl k5 j5 hH hr h h2 k6

set_option maxRecDepth 100000 in
theorem lifted (os : Os) (started : os.Started) (HH : Type) (enc : TypeId × Value → HH) :
    ReturnsInHanded {} Try.checked os 11 .any (Rows.kalmanGatesSpec.pre6 enc Try.prog Try.f11 Rows.kalmanGatesRow.domain false) (Rows.kalmanGatesSpec.post enc Try.prog Try.f11 false true false false) := by
  refine returnsInHanded_of_change (C := Try.checked) Closed.own started (by kernel_rfl) Try.func11
    (ChangeSpec.witness6 (enc := enc) (C := Try.checked) false ⟨#[], #[.agg #[.int .i64 0, .int .i64 0, .slice none 0 0, .int .i64 0, .int .i64 0, .slice none 0 0, .int .i64 0, .int .i64 0, .slice none 0 0, .int .i64 0, .int .i64 0]], []⟩ 8 (by kernel_rfl) (by kernel_rfl) (by kernel_rfl) (by kernel_rfl)) ?_
  intro W base args ds gs before hval hW hcnd _
  refine (law_calls (ts := [3, 3, 22, 3, 3, 22, 3, 3, 22, 30, 30]) (sh := [some 11]) (ks := [.f (some .i64), .f (some .i64), .sl [some .i64], .f (some .i64), .f (some .i64), .sl [some .i64], .f (some .i64), .f (some .i64), .sl [some .i64], .f (some .i64), .f (some .i64)]) (pts := [60]) (by kernel_rfl) (by kernel_rfl) (by kernel_rfl) any hval hW).mono fun e W' ⟨he, hB⟩ => ⟨_, he, ?_⟩
  obtain ⟨p, q, hA, hV, _, _, _⟩ := id hW
  obtain ⟨rfl, rfl⟩ := trodVars_none hV
  rw [Try.params11] at hA
  obtain ⟨v0, vs0, d0, ds0, p0, q0, e0, rfl, k0, h0, hr0⟩ := trodAll_cons hA
  obtain ⟨_, rfl, _⟩ := trodAll_nil hr0
  exact law_post Closed.kids Closed.full (by rw [Try.params11]; decide) rfl (by kernel_rfl) Try.underlying4 ⟨rfl, rfl, rfl⟩ hW hB
theorem j1 : (Rows.kalmanGatesRow.inPlace == Try.prog.inPlace 11) = true := by kernel_rfl
theorem j2 : (Rows.kalmanGatesRow.unfollowed == Try.prog.unfollowed 11) = true := by kernel_rfl
theorem j3 : (Rows.kalmanGatesRow.recurses == Try.prog.recurses 11) = true := by kernel_rfl
theorem j4 : (Rows.kalmanGatesRow.named == Try.prog.varsNamed 11) = true := by kernel_rfl
theorem joined : joinedFacts Try.prog 11 Try.f11 Rows.kalmanGatesSpec Rows.kalmanGatesRow = true := by
  unfold joinedFacts
  rw [Closed.laid, Closed.rowed, Closed.plain, Closed.heard, Closed.enter, Closed.final, j1, j2, j3, j4]
  kernel_rfl
end LawKalmanGates

theorem kalmanGates_holds : Rows.KalmanGatesSaid :=
  OpenClaim.holds_of_wide 11 Try.f11 rfl rfl rfl rfl rfl rfl rfl ⟨rfl, rfl, rfl, rfl, rfl⟩ rfl rfl rfl rfl rfl (by kernel_rfl) Try.func11 LawKalmanGates.joined
    (of_decide_eq_true (by kernel_rfl)) (by unfold Func.isWrapper; first | (rw [if_pos (by decide +kernel)]; kernel_rfl) | (rw [if_neg (by decide +kernel)]; exact ⟨rfl, rfl⟩))
    (fun os started H enc _ => LawKalmanGates.lifted os started H enc)
end Go.Proofs.Ytnkijhpikeokfaa
