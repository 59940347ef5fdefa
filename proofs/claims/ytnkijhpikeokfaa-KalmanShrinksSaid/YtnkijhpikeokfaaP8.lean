/- The texts L8. -/
import Derived.Test.YtnkijhpikeokfaaRows
import Derived.Test.YtnkijhpikeokfaaG3
import Derived.Test.YtnkijhpikeokfaaG8
set_option linter.unusedSimpArgs false
set_option linter.unusedVariables false
/- KalmanShrinks: for every four numbers: what is measured of a number alone does not let it vary more, but for a rounding; it comes to lie between what it was and what was measured, but for a rounding. -/
namespace Go.Proofs.Ytnkijhpikeokfaa
open Go Go.Sym Go.ChangeShapes Go.WideShapes Go.ChangeAt Go.RowKit

namespace LawKalmanShrinks

theorem any : ∀ avs rows, LV 0 [.f (some .u16), .f (some .u16), .f (some .u8), .f (some .u8)] avs rows → SoundC Try.prog 8 (group [some 4] avs) ⟨rows, []⟩ { val := .bool true } := by
  rintro avs rows ⟨_, r1, rfl, ⟨x, rfl, h0⟩, _, r2, rfl, ⟨z, rfl, h1⟩, _, r3, rfl, ⟨v, rfl, h2⟩, _, r4, rfl, ⟨r, rfl, h3⟩, rfl, rfl⟩
  have k0 : 0 ≤ x ∧ x < 65536 := by simp [Lit.wf, IntKind.min, IntKind.max, IntKind.bits, IntKind.signed] at h0; omega
  have k1 : 0 ≤ z ∧ z < 65536 := by simp [Lit.wf, IntKind.min, IntKind.max, IntKind.bits, IntKind.signed] at h1; omega
  have k2 : 0 ≤ v ∧ v < 256 := by simp [Lit.wf, IntKind.min, IntKind.max, IntKind.bits, IntKind.signed] at h2; omega
  have k3 : 0 ≤ r ∧ r < 256 := by simp [Lit.wf, IntKind.min, IntKind.max, IntKind.bits, IntKind.signed] at h3; omega
  obtain ⟨X, rfl⟩ := Int.eq_ofNat_of_zero_le k0.1
  obtain ⟨Z, rfl⟩ := Int.eq_ofNat_of_zero_le k1.1
  obtain ⟨V, rfl⟩ := Int.eq_ofNat_of_zero_le k2.1
  obtain ⟨R, rfl⟩ := Int.eq_ofNat_of_zero_le k3.1
  show SoundC _ _ [.agg [.int .u16 X, .int .u16 Z, .int .u8 V, .int .u8 R]] ⟨[], []⟩ _
  by_cases hs : (mulQ (offY [16777216] [((X % 1000 * 16777216 : Nat) : Int)] 1 (Z % 1000 * 16777216 : Nat)) (offY [16777216] [((X % 1000 * 16777216 : Nat) : Int)] 1 (Z % 1000 * 16777216 : Nat)) > mulQ 67108864000 (offS [16777216] [((V % 100 * 16777216 : Nat) : Int)] 1 ((R % 100 + 1) * 16777216 : Nat)) ∨ offS [16777216] [((V % 100 * 16777216 : Nat) : Int)] 1 ((R % 100 + 1) * 16777216 : Nat) ≤ 0)
  · exact kShr_stay X Z V R _ _ _ _ (by omega) (by omega) (by omega) (by omega) rfl rfl rfl rfl hs
  · exact kShr_take X Z V R _ _ _ _ (by omega) (by omega) (by omega) (by omega) rfl rfl rfl rfl hs

set_option maxRecDepth 100000 in
theorem lifted (os : Os) (started : os.Started) (HH : Type) (enc : TypeId × Value → HH) :
    ReturnsInHanded {} Try.checked os 8 .any (Rows.kalmanShrinksSpec.pre6 enc Try.prog Try.f8 Rows.kalmanShrinksRow.domain false) (Rows.kalmanShrinksSpec.post enc Try.prog Try.f8 false true false false) := by
  refine returnsInHanded_of_change (C := Try.checked) Closed.own started (by kernel_rfl) Try.func8
    (ChangeSpec.witness6 (enc := enc) (C := Try.checked) false ⟨#[], #[.agg #[.int .u16 0, .int .u16 0, .int .u8 0, .int .u8 0]], []⟩ 8 (by kernel_rfl) (by kernel_rfl) (by kernel_rfl) (by kernel_rfl)) ?_
  intro W base args ds gs before hval hW hcnd _
  refine (law_calls (ts := [47, 47, 5, 5]) (sh := [some 4]) (ks := [.f (some .u16), .f (some .u16), .f (some .u8), .f (some .u8)]) (pts := [49]) (by kernel_rfl) (by kernel_rfl) (by kernel_rfl) any hval hW).mono fun e W' ⟨he, hB⟩ => ⟨_, he, ?_⟩
  obtain ⟨p, q, hA, hV, _, _, _⟩ := id hW
  obtain ⟨rfl, rfl⟩ := trodVars_none hV
  rw [Try.params8] at hA
  obtain ⟨v0, vs0, d0, ds0, p0, q0, e0, rfl, k0, h0, hr0⟩ := trodAll_cons hA
  obtain ⟨_, rfl, _⟩ := trodAll_nil hr0
  exact law_post Closed.kids Closed.full (by rw [Try.params8]; decide) rfl (by kernel_rfl) Try.underlying4 ⟨rfl, rfl, rfl⟩ hW hB
theorem j1 : (Rows.kalmanShrinksRow.inPlace == Try.prog.inPlace 8) = true := by kernel_rfl
theorem j2 : (Rows.kalmanShrinksRow.unfollowed == Try.prog.unfollowed 8) = true := by kernel_rfl
theorem j3 : (Rows.kalmanShrinksRow.recurses == Try.prog.recurses 8) = true := by kernel_rfl
theorem j4 : (Rows.kalmanShrinksRow.named == Try.prog.varsNamed 8) = true := by kernel_rfl
theorem joined : joinedFacts Try.prog 8 Try.f8 Rows.kalmanShrinksSpec Rows.kalmanShrinksRow = true := by
  unfold joinedFacts
  rw [Closed.laid, Closed.rowed, Closed.plain, Closed.heard, Closed.enter, Closed.final, j1, j2, j3, j4]
  kernel_rfl
end LawKalmanShrinks

theorem kalmanShrinks_holds : Rows.KalmanShrinksSaid :=
  OpenClaim.holds_of_wide 8 Try.f8 rfl rfl rfl rfl rfl rfl rfl ⟨rfl, rfl, rfl, rfl, rfl⟩ rfl rfl rfl rfl rfl (by kernel_rfl) Try.func8 LawKalmanShrinks.joined
    (of_decide_eq_true (by kernel_rfl)) (by unfold Func.isWrapper; first | (rw [if_pos (by decide +kernel)]; kernel_rfl) | (rw [if_neg (by decide +kernel)]; exact ⟨rfl, rfl⟩))
    (fun os started H enc _ => LawKalmanShrinks.lifted os started H enc)
end Go.Proofs.Ytnkijhpikeokfaa
