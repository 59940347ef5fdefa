/- MatDiags: for every two rows of three whole numbers of eight bits: a diagonal times a diagonal is the products; Eye is the diagonal of ones. -/
import Derived.Test.YtnkijhpikeokfaaRows
import Derived.Test.YtnkijhpikeokfaaS27
import Derived.Test.YtnkijhpikeokfaaK1
import Derived.Test.YtnkijhpikeokfaaF15
set_option linter.unusedSimpArgs false
set_option linter.unusedVariables false
namespace Go.Proofs.Ytnkijhpikeokfaa
open Go Go.Sym Go.ChangeShapes Go.WideShapes Go.ChangeAt Go.RowKit

namespace LawMatDiags

theorem any : ∀ avs rows, LV 0 [.f (some .i8), .f (some .i8), .f (some .i8), .f (some .i8), .f (some .i8), .f (some .i8)] avs rows → SoundC Try.prog 6 (group [some 3, some 3] avs) ⟨rows, []⟩ { val := .bool true } := by
  rintro avs rows ⟨_, r1, rfl, ⟨a0, rfl, h0⟩, _, r2, rfl, ⟨a1, rfl, h1⟩, _, r3, rfl, ⟨a2, rfl, h2⟩, _, r4, rfl, ⟨b0, rfl, k0⟩, _, r5, rfl, ⟨b1, rfl, k1⟩, _, r6, rfl, ⟨b2, rfl, k2⟩, rfl, rfl⟩
  have w : ∀ {x : Int}, (Lit.int .i8 x).wf = true → i8 x := fun h => by simpa [Lit.wf, IntKind.min, IntKind.max, IntKind.bits, IntKind.signed, i8] using h
  exact matDiags_any a0 a1 a2 b0 b1 b2 (w h0) (w h1) (w h2) (w k0) (w k1) (w k2)

set_option maxRecDepth 100000 in
theorem lifted (os : Os) (started : os.Started) (HH : Type) (enc : TypeId × Value → HH) :
    ReturnsInHanded {} Try.checked os 6 .any (Rows.matDiagsSpec.pre6 enc Try.prog Try.f6 Rows.matDiagsRow.domain false) (Rows.matDiagsSpec.post enc Try.prog Try.f6 false true false false) := by
  refine returnsInHanded_of_change (C := Try.checked) Closed.own started (by kernel_rfl) Try.func6
    (ChangeSpec.witness6 (enc := enc) (C := Try.checked) false ⟨#[], #[.agg #[.int .i8 0, .int .i8 0, .int .i8 0], .agg #[.int .i8 0, .int .i8 0, .int .i8 0]], []⟩ 8 (by kernel_rfl) (by kernel_rfl) (by kernel_rfl) (by kernel_rfl)) ?_
  intro W base args ds gs before hval hW hcnd _
  refine (law_calls (ts := [36, 36, 36, 36, 36, 36]) (sh := [some 3, some 3]) (ks := [.f (some .i8), .f (some .i8), .f (some .i8), .f (some .i8), .f (some .i8), .f (some .i8)]) (pts := [37, 37]) (by kernel_rfl) (by kernel_rfl) (by kernel_rfl) any hval hW).mono fun e W' ⟨he, hB⟩ => ⟨_, he, ?_⟩
  obtain ⟨p, q, hA, hV, _, _, _⟩ := id hW
  obtain ⟨rfl, rfl⟩ := trodVars_none hV
  rw [Try.params6] at hA
  obtain ⟨v0, vs0, d0, ds0, p0, q0, e0, rfl, k0, h0, hr0⟩ := trodAll_cons hA
  obtain ⟨v1, vs1, d1, ds1, p1, q1, e1, rfl, k1, h1, hr1⟩ := trodAll_cons hr0
  obtain ⟨_, rfl, _⟩ := trodAll_nil hr1
  exact law_post Closed.kids Closed.full (by rw [Try.params6]; decide) rfl (by kernel_rfl) Try.underlying4 ⟨rfl, rfl, rfl⟩ hW hB
theorem joined : joinedFacts Try.prog 6 Try.f6 Rows.matDiagsSpec Rows.matDiagsRow = true := by
  unfold joinedFacts
  rw [Closed.laid, Closed.rowed, Closed.plain, Closed.heard, Closed.enter, Closed.final]
  kernel_rfl
end LawMatDiags

theorem matDiags_holds : Rows.MatDiagsSaid :=
  OpenClaim.holds_of_wide 6 Try.f6 rfl rfl rfl rfl rfl rfl rfl ⟨rfl, rfl, rfl, rfl, rfl⟩ rfl rfl rfl rfl rfl (by kernel_rfl) Try.func6 LawMatDiags.joined
    (of_decide_eq_true (by kernel_rfl)) (by unfold Func.isWrapper; first | (rw [if_pos (by decide +kernel)]; kernel_rfl) | (rw [if_neg (by decide +kernel)]; exact ⟨rfl, rfl⟩))
    (fun os started H enc _ => LawMatDiags.lifted os started H enc)
end Go.Proofs.Ytnkijhpikeokfaa
