/- The texts L19. -/
import Derived.Test.YtnkijhpikeokfaaRows
import Derived.Test.YtnkijhpikeokfaaG3
import Derived.Test.YtnkijhpikeokfaaH3
set_option linter.unusedSimpArgs false
set_option linter.unusedVariables false
/- BookRises: for every row of what was taken and every generation: what rises rises without its last one, and without its first one; with one of no greater place behind it, it does not; the places of a generation rise then. -/
namespace Go.Proofs.Ytnkijhpikeokfaa
open Go Go.Sym Go.ChangeShapes Go.WideShapes Go.ChangeAt Go.RowKit

namespace LawBookRises

theorem any : ∀ avs rows, LV 0 [.sl [some .i64, some .i64, some .i64, some .i64, some .i64], .f (some .i64)] avs rows → SoundC Try.prog 19 (group [none, none] avs) ⟨rows, []⟩ { val := .bool true } := by
  rintro avs rows ⟨n0, l0, r0, rs0, rfl, rfl, hn0, hl0, _, r1, rfl, ⟨gen, rfl, _⟩, rfl, rfl⟩
  obtain ⟨L, rfl, rfl⟩ := Rep.tks hl0
  show SoundC _ _ [.sl (.r 0) 0 L.length 5 false, .int .i64 gen] ⟨[tks L], []⟩ _
  by_cases h : L.length ≤ 50
  case neg => exact bookRis_no L gen h
  cases hr : rises L with
  | false => exact bookRis_not L gen h hr
  | true =>
    cases hO : ofL L gen with
    | nil => exact bookRis_nil L gen h hr hO
    | cons a l => exact bookRis_cons L gen h hr _ hO (by simp)

set_option maxRecDepth 100000 in
theorem lifted (os : Os) (started : os.Started) (HH : Type) (enc : TypeId × Value → HH) :
    ReturnsInHanded {} Try.checked os 19 .any (Rows.bookRisesSpec.pre6 enc Try.prog Try.f19 Rows.bookRisesRow.domain false) (Rows.bookRisesSpec.post enc Try.prog Try.f19 false true false false) := by
  refine returnsInHanded_of_change (C := Try.checked) Closed.own started (by kernel_rfl) Try.func19
    (ChangeSpec.witness6 (enc := enc) (C := Try.checked) false ⟨#[], #[.slice none 0 0, .int .i64 0], []⟩ 8 (by kernel_rfl) (by kernel_rfl) (by kernel_rfl) (by kernel_rfl)) ?_
  intro W base args ds gs before hval hW hcnd _
  refine (law_calls (ts := [94, 2]) (sh := [none, none]) (ks := [.sl [some .i64, some .i64, some .i64, some .i64, some .i64], .f (some .i64)]) (pts := [94, 2]) (by kernel_rfl) (by kernel_rfl) (by kernel_rfl) any hval hW).mono fun e W' ⟨he, hB⟩ => ⟨_, he, ?_⟩
  obtain ⟨p, q, hA, hV, _, _, _⟩ := id hW
  obtain ⟨rfl, rfl⟩ := trodVars_none hV
  rw [Try.params19] at hA
  obtain ⟨v0, vs0, d0, ds0, p0, q0, e0, rfl, k0, h0, hr0⟩ := trodAll_cons hA
  obtain ⟨v1, vs1, d1, ds1, p1, q1, e1, rfl, k1, h1, hr1⟩ := trodAll_cons hr0
  obtain ⟨_, rfl, _⟩ := trodAll_nil hr1
  exact law_post Closed.kids Closed.full (by rw [Try.params19]; decide) rfl (by kernel_rfl) Try.underlying4 ⟨rfl, rfl, rfl⟩ hW hB
theorem j1 : (Rows.bookRisesRow.inPlace == Try.prog.inPlace 19) = true := by kernel_rfl
theorem j2 : (Rows.bookRisesRow.unfollowed == Try.prog.unfollowed 19) = true := by kernel_rfl
theorem j3 : (Rows.bookRisesRow.recurses == Try.prog.recurses 19) = true := by kernel_rfl
theorem j4 : (Rows.bookRisesRow.named == Try.prog.varsNamed 19) = true := by kernel_rfl
theorem joined : joinedFacts Try.prog 19 Try.f19 Rows.bookRisesSpec Rows.bookRisesRow = true := by
  unfold joinedFacts
  rw [Closed.laid, Closed.rowed, Closed.plain, Closed.heard, Closed.enter, Closed.final, j1, j2, j3, j4]
  kernel_rfl
end LawBookRises

theorem bookRises_holds : Rows.BookRisesSaid :=
  OpenClaim.holds_of_wide 19 Try.f19 rfl rfl rfl rfl rfl rfl rfl ⟨rfl, rfl, rfl, rfl, rfl⟩ rfl rfl rfl rfl rfl (by kernel_rfl) Try.func19 LawBookRises.joined
    (of_decide_eq_true (by kernel_rfl)) (by unfold Func.isWrapper; first | (rw [if_pos (by decide +kernel)]; kernel_rfl) | (rw [if_neg (by decide +kernel)]; exact ⟨rfl, rfl⟩))
    (fun os started H enc _ => LawBookRises.lifted os started H enc)
end Go.Proofs.Ytnkijhpikeokfaa
