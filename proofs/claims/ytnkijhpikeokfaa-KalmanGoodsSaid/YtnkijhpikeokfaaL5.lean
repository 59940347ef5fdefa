/- KalmanGoods: for every matrix: what is good of it is even; good again it is the same; what is good already stays. -/
import Derived.Test.YtnkijhpikeokfaaRows
import Derived.Test.YtnkijhpikeokfaaS27
import Derived.Test.YtnkijhpikeokfaaK1
import Derived.Test.YtnkijhpikeokfaaF18
set_option linter.unusedSimpArgs false
set_option linter.unusedVariables false
namespace Go.Proofs.Ytnkijhpikeokfaa
open Go Go.Sym Go.ChangeShapes Go.WideShapes Go.ChangeAt Go.RowKit

namespace LawKalmanGoods

theorem any : ∀ avs rows, LV 0 [.f (some .i64), .f (some .i64), .sl [some .i64]] avs rows → SoundC Try.prog 9 (group [some 3] avs) ⟨rows, []⟩ { val := .bool true } := by
  rintro avs rows ⟨_, r1, rfl, ⟨R, rfl, _⟩, _, r2, rfl, ⟨C, rfl, _⟩, n, l, r3, rs, rfl, rfl, hn, hl, rfl, rfl⟩
  obtain ⟨L, rfl, rfl, hb⟩ := Rep.ints hl
  show SoundC _ _ [.agg [.int .i64 R, .int .i64 C, .sl (.r 0) 0 L.length 1 false]] ⟨[ints L], []⟩ _
  cases h : rightM R C L with
  | false => exact kGoods_no1 R C L h
  | true =>
    obtain ⟨r, c, rfl, rfl, h1, h2, h3, h4, h5, h6⟩ := rightM_nat h
    by_cases e : r = c
    · subst e; exact kGoods_yes r h1 h2 L h5 h6
    · exact kGoods_no2 r c L h (fun h => e (by omega))

set_option maxRecDepth 100000 in
theorem lifted (os : Os) (started : os.Started) (HH : Type) (enc : TypeId × Value → HH) :
    ReturnsInHanded {} Try.checked os 9 .any (Rows.kalmanGoodsSpec.pre6 enc Try.prog Try.f9 Rows.kalmanGoodsRow.domain false) (Rows.kalmanGoodsSpec.post enc Try.prog Try.f9 false true false false) := by
  refine returnsInHanded_of_change (C := Try.checked) Closed.own started (by kernel_rfl) Try.func9
    (ChangeSpec.witness6 (enc := enc) (C := Try.checked) false ⟨#[], #[.agg #[.int .i64 0, .int .i64 0, .slice none 0 0]], []⟩ 8 (by kernel_rfl) (by kernel_rfl) (by kernel_rfl) (by kernel_rfl)) ?_
  intro W base args ds gs before hval hW hcnd _
  refine (law_calls (ts := [3, 3, 22]) (sh := [some 3]) (ks := [.f (some .i64), .f (some .i64), .sl [some .i64]]) (pts := [24]) (by kernel_rfl) (by kernel_rfl) (by kernel_rfl) any hval hW).mono fun e W' ⟨he, hB⟩ => ⟨_, he, ?_⟩
  obtain ⟨p, q, hA, hV, _, _, _⟩ := id hW
  obtain ⟨rfl, rfl⟩ := trodVars_none hV
  rw [Try.params9] at hA
  obtain ⟨v0, vs0, d0, ds0, p0, q0, e0, rfl, k0, h0, hr0⟩ := trodAll_cons hA
  obtain ⟨_, rfl, _⟩ := trodAll_nil hr0
  exact law_post Closed.kids Closed.full (by rw [Try.params9]; decide) rfl (by kernel_rfl) Try.underlying4 ⟨rfl, rfl, rfl⟩ hW hB
theorem j1 : (Rows.kalmanGoodsRow.inPlace == Try.prog.inPlace 9) = true := by kernel_rfl
theorem j2 : (Rows.kalmanGoodsRow.unfollowed == Try.prog.unfollowed 9) = true := by kernel_rfl
theorem j3 : (Rows.kalmanGoodsRow.recurses == Try.prog.recurses 9) = true := by kernel_rfl
theorem j4 : (Rows.kalmanGoodsRow.named == Try.prog.varsNamed 9) = true := by kernel_rfl
theorem joined : joinedFacts Try.prog 9 Try.f9 Rows.kalmanGoodsSpec Rows.kalmanGoodsRow = true := by
  unfold joinedFacts
  rw [Closed.laid, Closed.rowed, Closed.plain, Closed.heard, Closed.enter, Closed.final, j1, j2, j3, j4]
  kernel_rfl
end LawKalmanGoods

theorem kalmanGoods_holds : Rows.KalmanGoodsSaid :=
  OpenClaim.holds_of_wide 9 Try.f9 rfl rfl rfl rfl rfl rfl rfl ⟨rfl, rfl, rfl, rfl, rfl⟩ rfl rfl rfl rfl rfl (by kernel_rfl) Try.func9 LawKalmanGoods.joined
    (of_decide_eq_true (by kernel_rfl)) (by unfold Func.isWrapper; first | (rw [if_pos (by decide +kernel)]; kernel_rfl) | (rw [if_neg (by decide +kernel)]; exact ⟨rfl, rfl⟩))
    (fun os started H enc _ => LawKalmanGoods.lifted os started H enc)
end Go.Proofs.Ytnkijhpikeokfaa
