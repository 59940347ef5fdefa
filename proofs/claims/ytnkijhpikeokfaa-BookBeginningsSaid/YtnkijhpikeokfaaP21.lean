/- The texts L21. -/
import Derived.Test.YtnkijhpikeokfaaRows
import Derived.Test.YtnkijhpikeokfaaG3
import Derived.Test.YtnkijhpikeokfaaH3
set_option linter.unusedSimpArgs false
set_option linter.unusedVariables false
/- BookBeginnings: for every two logs and every number: a log begins with each beginning of it; two that begin with one another are the same. -/
namespace Go.Proofs.Ytnkijhpikeokfaa
open Go Go.Sym Go.ChangeShapes Go.WideShapes Go.ChangeAt Go.RowKit

namespace LawBookBeginnings

theorem any : ∀ avs rows, LV 0 [.sl [none, some .i64, some .i64, some .i64, some .i64, some .i64, some .i64, none, some .i64, none, some .i64, some .i64, some .i64], .sl [none, some .i64, some .i64, some .i64, some .i64, some .i64, some .i64, none, some .i64, none, some .i64, some .i64, some .i64], .f (some .i64)] avs rows → SoundC Try.prog 21 (group [none, none, none] avs) ⟨rows, []⟩ { val := .bool true } := by
  rintro avs rows ⟨n0, l0, r0, rs0, rfl, rfl, hn0, hl0, n1, l1, r1, rs1, rfl, rfl, hn1, hl1, _, r2, rfl, ⟨n, rfl, _⟩, rfl, rfl⟩
  obtain ⟨A, rfl, rfl⟩ := Rep.sams hl0
  obtain ⟨C, rfl, rfl⟩ := Rep.sams hl1
  show SoundC _ _ [.sl (.r 0) 0 A.length 13 false, .sl (.r 1) 0 C.length 13 false, .int .i64 n] ⟨[sams A, sams C], []⟩ _
  have hA : A.length ≤ 9223372036854775807 := hn0
  have hC : C.length ≤ 9223372036854775807 := hn1
  by_cases h : IntKind.i64.wrap ((A.length : Int) + (C.length : Int)) > 60
  · exact bookBeg_no A C n h
  · by_cases hn : 0 ≤ n ∧ n ≤ C.length
    · obtain ⟨m, rfl⟩ : ∃ m : Nat, n = m := ⟨n.toNat, by omega⟩
      exact bookBeg_in A C m hA hC h (by omega)
    · exact bookBeg_out A C n hA hC h (by omega)

set_option maxRecDepth 100000 in
theorem lifted (os : Os) (started : os.Started) (HH : Type) (enc : TypeId × Value → HH) :
    ReturnsInHanded {} Try.checked os 21 .any (Rows.bookBeginningsSpec.pre6 enc Try.prog Try.f21 Rows.bookBeginningsRow.domain false) (Rows.bookBeginningsSpec.post enc Try.prog Try.f21 false true false false) := by
  refine returnsInHanded_of_change (C := Try.checked) Closed.own started (by kernel_rfl) Try.func21
    (ChangeSpec.witness6 (enc := enc) (C := Try.checked) false ⟨#[], #[.slice none 0 0, .slice none 0 0, .int .i64 0], []⟩ 8 (by kernel_rfl) (by kernel_rfl) (by kernel_rfl) (by kernel_rfl)) ?_
  intro W base args ds gs before hval hW hcnd _
  refine (law_calls (ts := [93, 93, 3]) (sh := [none, none, none]) (ks := [.sl [none, some .i64, some .i64, some .i64, some .i64, some .i64, some .i64, none, some .i64, none, some .i64, some .i64, some .i64], .sl [none, some .i64, some .i64, some .i64, some .i64, some .i64, some .i64, none, some .i64, none, some .i64, some .i64, some .i64], .f (some .i64)]) (pts := [93, 93, 3]) (by kernel_rfl) (by kernel_rfl) (by kernel_rfl) any hval hW).mono fun e W' ⟨he, hB⟩ => ⟨_, he, ?_⟩
  obtain ⟨p, q, hA, hV, _, _, _⟩ := id hW
  obtain ⟨rfl, rfl⟩ := trodVars_none hV
  rw [Try.params21] at hA
  obtain ⟨v0, vs0, d0, ds0, p0, q0, e0, rfl, k0, h0, hr0⟩ := trodAll_cons hA
  obtain ⟨v1, vs1, d1, ds1, p1, q1, e1, rfl, k1, h1, hr1⟩ := trodAll_cons hr0
  obtain ⟨v2, vs2, d2, ds2, p2, q2, e2, rfl, k2, h2, hr2⟩ := trodAll_cons hr1
  obtain ⟨_, rfl, _⟩ := trodAll_nil hr2
  exact law_post Closed.kids Closed.full (by rw [Try.params21]; decide) rfl (by kernel_rfl) Try.underlying4 ⟨rfl, rfl, rfl⟩ hW hB
theorem j1 : (Rows.bookBeginningsRow.inPlace == Try.prog.inPlace 21) = true := by kernel_rfl
theorem j2 : (Rows.bookBeginningsRow.unfollowed == Try.prog.unfollowed 21) = true := by kernel_rfl
theorem j3 : (Rows.bookBeginningsRow.recurses == Try.prog.recurses 21) = true := by kernel_rfl
theorem j4 : (Rows.bookBeginningsRow.named == Try.prog.varsNamed 21) = true := by kernel_rfl
theorem joined : joinedFacts Try.prog 21 Try.f21 Rows.bookBeginningsSpec Rows.bookBeginningsRow = true := by
  unfold joinedFacts
  rw [Closed.laid, Closed.rowed, Closed.plain, Closed.heard, Closed.enter, Closed.final, j1, j2, j3, j4]
  kernel_rfl
end LawBookBeginnings

theorem bookBeginnings_holds : Rows.BookBeginningsSaid :=
  OpenClaim.holds_of_wide 21 Try.f21 rfl rfl rfl rfl rfl rfl rfl ⟨rfl, rfl, rfl, rfl, rfl⟩ rfl rfl rfl rfl rfl (by kernel_rfl) Try.func21 LawBookBeginnings.joined
    (of_decide_eq_true (by kernel_rfl)) (by unfold Func.isWrapper; first | (rw [if_pos (by decide +kernel)]; kernel_rfl) | (rw [if_neg (by decide +kernel)]; exact ⟨rfl, rfl⟩))
    (fun os started H enc _ => LawBookBeginnings.lifted os started H enc)
end Go.Proofs.Ytnkijhpikeokfaa
