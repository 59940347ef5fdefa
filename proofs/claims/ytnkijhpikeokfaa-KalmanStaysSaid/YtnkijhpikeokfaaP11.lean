/- The texts L11. -/
import Derived.Test.YtnkijhpikeokfaaRows
import Derived.Test.YtnkijhpikeokfaaG3
import Derived.Test.YtnkijhpikeokfaaG9
set_option linter.unusedSimpArgs false
set_option linter.unusedVariables false
/- KalmanStays: for every track, matrices and numbers: what comes out is right; what is not taken stays. -/
namespace Go.Proofs.Ytnkijhpikeokfaa
open Go Go.Sym Go.ChangeShapes Go.WideShapes Go.ChangeAt Go.RowKit

namespace LawKalmanStays

theorem any : ∀ avs rows, LV 0 [.f (some .i64), .f (some .i64), .sl [some .i64], .f (some .i64), .f (some .i64), .sl [some .i64], .f (some .i64), .f (some .i64), .sl [some .i64], .f (some .i64), .f (some .i64), .sl [some .i64], .f (some .i64), .f (some .i64), .sl [some .i64], .f (some .i64), .f (some .i64), .f (some .i64)] avs rows → SoundC Try.prog 12 (group [some 18] avs) ⟨rows, []⟩ { val := .bool true } := by
  rintro avs rows ⟨_, r0, rfl, ⟨XR, rfl, _⟩, _, r1, rfl, ⟨XC, rfl, _⟩, n2, l2, r2, rs2, rfl, rfl, hn2, hl2, _, r3, rfl, ⟨PR, rfl, _⟩, _, r4, rfl, ⟨PC, rfl, _⟩, n5, l5, r5, rs5, rfl, rfl, hn5, hl5, _, r6, rfl, ⟨fr, rfl, _⟩, _, r7, rfl, ⟨fc, rfl, _⟩, n8, l8, r8, rs8, rfl, rfl, hn8, hl8, _, r9, rfl, ⟨qr, rfl, _⟩, _, r10, rfl, ⟨qc, rfl, _⟩, n11, l11, r11, rs11, rfl, rfl, hn11, hl11, _, r12, rfl, ⟨hR, rfl, _⟩, _, r13, rfl, ⟨hC, rfl, _⟩, n14, l14, r14, rs14, rfl, rfl, hn14, hl14, _, r15, rfl, ⟨z, rfl, _⟩, _, r16, rfl, ⟨r, rfl, _⟩, _, r17, rfl, ⟨gate, rfl, _⟩, rfl, rfl⟩
  obtain ⟨x, rfl, rfl, _⟩ := Rep.ints hl2
  obtain ⟨p, rfl, rfl, _⟩ := Rep.ints hl5
  obtain ⟨F, rfl, rfl, _⟩ := Rep.ints hl8
  obtain ⟨Q, rfl, rfl, _⟩ := Rep.ints hl11
  obtain ⟨hl, rfl, rfl, _⟩ := Rep.ints hl14
  show SoundC _ _ [.agg [.int .i64 XR, .int .i64 XC, .sl (.r 0) 0 x.length 1 false, .int .i64 PR, .int .i64 PC, .sl (.r 1) 0 p.length 1 false, .int .i64 fr, .int .i64 fc, .sl (.r 2) 0 F.length 1 false, .int .i64 qr, .int .i64 qc, .sl (.r 3) 0 Q.length 1 false, .int .i64 hR, .int .i64 hC, .sl (.r 4) 0 hl.length 1 false, .int .i64 z, .int .i64 r, .int .i64 gate]] ⟨[ints x, ints p, ints F, ints Q, ints hl], []⟩ _
  cases h : rightT XR XC x PR PC p with
  | false => exact kStays_no1 XR XC PR PC fr fc qr qc hR hC z r gate x p F Q hl h
  | true =>
  cases h2 : rightM fr fc F with
  | false => exact kStays_no2 XR XC PR PC fr fc qr qc hR hC z r gate x p F Q hl h h2
  | true =>
  cases h3 : rightM qr qc Q with
  | false => exact kStays_no3 XR XC PR PC fr fc qr qc hR hC z r gate x p F Q hl h h2 h3
  | true =>
  cases h4 : rightM hR hC hl with
  | false => exact kStays_no4 XR XC PR PC fr fc qr qc hR hC z r gate x p F Q hl h h2 h3 h4
  | true =>
    obtain ⟨g1, g2, rfl, rfl, g5, g6, g7⟩ := rightT_is h
    obtain ⟨n, c, rfl, e2, k1, k2, k3, k4, k5, k6⟩ := rightM_nat g1
    obtain rfl : c = 1 := by omega
    subst g5
    obtain ⟨n', c', e3, e4, _, _, _, _, j5, j6⟩ := rightM_nat g2
    obtain rfl : n = n' := by omega
    obtain rfl : n = c' := by omega
    obtain ⟨fr', fc', rfl, rfl, _, _, _, _, hF, _⟩ := rightM_nat h2
    obtain ⟨qr', qc', rfl, rfl, _, _, _, _, hQ, _⟩ := rightM_nat h3
    by_cases hm : mayV hR hC n r = 0
    · have hm2 : hR = 1 ∧ hC = n ∧ 0 < r := by
        unfold mayV at hm
        split at hm
        · rename_i hh; split at hm
          · omega
          · exact ⟨hh.1, hh.2, by omega⟩
        · omega
      obtain ⟨rfl, rfl, hr0⟩ := hm2
      have hH : hl.length = 1 * n := by
        obtain ⟨a, b, ea, eb, _, _, _, _, hab, _⟩ := rightM_nat h4
        obtain rfl : a = 1 := by omega
        obtain rfl : b = n := by omega
        exact hab
      by_cases hf : fr' = n ∧ fc' = n ∧ qr' = n ∧ qc' = n
      · obtain ⟨rfl, rfl, rfl, rfl⟩ := hf
        rcases update_ex _ k1 k2 x p hl k5 j5 hH false z r gate hr0 with ⟨w, hup⟩ | ⟨w, X2, P2, hr2, hup⟩
        · exact kStays_ys _ k1 k2 _ _ _ _ _ _ z r gate x p F Q hl k5 j5 h h2 h3 h4 _ _ _ (pre_right k1 k2 F x p Q) (predict_ok _ k1 k2 x p F Q k5 j5 hF hQ false false false false) w hup
        · exact kStays_yt _ k1 k2 _ _ _ _ _ _ z r gate x p F Q hl k5 j5 h h2 h3 h4 _ _ _ (pre_right k1 k2 F x p Q) (predict_ok _ k1 k2 x p F Q k5 j5 hF hQ false false false false) w X2 P2 hr2 hup
      · have hpr := predict_no n 1 n n fr' fc' qr' qc' x p F Q false false false false (by omega)
        rcases update_ex _ k1 k2 x p hl k5 j5 hH false z r gate hr0 with ⟨w, hup⟩ | ⟨w, X2, P2, hr2, hup⟩
        · exact kStays_ns _ k1 k2 _ _ _ _ _ _ z r gate x p F Q hl k5 j5 h h2 h3 h4 hpr w hup
        · exact kStays_nt _ k1 k2 _ _ _ _ _ _ z r gate x p F Q hl k5 j5 h h2 h3 h4 hpr w X2 P2 hr2 hup
    · have hup := update_no n 1 n n x p false false hR hC hl false z r gate hm
      by_cases hf : fr' = n ∧ fc' = n ∧ qr' = n ∧ qc' = n
      · obtain ⟨rfl, rfl, rfl, rfl⟩ := hf
        exact kStays_yn _ k1 k2 _ _ _ _ _ _ z r gate x p F Q hl k5 j5 h h2 h3 h4 _ _ _ (pre_right k1 k2 F x p Q) (predict_ok _ k1 k2 x p F Q k5 j5 hF hQ false false false false) _ hm hup
      · exact kStays_nn _ k1 k2 _ _ _ _ _ _ z r gate x p F Q hl k5 j5 h h2 h3 h4 (predict_no n 1 n n fr' fc' qr' qc' x p F Q false false false false (by omega)) _ hm hup

set_option maxRecDepth 100000 in
theorem lifted (os : Os) (started : os.Started) (HH : Type) (enc : TypeId × Value → HH) :
    ReturnsInHanded {} Try.checked os 12 .any (Rows.kalmanStaysSpec.pre6 enc Try.prog Try.f12 Rows.kalmanStaysRow.domain false) (Rows.kalmanStaysSpec.post enc Try.prog Try.f12 false true false false) := by
  refine returnsInHanded_of_change (C := Try.checked) Closed.own started (by kernel_rfl) Try.func12
    (ChangeSpec.witness6 (enc := enc) (C := Try.checked) false ⟨#[], #[.agg #[.int .i64 0, .int .i64 0, .slice none 0 0, .int .i64 0, .int .i64 0, .slice none 0 0, .int .i64 0, .int .i64 0, .slice none 0 0, .int .i64 0, .int .i64 0, .slice none 0 0, .int .i64 0, .int .i64 0, .slice none 0 0, .int .i64 0, .int .i64 0, .int .i64 0]], []⟩ 8 (by kernel_rfl) (by kernel_rfl) (by kernel_rfl) (by kernel_rfl)) ?_
  intro W base args ds gs before hval hW hcnd _
  refine (law_calls (ts := [3, 3, 22, 3, 3, 22, 3, 3, 22, 3, 3, 22, 3, 3, 22, 30, 30, 30]) (sh := [some 18]) (ks := [.f (some .i64), .f (some .i64), .sl [some .i64], .f (some .i64), .f (some .i64), .sl [some .i64], .f (some .i64), .f (some .i64), .sl [some .i64], .f (some .i64), .f (some .i64), .sl [some .i64], .f (some .i64), .f (some .i64), .sl [some .i64], .f (some .i64), .f (some .i64), .f (some .i64)]) (pts := [66]) (by kernel_rfl) (by kernel_rfl) (by kernel_rfl) any hval hW).mono fun e W' ⟨he, hB⟩ => ⟨_, he, ?_⟩
  obtain ⟨p, q, hA, hV, _, _, _⟩ := id hW
  obtain ⟨rfl, rfl⟩ := trodVars_none hV
  rw [Try.params12] at hA
  obtain ⟨v0, vs0, d0, ds0, p0, q0, e0, rfl, k0, h0, hr0⟩ := trodAll_cons hA
  obtain ⟨_, rfl, _⟩ := trodAll_nil hr0
  exact law_post Closed.kids Closed.full (by rw [Try.params12]; decide) rfl (by kernel_rfl) Try.underlying4 ⟨rfl, rfl, rfl⟩ hW hB
theorem j1 : (Rows.kalmanStaysRow.inPlace == Try.prog.inPlace 12) = true := by kernel_rfl
theorem j2 : (Rows.kalmanStaysRow.unfollowed == Try.prog.unfollowed 12) = true := by kernel_rfl
theorem j3 : (Rows.kalmanStaysRow.recurses == Try.prog.recurses 12) = true := by kernel_rfl
theorem j4 : (Rows.kalmanStaysRow.named == Try.prog.varsNamed 12) = true := by kernel_rfl
theorem joined : joinedFacts Try.prog 12 Try.f12 Rows.kalmanStaysSpec Rows.kalmanStaysRow = true := by
  unfold joinedFacts
  rw [Closed.laid, Closed.rowed, Closed.plain, Closed.heard, Closed.enter, Closed.final, j1, j2, j3, j4]
  kernel_rfl
end LawKalmanStays

theorem kalmanStays_holds : Rows.KalmanStaysSaid :=
  OpenClaim.holds_of_wide 12 Try.f12 rfl rfl rfl rfl rfl rfl rfl ⟨rfl, rfl, rfl, rfl, rfl⟩ rfl rfl rfl rfl rfl (by kernel_rfl) Try.func12 LawKalmanStays.joined
    (of_decide_eq_true (by kernel_rfl)) (by unfold Func.isWrapper; first | (rw [if_pos (by decide +kernel)]; kernel_rfl) | (rw [if_neg (by decide +kernel)]; exact ⟨rfl, rfl⟩))
    (fun os started H enc _ => LawKalmanStays.lifted os started H enc)
end Go.Proofs.Ytnkijhpikeokfaa
