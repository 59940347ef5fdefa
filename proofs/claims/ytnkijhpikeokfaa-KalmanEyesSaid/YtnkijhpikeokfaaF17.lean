/- Tracks, as the document says: which are right; a matrix of noughts; what is good. -/
import Derived.Test.YtnkijhpikeokfaaF16
import Derived.Test.YtnkijhpikeokfaaC05
set_option linter.unusedSimpArgs false
set_option linter.unusedVariables false
namespace Go.Proofs.Ytnkijhpikeokfaa
open Go Go.Sym Go.IntWalk

theorem r5_lower {p : List Int} {n : Nat} (h : ∀ j, j < n → ∀ k, k < j → p.getD (j * n + k) 0 = p.getD (k * n + j) 0) : ∀ i k, i < n → k < n → p.getD (i * n + k) 0 = p.getD (k * n + i) 0 := by
  intro i k hi hk
  rcases Nat.lt_trichotomy i k with h1 | rfl | h1
  · exact (h k hk i h1).symm
  · rfl
  · exact h i hi k h1

set_option maxHeartbeats 1000000 in
theorem r5right_ok (XR XC PR PC : Int) (x p : List Int) (f0 f1 : Bool) : SoundC Try.prog 40 [.agg [.int .i64 XR, .int .i64 XC, .sl (.r 0) 0 x.length 1 f0, .int .i64 PR, .int .i64 PC, .sl (.r 1) 0 p.length 1 f1]] ⟨[ints x, ints p], []⟩ { val := .bool (rightT XR XC x PR PC p) } := by
  refine SoundC.of (N := 85) Try.func40 rfl rfl rfl rfl ?_
  refine AW.seq ?_
  refine AW.region (by kernel_rfl) ?_
  refine RunF.w (o_box (nm := 0) rfl rfl rfl) (by simp only [H.app, appO, patchAll, patch, List.map_cons, List.map_nil, List.append_nil, List.nil_append, List.cons_append, List.set_cons_zero, List.set_cons_succ, Option.map_some, Option.map_none, List.contains_cons, List.contains_nil, Nat.reduceAdd, Nat.reduceEqDiff, Nat.reduceBEq, Bool.or_false, Bool.false_eq_true, reduceIte, Nat.zero_add]; rfl) ?_
  refine RunF.q (o_assign rfl) rfl ?_
  refine AW.seq ?_
  refine AW.region (by kernel_rfl) ?_
  refine RunF.q (o_fieldAddr rfl tk41 rfl ts24 rfl) rfl ?_
  refine RunF.q (o_load_agg rfl tk24 ts24 rfl rfl rfl (by simp only [List.take_succ_cons, List.drop_succ_cons, List.drop_zero, List.take_zero, List.take_nil, List.drop_nil, Nat.zero_add, Nat.reduceAdd]; rfl)) rfl ?_
  refine RunF.q (o_call (no := 1) (nr := 2) rfl rfl rfl (by (repeat' first | exact cl_nil | exact cL_flat rfl | exact cL_flat (ints_flat _) | apply cL_vs | apply cl_cons | exact cv_flat rfl | apply cv_agg | apply cv_ptr_o | apply cv_sl_o rfl | apply cv_func | exact cO_old rfl | (apply cO_new; (focus rfl); (focus rfl)) | (apply cv_sl_r; (focus rfl); (focus rfl); (focus (simp; done)); (focus (first | exact ints_all _ | rfl))) | (apply cv_ptr_r rfl ?_ rfl rfl) | (simp only [List.nil_append, List.cons_append, List.length_cons, List.length_nil, Nat.zero_add, Nat.reduceAdd, List.set_cons_zero, List.set_cons_succ]; rfl) | rfl)) (by rfl) (by exact rright_ok XR XC x f0) (by rfl) rfl rfl (by first | exact reV_bare _ _ rfl | (simp only [reV, reVs, List.all_cons, List.all_nil, AV.flat, Bool.and_true, Bool.true_and, Bool.false_and, Bool.and_false, Bool.false_eq_true, reduceIte, CS.de, List.getElem?_cons_zero, List.getElem?_cons_succ, List.getElem?_nil, List.length_cons, List.length_nil, Nat.reduceSub, Nat.reduceAdd, Nat.zero_add, Nat.add_zero, Nat.sub_self]; rfl)) rfl) (by rfl) ?_
  refine RunF.q (o_assign rfl) rfl ?_
  refine AW.seq ?_
  refine AW.region (by kernel_rfl) ?_
  refine RunF.q (o_fieldAddr rfl tk41 rfl ts24 rfl) rfl ?_
  refine RunF.q (o_load_agg rfl tk24 ts24 rfl rfl rfl (by simp only [List.take_succ_cons, List.drop_succ_cons, List.drop_zero, List.take_zero, List.take_nil, List.drop_nil, Nat.zero_add, Nat.reduceAdd]; rfl)) rfl ?_
  refine RunF.q (o_call (no := 1) (nr := 2) rfl rfl rfl (by (repeat' first | exact cl_nil | exact cL_flat rfl | exact cL_flat (ints_flat _) | apply cL_vs | apply cl_cons | exact cv_flat rfl | apply cv_agg | apply cv_ptr_o | apply cv_sl_o rfl | apply cv_func | exact cO_old rfl | (apply cO_new; (focus rfl); (focus rfl)) | (apply cv_sl_r; (focus rfl); (focus rfl); (focus (simp; done)); (focus (first | exact ints_all _ | rfl))) | (apply cv_ptr_r rfl ?_ rfl rfl) | (simp only [List.nil_append, List.cons_append, List.length_cons, List.length_nil, Nat.zero_add, Nat.reduceAdd, List.set_cons_zero, List.set_cons_succ]; rfl) | rfl)) (by rfl) (by exact rright_ok PR PC p f1) (by rfl) rfl rfl (by first | exact reV_bare _ _ rfl | (simp only [reV, reVs, List.all_cons, List.all_nil, AV.flat, Bool.and_true, Bool.true_and, Bool.false_and, Bool.and_false, Bool.false_eq_true, reduceIte, CS.de, List.getElem?_cons_zero, List.getElem?_cons_succ, List.getElem?_nil, List.length_cons, List.length_nil, Nat.reduceSub, Nat.reduceAdd, Nat.zero_add, Nat.add_zero, Nat.sub_self]; rfl)) rfl) (by rfl) ?_
  refine RunF.q (o_assign rfl) rfl ?_
  refine AW.seq ?_
  refine AW.region (by kernel_rfl) ?_
  refine RunF.q (o_fieldAddr rfl tk41 rfl ts24 rfl) rfl ?_
  refine RunF.q (o_fieldAddr rfl tk24 rfl ts3 rfl) rfl ?_
  refine RunF.q (o_load rfl tk3 ts3 rfl rfl rfl) rfl ?_
  refine RunF.q (o_assign rfl) rfl ?_
  refine AW.seq ?_
  refine AW.seq ?_
  refine AW.region (by kernel_rfl) ?_
  refine RunF.q (o_move rfl) rfl ?_
  refine RunF.q (o_not rfl) rfl ?_
  refine RunF.br (o_move rfl) rfl (fun hb4_2 => ?_) (fun hb4_2 => ?_)
  · try simp only [decide_eq_true_eq, decide_eq_false_iff_not, bne_iff_ne, beq_iff_eq, bne_eq_false_iff_eq, beq_eq_false_iff_ne, ne_eq, Bool.not_eq_true', Bool.not_eq_false'] at hb4_2
    refine RunF.gs (b := true) rfl rfl ?_
    refine RunF.gs (b := true) rfl rfl ?_
    refine RunF.q (o_pick_t rfl rfl) rfl ?_
    refine RunF.q (o_move rfl) rfl ?_
    refine RunF.gs (b := true) rfl rfl ?_
    refine RunF.gs (b := true) rfl rfl ?_
    refine RunF.gs (b := true) rfl rfl ?_
    refine RunF.gs (b := true) rfl rfl ?_
    refine RunF.q (o_pick_t rfl rfl) rfl ?_
    refine RunF.q (o_move rfl) rfl ?_
    refine RunF.gs (b := true) rfl rfl ?_
    refine RunF.gs (b := true) rfl rfl ?_
    refine RunF.gs (b := true) rfl rfl ?_
    refine RunF.gs (b := true) rfl rfl ?_
    refine RunF.gs (b := true) rfl rfl ?_
    refine RunF.q (o_pick_t rfl rfl) rfl ?_
    refine RunF.q (o_move rfl) rfl ?_
    refine RunF.gs (b := true) rfl rfl ?_
    refine RunF.gs (b := true) rfl rfl ?_
    refine RunF.gs (b := true) rfl rfl ?_
    refine RunF.gs (b := true) rfl rfl ?_
    refine RunF.gs (b := true) rfl rfl ?_
    refine RunF.q (o_pick_t rfl rfl) rfl ?_
    refine AW.cond rfl (fun hc0 => ?_) (fun hc0 => absurd hc0 (by simp))
    refine AW.seq ?_
    refine AW.region (by kernel_rfl) ?_
    refine RunF.q (o_assign rfl) rfl ?_
    refine AW.ret ?_
    exact FinQ.ret [] [] (ress_tmp rfl ress_nil) rfl .nil (.cons rfl rfl (by first | (apply PRN.flat; rfl) | (apply PRN.flat; simp; done) | (repeat' first | exact PRN.nil | apply PRN.cons | exact RN.self rfl | exact RN.top | exact RN.ptr rfl | exact RN.sl rfl | exact RN.slf rfl | apply RN.agg | apply RN.fn | exact RNs.nil | apply RNs.cons)) (.cons rfl rfl (by first | (apply PRN.flat; rfl) | (apply PRN.flat; simp; done) | (repeat' first | exact PRN.nil | apply PRN.cons | exact RN.self rfl | exact RN.top | exact RN.ptr rfl | exact RN.sl rfl | exact RN.slf rfl | apply RN.agg | apply RN.fn | exact RNs.nil | apply RNs.cons)) .nil)) (by rw [show rightT XR XC x PR PC p = false from (rightT_no (by unfold RightT; rintro ⟨h1, h2, h3, h4, h5, h6, h7⟩; first | omega | simp_all))]; exact (by repeat' first | exact RN.self rfl | exact RN.top | exact RN.ptr rfl | exact RN.sl rfl | exact RN.slf rfl | apply RN.agg | apply RN.tuple | apply RN.fn | exact RNs.nil | apply RNs.cons | (apply RNs.flat; simp; done)))
  · try simp only [decide_eq_true_eq, decide_eq_false_iff_not, bne_iff_ne, beq_iff_eq, bne_eq_false_iff_eq, beq_eq_false_iff_ne, ne_eq, Bool.not_eq_true', Bool.not_eq_false'] at hb4_2
    refine RunF.gq rfl (o_move rfl) rfl ?_
    refine RunF.gq rfl (o_not rfl) rfl ?_
    refine RunF.q (o_pick_f rfl rfl) rfl ?_
    refine RunF.br (o_move rfl) rfl (fun hb4_6 => ?_) (fun hb4_6 => ?_)
    · try simp only [decide_eq_true_eq, decide_eq_false_iff_not, bne_iff_ne, beq_iff_eq, bne_eq_false_iff_eq, beq_eq_false_iff_ne, ne_eq, Bool.not_eq_true', Bool.not_eq_false'] at hb4_6
      refine RunF.gs (b := true) rfl rfl ?_
      refine RunF.gs (b := true) rfl rfl ?_
      refine RunF.gs (b := true) rfl rfl ?_
      refine RunF.gs (b := true) rfl rfl ?_
      refine RunF.q (o_pick_t rfl rfl) rfl ?_
      refine RunF.q (o_move rfl) rfl ?_
      refine RunF.gs (b := true) rfl rfl ?_
      refine RunF.gs (b := true) rfl rfl ?_
      refine RunF.gs (b := true) rfl rfl ?_
      refine RunF.gs (b := true) rfl rfl ?_
      refine RunF.gs (b := true) rfl rfl ?_
      refine RunF.q (o_pick_t rfl rfl) rfl ?_
      refine RunF.q (o_move rfl) rfl ?_
      refine RunF.gs (b := true) rfl rfl ?_
      refine RunF.gs (b := true) rfl rfl ?_
      refine RunF.gs (b := true) rfl rfl ?_
      refine RunF.gs (b := true) rfl rfl ?_
      refine RunF.gs (b := true) rfl rfl ?_
      refine RunF.q (o_pick_t rfl rfl) rfl ?_
      refine AW.cond rfl (fun hc0 => ?_) (fun hc0 => absurd hc0 (by simp))
      refine AW.seq ?_
      refine AW.region (by kernel_rfl) ?_
      refine RunF.q (o_assign rfl) rfl ?_
      refine AW.ret ?_
      exact FinQ.ret [] [] (ress_tmp rfl ress_nil) rfl .nil (.cons rfl rfl (by first | (apply PRN.flat; rfl) | (apply PRN.flat; simp; done) | (repeat' first | exact PRN.nil | apply PRN.cons | exact RN.self rfl | exact RN.top | exact RN.ptr rfl | exact RN.sl rfl | exact RN.slf rfl | apply RN.agg | apply RN.fn | exact RNs.nil | apply RNs.cons)) (.cons rfl rfl (by first | (apply PRN.flat; rfl) | (apply PRN.flat; simp; done) | (repeat' first | exact PRN.nil | apply PRN.cons | exact RN.self rfl | exact RN.top | exact RN.ptr rfl | exact RN.sl rfl | exact RN.slf rfl | apply RN.agg | apply RN.fn | exact RNs.nil | apply RNs.cons)) .nil)) (by rw [show rightT XR XC x PR PC p = false from (rightT_no (by unfold RightT; rintro ⟨h1, h2, h3, h4, h5, h6, h7⟩; first | omega | simp_all))]; exact (by repeat' first | exact RN.self rfl | exact RN.top | exact RN.ptr rfl | exact RN.sl rfl | exact RN.slf rfl | apply RN.agg | apply RN.tuple | apply RN.fn | exact RNs.nil | apply RNs.cons | (apply RNs.flat; simp; done)))
    · try simp only [decide_eq_true_eq, decide_eq_false_iff_not, bne_iff_ne, beq_iff_eq, bne_eq_false_iff_eq, beq_eq_false_iff_ne, ne_eq, Bool.not_eq_true', Bool.not_eq_false'] at hb4_6
      refine RunF.gq rfl (o_fieldAddr rfl tk41 rfl ts24 rfl) rfl ?_
      refine RunF.gq rfl (o_fieldAddr rfl tk24 rfl ts3 rfl) rfl ?_
      refine RunF.gq rfl (o_load rfl tk3 ts3 rfl rfl rfl) rfl ?_
      refine RunF.gq rfl (o_neq rfl rfl) rfl ?_
      refine RunF.q (o_pick_f rfl rfl) rfl ?_
      refine RunF.br (o_move rfl) rfl (fun hb4_12 => ?_) (fun hb4_12 => ?_)
      · try simp only [decide_eq_true_eq, decide_eq_false_iff_not, bne_iff_ne, beq_iff_eq, bne_eq_false_iff_eq, beq_eq_false_iff_ne, ne_eq, Bool.not_eq_true', Bool.not_eq_false'] at hb4_12
        refine RunF.gs (b := true) rfl rfl ?_
        refine RunF.gs (b := true) rfl rfl ?_
        refine RunF.gs (b := true) rfl rfl ?_
        refine RunF.gs (b := true) rfl rfl ?_
        refine RunF.gs (b := true) rfl rfl ?_
        refine RunF.q (o_pick_t rfl rfl) rfl ?_
        refine RunF.q (o_move rfl) rfl ?_
        refine RunF.gs (b := true) rfl rfl ?_
        refine RunF.gs (b := true) rfl rfl ?_
        refine RunF.gs (b := true) rfl rfl ?_
        refine RunF.gs (b := true) rfl rfl ?_
        refine RunF.gs (b := true) rfl rfl ?_
        refine RunF.q (o_pick_t rfl rfl) rfl ?_
        refine AW.cond rfl (fun hc0 => ?_) (fun hc0 => absurd hc0 (by simp))
        refine AW.seq ?_
        refine AW.region (by kernel_rfl) ?_
        refine RunF.q (o_assign rfl) rfl ?_
        refine AW.ret ?_
        exact FinQ.ret [] [] (ress_tmp rfl ress_nil) rfl .nil (.cons rfl rfl (by first | (apply PRN.flat; rfl) | (apply PRN.flat; simp; done) | (repeat' first | exact PRN.nil | apply PRN.cons | exact RN.self rfl | exact RN.top | exact RN.ptr rfl | exact RN.sl rfl | exact RN.slf rfl | apply RN.agg | apply RN.fn | exact RNs.nil | apply RNs.cons)) (.cons rfl rfl (by first | (apply PRN.flat; rfl) | (apply PRN.flat; simp; done) | (repeat' first | exact PRN.nil | apply PRN.cons | exact RN.self rfl | exact RN.top | exact RN.ptr rfl | exact RN.sl rfl | exact RN.slf rfl | apply RN.agg | apply RN.fn | exact RNs.nil | apply RNs.cons)) .nil)) (by rw [show rightT XR XC x PR PC p = false from (rightT_no (by unfold RightT; rintro ⟨h1, h2, h3, h4, h5, h6, h7⟩; first | omega | simp_all))]; exact (by repeat' first | exact RN.self rfl | exact RN.top | exact RN.ptr rfl | exact RN.sl rfl | exact RN.slf rfl | apply RN.agg | apply RN.tuple | apply RN.fn | exact RNs.nil | apply RNs.cons | (apply RNs.flat; simp; done)))
      · try simp only [decide_eq_true_eq, decide_eq_false_iff_not, bne_iff_ne, beq_iff_eq, bne_eq_false_iff_eq, beq_eq_false_iff_ne, ne_eq, Bool.not_eq_true', Bool.not_eq_false'] at hb4_12
        refine RunF.gq rfl (o_fieldAddr rfl tk41 rfl ts24 rfl) rfl ?_
        refine RunF.gq rfl (o_fieldAddr rfl tk24 rfl ts3 rfl) rfl ?_
        refine RunF.gq rfl (o_load rfl tk3 ts3 rfl rfl rfl) rfl ?_
        refine RunF.gq rfl (o_move rfl) rfl ?_
        refine RunF.gq rfl (o_neq rfl rfl) rfl ?_
        refine RunF.q (o_pick_f rfl rfl) rfl ?_
        refine RunF.br (o_move rfl) rfl (fun hb4_19 => ?_) (fun hb4_19 => ?_)
        · try simp only [decide_eq_true_eq, decide_eq_false_iff_not, bne_iff_ne, beq_iff_eq, bne_eq_false_iff_eq, beq_eq_false_iff_ne, ne_eq, Bool.not_eq_true', Bool.not_eq_false'] at hb4_19
          refine RunF.gs (b := true) rfl rfl ?_
          refine RunF.gs (b := true) rfl rfl ?_
          refine RunF.gs (b := true) rfl rfl ?_
          refine RunF.gs (b := true) rfl rfl ?_
          refine RunF.gs (b := true) rfl rfl ?_
          refine RunF.q (o_pick_t rfl rfl) rfl ?_
          refine AW.cond rfl (fun hc0 => ?_) (fun hc0 => absurd hc0 (by simp))
          refine AW.seq ?_
          refine AW.region (by kernel_rfl) ?_
          refine RunF.q (o_assign rfl) rfl ?_
          refine AW.ret ?_
          exact FinQ.ret [] [] (ress_tmp rfl ress_nil) rfl .nil (.cons rfl rfl (by first | (apply PRN.flat; rfl) | (apply PRN.flat; simp; done) | (repeat' first | exact PRN.nil | apply PRN.cons | exact RN.self rfl | exact RN.top | exact RN.ptr rfl | exact RN.sl rfl | exact RN.slf rfl | apply RN.agg | apply RN.fn | exact RNs.nil | apply RNs.cons)) (.cons rfl rfl (by first | (apply PRN.flat; rfl) | (apply PRN.flat; simp; done) | (repeat' first | exact PRN.nil | apply PRN.cons | exact RN.self rfl | exact RN.top | exact RN.ptr rfl | exact RN.sl rfl | exact RN.slf rfl | apply RN.agg | apply RN.fn | exact RNs.nil | apply RNs.cons)) .nil)) (by rw [show rightT XR XC x PR PC p = false from (rightT_no (by unfold RightT; rintro ⟨h1, h2, h3, h4, h5, h6, h7⟩; first | omega | simp_all))]; exact (by repeat' first | exact RN.self rfl | exact RN.top | exact RN.ptr rfl | exact RN.sl rfl | exact RN.slf rfl | apply RN.agg | apply RN.tuple | apply RN.fn | exact RNs.nil | apply RNs.cons | (apply RNs.flat; simp; done)))
        · try simp only [decide_eq_true_eq, decide_eq_false_iff_not, bne_iff_ne, beq_iff_eq, bne_eq_false_iff_eq, beq_eq_false_iff_ne, ne_eq, Bool.not_eq_true', Bool.not_eq_false'] at hb4_19
          refine RunF.gq rfl (o_fieldAddr rfl tk41 rfl ts24 rfl) rfl ?_
          refine RunF.gq rfl (o_fieldAddr rfl tk24 rfl ts3 rfl) rfl ?_
          refine RunF.gq rfl (o_load rfl tk3 ts3 rfl rfl rfl) rfl ?_
          refine RunF.gq rfl (o_move rfl) rfl ?_
          refine RunF.gq rfl (o_neq rfl rfl) rfl ?_
          refine RunF.q (o_pick_f rfl rfl) rfl ?_
          refine AW.cond rfl (fun hc0 => ?_) (fun hc0 => ?_)
          · try simp only [decide_eq_true_eq, decide_eq_false_iff_not, bne_iff_ne, beq_iff_eq, bne_eq_false_iff_eq, beq_eq_false_iff_ne, ne_eq, Bool.not_eq_true', Bool.not_eq_false'] at hc0
            refine AW.seq ?_
            refine AW.region (by kernel_rfl) ?_
            refine RunF.q (o_assign rfl) rfl ?_
            refine AW.ret ?_
            exact FinQ.ret [] [] (ress_tmp rfl ress_nil) rfl .nil (.cons rfl rfl (by first | (apply PRN.flat; rfl) | (apply PRN.flat; simp; done) | (repeat' first | exact PRN.nil | apply PRN.cons | exact RN.self rfl | exact RN.top | exact RN.ptr rfl | exact RN.sl rfl | exact RN.slf rfl | apply RN.agg | apply RN.fn | exact RNs.nil | apply RNs.cons)) (.cons rfl rfl (by first | (apply PRN.flat; rfl) | (apply PRN.flat; simp; done) | (repeat' first | exact PRN.nil | apply PRN.cons | exact RN.self rfl | exact RN.top | exact RN.ptr rfl | exact RN.sl rfl | exact RN.slf rfl | apply RN.agg | apply RN.fn | exact RNs.nil | apply RNs.cons)) .nil)) (by rw [show rightT XR XC x PR PC p = false from (rightT_no (by unfold RightT; rintro ⟨h1, h2, h3, h4, h5, h6, h7⟩; first | omega | simp_all))]; exact (by repeat' first | exact RN.self rfl | exact RN.top | exact RN.ptr rfl | exact RN.sl rfl | exact RN.slf rfl | apply RN.agg | apply RN.tuple | apply RN.fn | exact RNs.nil | apply RNs.cons | (apply RNs.flat; simp; done)))
          · try simp only [decide_eq_true_eq, decide_eq_false_iff_not, bne_iff_ne, beq_iff_eq, bne_eq_false_iff_eq, beq_eq_false_iff_ne, ne_eq, Bool.not_eq_true', Bool.not_eq_false'] at hc0
            obtain ⟨n, c, rfl, rfl, n0, n8, c0, c8, hxl, hxq⟩ := rightM_nat hb4_2
            obtain rfl : PR = (n : Int) := by omega
            obtain rfl : PC = (n : Int) := by omega
            obtain ⟨n2, c2, e1, e2, _, _, _, _, hpl, hpq⟩ := rightM_nat hb4_6
            obtain rfl : n = n2 := by omega
            obtain rfl : n = c2 := by omega
            have hsm := small_mul n8 n8
            refine AW.skip ?_
            refine AW.seq ?_
            refine AW.seq ?_
            refine AW.region (by kernel_rfl) ?_
            refine RunF.q (o_assign rfl) rfl ?_
            refine AW.block ?_
            refine AW.loop (α := {i : Nat // i ≤ n ∧ (∀ j, j < i → 0 ≤ p.getD (j * n + j) 0) ∧ ∀ j, j < i → ∀ k, k < j → p.getD (j * n + k) 0 = p.getD (k * n + j) 0}) (fun y : {i : Nat // i ≤ n ∧ (∀ j, j < i → 0 ≤ p.getD (j * n + j) 0) ∧ ∀ j, j < i → ∀ k, k < j → p.getD (j * n + k) 0 = p.getD (k * n + j) 0} => ([(1, .ptr (.o 0) 0), (5, .int .i64 n), (6, .int .i64 y.1)], ⟨[ints x, ints p], [some [.int .i64 n, .int .i64 c, .sl (.r 0) 0 x.length 1 f0, .int .i64 n, .int .i64 n, .sl (.r 1) 0 p.length 1 f1]]⟩)) (fun y => n - y.1) (fun y => ?_) ⟨0, by omega, fun j hj => absurd hj (by omega), fun j hj => absurd hj (by omega)⟩ ?_
            · obtain ⟨i, hx, hxs, hxt⟩ := y
              try dsimp only at hx hxs hxt
              try dsimp only
              refine AW.seq ?_
              refine AW.seq ?_
              refine AW.region (by kernel_rfl) ?_
              refine RunF.q (o_move rfl) rfl ?_
              refine RunF.q (o_move rfl) rfl ?_
              refine RunF.q (o_lss rfl rfl) rfl ?_
              refine AW.cond rfl (fun hc1 => ?_) (fun hc1 => ?_)
              · try simp only [decide_eq_true_eq, decide_eq_false_iff_not, bne_iff_ne, beq_iff_eq, bne_eq_false_iff_eq, beq_eq_false_iff_ne, ne_eq, Bool.not_eq_true', Bool.not_eq_false'] at hc1
                have hi : i < n := by omega
                have h1 := idx_lt hi hi
                have h3 : (i : Int) * (n : Int) = ((i * n : Nat) : Int) := by simp
                have h4 : i * n ≤ 64 := by omega
                refine AW.skip ?_
                refine AW.seq ?_
                refine AW.block ?_
                refine AW.seq ?_
                refine AW.seq ?_
                refine AW.region (by kernel_rfl) ?_
                refine RunF.q (o_fieldAddr rfl tk41 rfl ts24 rfl) rfl ?_
                refine RunF.q (o_fieldAddr rfl tk24 rfl ts22 rfl) rfl ?_
                refine RunF.q (o_load rfl tk22 ts22 rfl rfl rfl) rfl ?_
                refine RunF.q (o_move rfl) rfl ?_
                refine RunF.q (o_move rfl) rfl ?_
                refine RunF.q (o_mul rfl rfl ((i64_in _ (by rw [h3]; omega)).trans h3)) rfl ?_
                refine RunF.q (o_move rfl) rfl ?_
                refine RunF.q (o_add rfl rfl (by first | exact i64_in _ (by omega) | rfl)) rfl ?_
                refine RunF.q (o_indexAddr (m := i * n + i) tk22 ts30 rfl rfl (by omega) (by omega)) rfl ?_
                refine RunF.q (o_load rfl tk30 ts30 rfl rfl (ints_getD p _ (by omega))) rfl ?_
                refine RunF.q (o_lss rfl rfl) rfl ?_
                refine AW.cond rfl (fun hc2 => ?_) (fun hc2 => ?_)
                · try simp only [decide_eq_true_eq, decide_eq_false_iff_not, bne_iff_ne, beq_iff_eq, bne_eq_false_iff_eq, beq_eq_false_iff_ne, ne_eq, Bool.not_eq_true', Bool.not_eq_false'] at hc2
                  refine AW.seq ?_
                  refine AW.region (by kernel_rfl) ?_
                  refine RunF.q (o_assign rfl) rfl ?_
                  refine AW.ret ?_
                  exact FinQ.ret [] [] (ress_tmp rfl ress_nil) rfl .nil (.cons rfl rfl (by first | (apply PRN.flat; rfl) | (apply PRN.flat; simp; done) | (repeat' first | exact PRN.nil | apply PRN.cons | exact RN.self rfl | exact RN.top | exact RN.ptr rfl | exact RN.sl rfl | exact RN.slf rfl | apply RN.agg | apply RN.fn | exact RNs.nil | apply RNs.cons)) (.cons rfl rfl (by first | (apply PRN.flat; rfl) | (apply PRN.flat; simp; done) | (repeat' first | exact PRN.nil | apply PRN.cons | exact RN.self rfl | exact RN.top | exact RN.ptr rfl | exact RN.sl rfl | exact RN.slf rfl | apply RN.agg | apply RN.fn | exact RNs.nil | apply RNs.cons)) .nil)) (by rw [show rightT n c x n n p = false from rightT_no (by unfold RightT; rintro ⟨h1, h2, h3, h4, h5, h6, h7⟩; have := h7 i (by simpa using hi); simp only [Int.toNat_natCast] at this; omega)]; exact (by repeat' first | exact RN.self rfl | exact RN.top | exact RN.ptr rfl | exact RN.sl rfl | exact RN.slf rfl | apply RN.agg | apply RN.tuple | apply RN.fn | exact RNs.nil | apply RNs.cons | (apply RNs.flat; simp; done)))
                · try simp only [decide_eq_true_eq, decide_eq_false_iff_not, bne_iff_ne, beq_iff_eq, bne_eq_false_iff_eq, beq_eq_false_iff_ne, ne_eq, Bool.not_eq_true', Bool.not_eq_false'] at hc2
                  refine AW.skip ?_
                  refine AW.seq ?_
                  refine AW.region (by kernel_rfl) ?_
                  refine RunF.q (o_assign rfl) rfl ?_
                  refine AW.block ?_
                  refine AW.loop (α := {k : Nat // k ≤ i ∧ ∀ j, j < k → p.getD (i * n + j) 0 = p.getD (j * n + i) 0}) (fun y : {k : Nat // k ≤ i ∧ ∀ j, j < k → p.getD (i * n + j) 0 = p.getD (j * n + i) 0} => ([(1, .ptr (.o 0) 0), (5, .int .i64 n), (6, .int .i64 i), (7, .int .i64 y.1)], ⟨[ints x, ints p], [some [.int .i64 n, .int .i64 c, .sl (.r 0) 0 x.length 1 f0, .int .i64 n, .int .i64 n, .sl (.r 1) 0 p.length 1 f1]]⟩)) (fun y => i - y.1) (fun y => ?_) ⟨0, by omega, fun j hj => absurd hj (by omega)⟩ ?_
                  · obtain ⟨k, hy, hys⟩ := y
                    try dsimp only at hy hys
                    try dsimp only
                    refine AW.seq ?_
                    refine AW.seq ?_
                    refine AW.region (by kernel_rfl) ?_
                    refine RunF.q (o_move rfl) rfl ?_
                    refine RunF.q (o_move rfl) rfl ?_
                    refine RunF.q (o_lss rfl rfl) rfl ?_
                    refine AW.cond rfl (fun hc3 => ?_) (fun hc3 => ?_)
                    · try simp only [decide_eq_true_eq, decide_eq_false_iff_not, bne_iff_ne, beq_iff_eq, bne_eq_false_iff_eq, beq_eq_false_iff_ne, ne_eq, Bool.not_eq_true', Bool.not_eq_false'] at hc3
                      have hk : k < i := by omega
                      have g1 := idx_lt hi (show k < n by omega)
                      have g2 := idx_lt (show k < n by omega) hi
                      have g3 : (k : Int) * (n : Int) = ((k * n : Nat) : Int) := by simp
                      have g4 : k * n ≤ 64 := by omega
                      refine AW.skip ?_
                      refine AW.seq ?_
                      refine AW.block ?_
                      refine AW.seq ?_
                      refine AW.draws (by kernel_rfl) (by kernel_rfl) ?_
                      refine RunV.q (o_fieldAddr rfl tk41 rfl ts24 rfl) rfl ?_
                      refine RunV.q (o_fieldAddr rfl tk24 rfl ts22 rfl) rfl ?_
                      refine RunV.q (o_load rfl tk22 ts22 rfl rfl rfl) rfl ?_
                      refine RunV.q (o_move rfl) rfl ?_
                      refine RunV.q (o_move rfl) rfl ?_
                      refine RunV.q (o_mul rfl rfl ((i64_in _ (by rw [h3]; omega)).trans h3)) rfl ?_
                      refine RunV.q (o_move rfl) rfl ?_
                      refine RunV.q (o_add rfl rfl (by first | exact i64_in _ (by omega) | rfl)) rfl ?_
                      refine RunV.q (o_indexAddr (m := i * n + k) tk22 ts30 rfl rfl (by omega) (by omega)) rfl ?_
                      refine RunV.q (o_load rfl tk30 ts30 rfl rfl (ints_getD p _ (by omega))) rfl ?_
                      refine RunV.q (o_fieldAddr rfl tk41 rfl ts24 rfl) rfl ?_
                      refine RunV.q (o_fieldAddr rfl tk24 rfl ts22 rfl) rfl ?_
                      refine RunV.q (o_load rfl tk22 ts22 rfl rfl rfl) rfl ?_
                      refine RunV.q (o_move rfl) rfl ?_
                      refine RunV.q (o_move rfl) rfl ?_
                      refine RunV.q (o_mul rfl rfl ((i64_in _ (by rw [g3]; omega)).trans g3)) rfl ?_
                      refine RunV.q (o_move rfl) rfl ?_
                      refine RunV.q (o_add rfl rfl (by first | exact i64_in _ (by omega) | rfl)) rfl ?_
                      refine RunV.q (o_indexAddr (m := k * n + i) tk22 ts30 rfl rfl (by omega) (by omega)) rfl ?_
                      refine RunV.q (o_load rfl tk30 ts30 rfl rfl (ints_getD p _ (by omega))) rfl ?_
                      refine RunV.q (o_neq rfl rfl) rfl ?_
                      refine And.intro (by kernel_rfl) ?_
                      refine AW.cond rfl (fun hc4 => ?_) (fun hc4 => ?_)
                      · try simp only [decide_eq_true_eq, decide_eq_false_iff_not, bne_iff_ne, beq_iff_eq, bne_eq_false_iff_eq, beq_eq_false_iff_ne, ne_eq, Bool.not_eq_true', Bool.not_eq_false'] at hc4
                        refine AW.seq ?_
                        refine AW.region (by kernel_rfl) ?_
                        refine RunF.q (o_assign rfl) rfl ?_
                        refine AW.ret ?_
                        exact FinQ.ret [] [] (ress_tmp rfl ress_nil) rfl .nil (.cons rfl rfl (by first | (apply PRN.flat; rfl) | (apply PRN.flat; simp; done) | (repeat' first | exact PRN.nil | apply PRN.cons | exact RN.self rfl | exact RN.top | exact RN.ptr rfl | exact RN.sl rfl | exact RN.slf rfl | apply RN.agg | apply RN.fn | exact RNs.nil | apply RNs.cons)) (.cons rfl rfl (by first | (apply PRN.flat; rfl) | (apply PRN.flat; simp; done) | (repeat' first | exact PRN.nil | apply PRN.cons | exact RN.self rfl | exact RN.top | exact RN.ptr rfl | exact RN.sl rfl | exact RN.slf rfl | apply RN.agg | apply RN.fn | exact RNs.nil | apply RNs.cons)) .nil)) (by rw [show rightT n c x n n p = false from rightT_no (by unfold RightT; rintro ⟨h1, h2, h3, h4, h5, h6, h7⟩; exact hc4 (by simpa using h6 i k (by simpa using hi) (by simp; omega)))]; exact (by repeat' first | exact RN.self rfl | exact RN.top | exact RN.ptr rfl | exact RN.sl rfl | exact RN.slf rfl | apply RN.agg | apply RN.tuple | apply RN.fn | exact RNs.nil | apply RNs.cons | (apply RNs.flat; simp; done)))
                      · try simp only [decide_eq_true_eq, decide_eq_false_iff_not, bne_iff_ne, beq_iff_eq, bne_eq_false_iff_eq, beq_eq_false_iff_ne, ne_eq, Bool.not_eq_true', Bool.not_eq_false'] at hc4
                        refine AW.skip ?_
                        refine AW.region (by kernel_rfl) ?_
                        refine RunF.q (o_move rfl) rfl ?_
                        refine RunF.q (o_add rfl rfl (by first | exact i64_in _ (by omega) | rfl)) rfl ?_
                        refine RunF.q (o_assign rfl) rfl ?_
                        exact ⟨⟨k + 1, by omega, upto_succ hys hc4⟩, Wk.same rfl (.cons rfl (.cons rfl (.cons rfl (.cons rfl .nil)))), by dsimp only; omega⟩
                    · try simp only [decide_eq_true_eq, decide_eq_false_iff_not, bne_iff_ne, beq_iff_eq, bne_eq_false_iff_eq, beq_eq_false_iff_ne, ne_eq, Bool.not_eq_true', Bool.not_eq_false'] at hc3
                      obtain rfl : i = k := by omega
                      refine AW.exit ?_
                      refine AW.region (by kernel_rfl) ?_
                      refine RunF.q (o_move rfl) rfl ?_
                      refine RunF.q (o_add rfl rfl (by first | exact i64_in _ (by omega) | rfl)) rfl ?_
                      refine RunF.q (o_assign rfl) rfl ?_
                      exact ⟨⟨i + 1, by omega, upto_succ hxs (by omega), upto_succ hxt hys⟩, Wk.same rfl (.cons rfl (.cons rfl (.cons rfl .nil))), by dsimp only; omega⟩
                  · exact Wk.same rfl (.cons rfl (.cons rfl (.cons rfl (.cons rfl .nil))))
              · try simp only [decide_eq_true_eq, decide_eq_false_iff_not, bne_iff_ne, beq_iff_eq, bne_eq_false_iff_eq, beq_eq_false_iff_ne, ne_eq, Bool.not_eq_true', Bool.not_eq_false'] at hc1
                refine AW.exit ?_
                refine AW.seq ?_
                refine AW.region (by kernel_rfl) ?_
                refine RunF.q (o_assign rfl) rfl ?_
                refine AW.ret ?_
                exact FinQ.ret [] [] (ress_tmp rfl ress_nil) rfl .nil (.cons rfl rfl (by first | (apply PRN.flat; rfl) | (apply PRN.flat; simp; done) | (repeat' first | exact PRN.nil | apply PRN.cons | exact RN.self rfl | exact RN.top | exact RN.ptr rfl | exact RN.sl rfl | exact RN.slf rfl | apply RN.agg | apply RN.fn | exact RNs.nil | apply RNs.cons)) (.cons rfl rfl (by first | (apply PRN.flat; rfl) | (apply PRN.flat; simp; done) | (repeat' first | exact PRN.nil | apply PRN.cons | exact RN.self rfl | exact RN.top | exact RN.ptr rfl | exact RN.sl rfl | exact RN.slf rfl | apply RN.agg | apply RN.fn | exact RNs.nil | apply RNs.cons)) .nil)) (by rw [show rightT n c x n n p = true from rightT_yes ⟨hb4_2, hb4_6, by omega, rfl, rfl, by simpa using r5_lower (fun j hj => hxt j (by omega)), by intro j hj; exact hxs j (by simp only [Int.toNat_natCast] at hj; omega)⟩]; exact (by repeat' first | exact RN.self rfl | exact RN.top | exact RN.ptr rfl | exact RN.sl rfl | exact RN.slf rfl | apply RN.agg | apply RN.tuple | apply RN.fn | exact RNs.nil | apply RNs.cons | (apply RNs.flat; simp; done)))
            · exact Wk.same rfl (.cons rfl (.cons rfl (.cons rfl .nil)))

set_option maxHeartbeats 1000000 in
theorem rnone_ok (r c : Nat) (hr : r ≤ 8) (hc : c ≤ 8) (hR : 0 < r) (hC : 0 < c) : SoundC Try.prog 39 [.int .i64 r, .int .i64 c] ⟨[], []⟩ { val := .agg [.int .i64 r, .int .i64 c, .sl (.o 0) 0 (List.replicate (r * c) (0 : Int)).length 1 false], newo := [ints (List.replicate (r * c) (0 : Int))] } := by
  have hsm := small_mul hr hc
  have h3 : (r : Int) * (c : Int) = ((r * c : Nat) : Int) := by simp
  refine SoundC.of (N := 21) Try.func39 rfl rfl rfl rfl ?_
  refine AW.seq ?_
  refine AW.region (by kernel_rfl) ?_
  refine RunF.w (o_alloc (nm := 0) tz24 rfl) rfl ?_
  refine AW.seq ?_
  refine AW.region (by kernel_rfl) ?_
  refine RunF.q (o_assign rfl) rfl ?_
  refine AW.seq ?_
  refine AW.seq ?_
  refine AW.region (by kernel_rfl) ?_
  refine RunF.q (o_assign rfl) rfl ?_
  refine AW.block ?_
  refine AW.loop (α := {x : Nat × List Int // x.1 ≤ r * c ∧ x.2 = List.replicate x.1 0}) (fun x : {x : Nat × List Int // x.1 ≤ r * c ∧ x.2 = List.replicate x.1 0} => ([(0, .int .i64 r), (1, .int .i64 c), (4, .ptr (.o 0) 0), (5, slOf 1 x.1.2), (6, .int .i64 x.1.1)], ⟨[], [some [.int .i64 0, .int .i64 0, .nilsl], rowOf x.1.2]⟩)) (fun x => r * c - x.1.1) (fun x => ?_) ⟨(0, []), by simp, rfl⟩ ?_
  · obtain ⟨⟨t, L0⟩, hx1, hx2⟩ := x
    dsimp only at hx1 hx2
    dsimp only
    refine AW.seq ?_
    refine AW.seq ?_
    refine AW.region (by kernel_rfl) ?_
    refine RunF.q (o_move rfl) rfl ?_
    refine RunF.q (o_move rfl) rfl ?_
    refine RunF.q (o_move rfl) rfl ?_
    refine RunF.q (o_mul rfl rfl ((i64_in _ (by rw [h3]; omega)).trans h3)) rfl ?_
    refine RunF.q (o_lss rfl rfl) rfl ?_
    refine AW.cond rfl (fun hc0 => ?_) (fun hc0 => ?_)
    · try simp only [decide_eq_true_eq, decide_eq_false_iff_not, bne_iff_ne, beq_iff_eq, bne_eq_false_iff_eq, beq_eq_false_iff_ne, ne_eq, Bool.not_eq_true', Bool.not_eq_false'] at hc0
      have hlen : L0.length ≤ 64 := by rw [hx2]; simp; omega
      rcases L0 with _ | ⟨a, l⟩
      · refine AW.skip ?_
        refine AW.seq ?_
        refine AW.block ?_
        refine AW.region (by kernel_rfl) ?_
        refine RunF.q (o_move rfl) rfl ?_
        refine RunF.w (o_buildSlice (nm := 2) tk22 ts30 tz30 rfl rfl rfl rfl) rfl ?_
        refine RunF.w (o_append_nil (nm := 3) tk22 tk22 ts30 tb30 tz30 rfl rfl rfl rfl ⟨by decide, Nat.le_refl 1, by decide, by decide⟩ rfl rfl rfl) rfl ?_
        refine RunF.q (o_assign rfl) rfl ?_
        refine AW.region (by kernel_rfl) ?_
        refine RunF.q (o_move rfl) rfl ?_
        refine RunF.q (o_add rfl rfl (by first | exact i64_in _ (by omega) | rfl)) rfl ?_
        refine RunF.q (o_assign rfl) rfl ?_
        exact ⟨⟨(t + 1, ([] : List Int) ++ [0]), by dsimp only; omega, by dsimp only; rw [List.replicate_succ', ← hx2]⟩, Wk.of [0, 3] [] rfl (.some rfl rfl (by first | (apply PRN.flat; rfl) | (apply PRN.flat; simp; done) | (repeat' first | exact PRN.nil | apply PRN.cons | exact RN.self rfl | exact RN.top | exact RN.ptr rfl | exact RN.sl rfl | exact RN.slf rfl | apply RN.agg | apply RN.fn | exact RNs.nil | apply RNs.cons)) (.some rfl rfl (by first | (apply PRN.flat; rfl) | (apply PRN.flat; simp; done) | (repeat' first | exact PRN.nil | apply PRN.cons | exact RN.self rfl | exact RN.top | exact RN.ptr rfl | exact RN.sl rfl | exact RN.slf rfl | apply RN.agg | apply RN.fn | exact RNs.nil | apply RNs.cons)) .nil)) .nil (.cons rfl (.self rfl) (.cons rfl (.self rfl) (.cons rfl (.ptr rfl) (.cons rfl (.sl rfl) (.cons rfl (.self rfl) .nil))))), by dsimp only; omega⟩
      · refine AW.skip ?_
        refine AW.seq ?_
        refine AW.block ?_
        refine AW.region (by kernel_rfl) ?_
        refine RunF.q (o_move rfl) rfl ?_
        refine RunF.w (o_buildSlice (nm := 2) tk22 ts30 tz30 rfl rfl rfl rfl) rfl ?_
        refine RunF.w (o_append_own (nm := 3) (mn := ((a :: l) ++ [0]).length) tk22 tk22 ts30 tb30 tz30 rfl rfl rfl rfl rfl ⟨by decide, Nat.le_refl 1, by simp, by simp only [List.length_cons] at hlen ⊢; omega, by simp only [List.length_cons] at hlen ⊢; omega⟩ rfl (ints_all (a :: l)) rfl rfl (by simp)) rfl ?_
        refine RunF.q (o_assign rfl) rfl ?_
        refine AW.region (by kernel_rfl) ?_
        refine RunF.q (o_move rfl) rfl ?_
        refine RunF.q (o_add rfl rfl (by first | exact i64_in _ (by omega) | rfl)) rfl ?_
        refine RunF.q (o_assign rfl) rfl ?_
        exact ⟨⟨(t + 1, (a :: l) ++ [0]), by dsimp only; omega, by dsimp only; rw [List.replicate_succ', ← hx2]⟩, Wk.of [0, 3] [] rfl (.some rfl rfl (by first | (apply PRN.flat; rfl) | (apply PRN.flat; simp; done) | (repeat' first | exact PRN.nil | apply PRN.cons | exact RN.self rfl | exact RN.top | exact RN.ptr rfl | exact RN.sl rfl | exact RN.slf rfl | apply RN.agg | apply RN.fn | exact RNs.nil | apply RNs.cons)) (.some rfl rfl (PRN.snoc (a :: l) 0) .nil)) .nil (.cons rfl (.self rfl) (.cons rfl (.self rfl) (.cons rfl (.ptr rfl) (.cons rfl (.sl rfl) (.cons rfl (.self rfl) .nil))))), by dsimp only; omega⟩
    · try simp only [decide_eq_true_eq, decide_eq_false_iff_not, bne_iff_ne, beq_iff_eq, bne_eq_false_iff_eq, beq_eq_false_iff_ne, ne_eq, Bool.not_eq_true', Bool.not_eq_false'] at hc0
      have et : t = r * c := by omega
      subst et
      obtain ⟨a, l, rfl⟩ : ∃ a l, L0 = a :: l := by
        cases L0 with
        | nil => have := congrArg List.length hx2; have := Nat.mul_pos hR hC; simp at *; omega
        | cons a l => exact ⟨a, l, rfl⟩
      refine AW.exit ?_
      refine AW.seq ?_
      refine AW.region (by kernel_rfl) ?_
      refine RunF.q (o_move rfl) rfl ?_
      refine RunF.q (o_move rfl) rfl ?_
      refine RunF.q (o_move rfl) rfl ?_
      refine RunF.q (o_build tk24 tz24 pl24 rfl rfl) rfl ?_
      refine RunF.wn (o_store rfl rfl rfl ts24 rfl rfl) rfl ?_
      refine AW.ret ?_
      apply FinQ.ret [1] []
      · exact (ress_agg rfl tk24 ts24 rfl rfl rfl ress_nil)
      · rfl
      · exact (.some rfl rfl (by rw [← hx2]; exact PRN.flat (ints_flat _)) .nil)
      · exact .nil
      · rw [← hx2]; exact (by repeat' first | exact RN.self rfl | exact RN.top | exact RN.ptr rfl | exact RN.sl rfl | exact RN.slf rfl | apply RN.agg | apply RN.tuple | apply RN.fn | exact RNs.nil | apply RNs.cons | (apply RNs.flat; simp; done))
  · exact Wk.of [0, 999] [] rfl (.some rfl rfl (by first | (apply PRN.flat; rfl) | (apply PRN.flat; simp; done) | (repeat' first | exact PRN.nil | apply PRN.cons | exact RN.self rfl | exact RN.top | exact RN.ptr rfl | exact RN.sl rfl | exact RN.slf rfl | apply RN.agg | apply RN.fn | exact RNs.nil | apply RNs.cons)) (.none .nil)) .nil (.cons rfl (.self rfl) (.cons rfl (.self rfl) (.cons rfl (.ptr rfl) (.cons rfl (.self rfl) (.cons rfl (.self rfl) .nil)))))

end Go.Proofs.Ytnkijhpikeokfaa
