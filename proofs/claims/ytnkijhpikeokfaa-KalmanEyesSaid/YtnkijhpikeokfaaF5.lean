/- Half of a number: to the nearest, halves to the even one; what is made even. -/
import Derived.Test.YtnkijhpikeokfaaF4
set_option linter.unusedSimpArgs false
set_option linter.unusedVariables false
namespace Go.Proofs.Ytnkijhpikeokfaa
open Go Go.Sym Go.IntWalk

def half1 (n : Int) : Int := if n % 2 = 1 ∧ n / 2 % 2 = 1 then n / 2 + 1 else n / 2

theorem bv_and1 (n : Int) : ((BitVec.ofInt 64 n &&& BitVec.ofInt 64 1).toNat : Int) = n % 2 := by
  rw [BitVec.toNat_and, BitVec.toNat_ofInt, BitVec.toNat_ofInt]
  have e2 : ((1 : Int) % ((2 ^ 64 : Nat) : Int)).toNat = 1 := by decide
  rw [e2, Nat.and_one_is_mod]
  omega
theorem mask1u (n : Int) : IntKind.u64.wrap ((BitVec.ofInt IntKind.u64.bits (n % 18446744073709551616) &&& BitVec.ofInt IntKind.u64.bits 1).toNat : Int) = n % 2 := by
  have h := bv_and1 (n % 18446744073709551616)
  have h2 : ((BitVec.ofInt IntKind.u64.bits (n % 18446744073709551616) &&& BitVec.ofInt IntKind.u64.bits 1).toNat : Int) = n % 18446744073709551616 % 2 := h
  rw [h2, IntKind.wrap_u64]; omega
theorem mask1i (n : Int) : IntKind.i64.wrap ((BitVec.ofInt IntKind.i64.bits n &&& BitVec.ofInt IntKind.i64.bits 1).toNat : Int) = n % 2 := by
  have h2 : ((BitVec.ofInt IntKind.i64.bits n &&& BitVec.ofInt IntKind.i64.bits 1).toNat : Int) = n % 2 := bv_and1 n
  rw [h2]; exact i64_in _ (by omega)
theorem shr1 (n : Int) : n.fdiv (2 ^ (min (1 : Int).toNat IntKind.i64.bits)) = n / 2 := by
  rw [Int.fdiv_eq_ediv_of_nonneg _ (by decide)]; rfl

set_option maxHeartbeats 1000000 in
theorem half1_ok (n : Int) (hn : -4611686018427387904 ≤ n ∧ n ≤ 4611686018427387903) : SoundC Try.prog 75 [.int .i64 n, .int .i64 1] ⟨[], []⟩ { val := .int .i64 (half1 n) } := by
  refine SoundC.of (N := 43) Try.func75 rfl rfl rfl rfl ?_
  refine AW.seq ?_
  refine AW.region (by kernel_rfl) ?_
  refine RunF.q (o_assign rfl) rfl ?_
  refine AW.seq ?_
  refine AW.region (by kernel_rfl) ?_
  refine RunF.q (o_move rfl) rfl ?_
  refine RunF.q (o_max (m := 1) rfl rfl (by decide)) rfl ?_
  refine RunF.q (o_min (m := 1) rfl rfl (by decide)) rfl ?_
  refine RunF.q (o_assign rfl) rfl ?_
  refine AW.seq ?_
  refine AW.region (by kernel_rfl) ?_
  refine RunF.q (o_move rfl) rfl ?_
  refine RunF.q (o_move rfl) rfl ?_
  refine RunF.q (o_shr rfl rfl (by decide) (shr1 n)) rfl ?_
  refine RunF.q (o_assign rfl) rfl ?_
  refine AW.seq ?_
  refine AW.region (by kernel_rfl) ?_
  refine RunF.q (o_move rfl) rfl ?_
  refine RunF.q (o_convert tk2 tk172 rfl (IntKind.wrap_u64 n)) rfl ?_
  refine RunF.q (o_move rfl) rfl ?_
  refine RunF.q (o_shl (m := 2) rfl rfl (by decide) (by decide)) rfl ?_
  refine RunF.q (o_sub (m := 1) rfl rfl (by decide)) rfl ?_
  refine RunF.q (o_and rfl rfl (mask1u n)) rfl ?_
  refine RunF.q (o_assign rfl) rfl ?_
  refine AW.seq ?_
  refine AW.seq ?_
  refine AW.region (by kernel_rfl) ?_
  refine RunF.q (o_move rfl) rfl ?_
  refine RunF.q (o_bin (v := .bool true) rfl rfl rfl) rfl ?_
  refine RunF.q (o_move rfl) rfl ?_
  refine RunF.gq rfl (o_move rfl) rfl ?_
  refine RunF.gq rfl (o_move rfl) rfl ?_
  refine RunF.gq rfl (o_sub (m := 0) rfl rfl (by decide)) rfl ?_
  refine RunF.gq rfl (o_shl (m := 1) rfl rfl (by decide) (by decide)) rfl ?_
  refine RunF.gq rfl (o_bin (v := .bool false) rfl rfl (by simp only [binA, if_true]; rw [decide_eq_false (by omega)])) rfl ?_
  refine RunF.gq rfl (o_move rfl) rfl ?_
  refine RunF.gq rfl (o_move rfl) rfl ?_
  refine RunF.gq rfl (o_move rfl) rfl ?_
  refine RunF.gq rfl (o_sub (m := 0) rfl rfl (by decide)) rfl ?_
  refine RunF.gq rfl (o_shl (m := 1) rfl rfl (by decide) (by decide)) rfl ?_
  refine RunF.gq rfl (o_eql rfl rfl) rfl ?_
  refine RunF.gb rfl (o_move rfl) rfl (fun hb4_14 => ?_) (fun hb4_14 => ?_)
  · try simp only [decide_eq_true_eq, decide_eq_false_iff_not, bne_iff_ne, beq_iff_eq, bne_eq_false_iff_eq, beq_eq_false_iff_ne, ne_eq, Bool.not_eq_true', Bool.not_eq_false'] at hb4_14
    refine RunF.gq rfl (o_move rfl) rfl ?_
    refine RunF.gq rfl (o_and rfl rfl (mask1i _)) rfl ?_
    refine RunF.gq rfl (o_eql rfl rfl) rfl ?_
    refine RunF.gq rfl (o_pick_t rfl rfl) rfl ?_
    refine RunF.gq rfl (o_pick_f rfl rfl) rfl ?_
    refine RunF.q (o_pick_t rfl rfl) rfl ?_
    refine AW.cond rfl (fun hc0 => ?_) (fun hc0 => ?_)
    · try simp only [decide_eq_true_eq, decide_eq_false_iff_not, bne_iff_ne, beq_iff_eq, bne_eq_false_iff_eq, beq_eq_false_iff_ne, ne_eq, Bool.not_eq_true', Bool.not_eq_false'] at hc0
      have e1 : half1 n = n / 2 + 1 := by unfold half1; rw [if_pos (by omega)]
      refine AW.region (by kernel_rfl) ?_
      refine RunF.q (o_move rfl) rfl ?_
      refine RunF.q (o_add rfl rfl (by first | exact i64_in _ (by omega) | rfl)) rfl ?_
      refine RunF.q (o_assign rfl) rfl ?_
      refine AW.seq ?_
      refine AW.region (by kernel_rfl) ?_
      refine RunF.q (o_move rfl) rfl ?_
      refine RunF.q (o_assign rfl) rfl ?_
      refine AW.ret ?_
      exact FinQ.ret [] [] (ress_tmp rfl ress_nil) rfl .nil .nil (by rw [e1]; exact (by repeat' first | exact RN.self rfl | exact RN.top | exact RN.ptr rfl | exact RN.sl rfl | exact RN.slf rfl | apply RN.agg | apply RN.tuple | apply RN.fn | exact RNs.nil | apply RNs.cons | (apply RNs.flat; simp; done)))
    · try simp only [decide_eq_true_eq, decide_eq_false_iff_not, bne_iff_ne, beq_iff_eq, bne_eq_false_iff_eq, beq_eq_false_iff_ne, ne_eq, Bool.not_eq_true', Bool.not_eq_false'] at hc0
      have e1 : half1 n = n / 2 := by unfold half1; rw [if_neg (by omega)]
      refine AW.skip ?_
      refine AW.seq ?_
      refine AW.region (by kernel_rfl) ?_
      refine RunF.q (o_move rfl) rfl ?_
      refine RunF.q (o_assign rfl) rfl ?_
      refine AW.ret ?_
      exact FinQ.ret [] [] (ress_tmp rfl ress_nil) rfl .nil .nil (by rw [e1]; exact (by repeat' first | exact RN.self rfl | exact RN.top | exact RN.ptr rfl | exact RN.sl rfl | exact RN.slf rfl | apply RN.agg | apply RN.tuple | apply RN.fn | exact RNs.nil | apply RNs.cons | (apply RNs.flat; simp; done)))
  · try simp only [decide_eq_true_eq, decide_eq_false_iff_not, bne_iff_ne, beq_iff_eq, bne_eq_false_iff_eq, beq_eq_false_iff_ne, ne_eq, Bool.not_eq_true', Bool.not_eq_false'] at hb4_14
    refine RunF.gs (b := false) rfl rfl ?_
    refine RunF.gs (b := false) rfl rfl ?_
    refine RunF.gs (b := false) rfl rfl ?_
    refine RunF.gq rfl (o_pick_f rfl rfl) rfl ?_
    refine RunF.gq rfl (o_pick_f rfl rfl) rfl ?_
    refine RunF.q (o_pick_t rfl rfl) rfl ?_
    refine AW.cond rfl (fun hc0 => absurd hc0 (by simp)) (fun hc0 => ?_)
    have e1 : half1 n = n / 2 := by unfold half1; rw [if_neg (by omega)]
    refine AW.skip ?_
    refine AW.seq ?_
    refine AW.region (by kernel_rfl) ?_
    refine RunF.q (o_move rfl) rfl ?_
    refine RunF.q (o_assign rfl) rfl ?_
    refine AW.ret ?_
    exact FinQ.ret [] [] (ress_tmp rfl ress_nil) rfl .nil .nil (by rw [e1]; exact (by repeat' first | exact RN.self rfl | exact RN.top | exact RN.ptr rfl | exact RN.sl rfl | exact RN.slf rfl | apply RN.agg | apply RN.tuple | apply RN.fn | exact RNs.nil | apply RNs.cons | (apply RNs.flat; simp; done)))

set_option maxHeartbeats 1000000 in
theorem even1_ok (x y : Int) (hx : -70368744177664 ≤ x ∧ x ≤ 70368744177663) (hy : -70368744177664 ≤ y ∧ y ≤ 70368744177663) : SoundC Try.prog 74 [.int .i64 x, .int .i64 y] ⟨[], []⟩ { val := .tuple [.int .i64 (half1 (x + y)), .bool false] } := by
  refine SoundC.of (N := 10) Try.func74 rfl rfl rfl rfl ?_
  refine AW.seq ?_
  refine AW.region (by kernel_rfl) ?_
  refine RunF.q (o_assign rfl) rfl ?_
  refine RunF.q (o_assign rfl) rfl ?_
  refine AW.seq ?_
  refine AW.region (by kernel_rfl) ?_
  refine RunF.q (o_move rfl) rfl ?_
  refine RunF.q (o_move rfl) rfl ?_
  refine RunF.q (o_add rfl rfl (by first | exact i64_in _ (by omega) | rfl)) rfl ?_
  refine RunF.q (o_call (no := 0) (nr := 0) rfl rfl rfl (by (repeat' first | exact cl_nil | exact cL_flat rfl | exact cL_flat (ints_flat _) | apply cL_vs | apply cl_cons | exact cv_flat rfl | apply cv_agg | apply cv_ptr_o | apply cv_sl_o rfl | apply cv_func | exact cO_old rfl | (apply cO_new; (focus rfl); (focus rfl)) | (apply cv_sl_r; (focus rfl); (focus rfl); (focus (simp; done)); (focus (first | exact ints_all _ | rfl))) | (apply cv_ptr_r rfl ?_ rfl rfl) | (simp only [List.nil_append, List.cons_append, List.length_cons, List.length_nil, Nat.zero_add, Nat.reduceAdd, List.set_cons_zero, List.set_cons_succ]; rfl) | rfl)) (by rfl) (by exact half1_ok _ (by omega)) (by rfl) rfl rfl (by first | exact reV_bare _ _ rfl | (simp only [reV, reVs, List.all_cons, List.all_nil, AV.flat, Bool.and_true, Bool.true_and, Bool.false_and, Bool.and_false, Bool.false_eq_true, reduceIte, CS.de, List.getElem?_cons_zero, List.getElem?_cons_succ, List.getElem?_nil, List.length_cons, List.length_nil, Nat.reduceSub, Nat.reduceAdd, Nat.zero_add, Nat.add_zero, Nat.sub_self]; rfl)) rfl) (by rfl) ?_
  refine RunF.q (o_assign rfl) rfl ?_
  refine RunF.q (o_assign rfl) rfl ?_
  refine AW.ret ?_
  exact FinQ.ret [] [] (ress_tmp rfl (ress_tmp rfl ress_nil)) rfl (by first | exact RowsO.nil | skip) (by first | exact RowsR.nil | skip) (by repeat' first | exact RN.self rfl | exact RN.top | exact RN.ptr rfl | exact RN.sl rfl | exact RN.slf rfl | apply RN.agg | apply RN.tuple | apply RN.fn | exact RNs.nil | apply RNs.cons | (apply RNs.flat; simp; done))

end Go.Proofs.Ytnkijhpikeokfaa
