/- Products of matrices, by their contracts. -/
import Derived.Test.YtnkijhpikeokfaaF3
import Derived.Test.YtnkijhpikeokfaaF4
set_option linter.unusedSimpArgs false
set_option linter.unusedVariables false
namespace Go.Proofs.Ytnkijhpikeokfaa
open Go Go.Sym Go.IntWalk

/-- the sum of the products, from the first one on, and whether a bound was met -/
def dot (X Y : Nat → Int) : Nat → Int × Bool
  | 0 => (0, false)
  | j + 1 => (addQ (dot X Y j).1 (mulQ (X j) (Y j)), (dot X Y j).2 || mulF (X j) (Y j) || addF (dot X Y j).1 (mulQ (X j) (Y j)))
def mulD (A B : List Int) (m c i k : Nat) : Int × Bool := dot (fun j => A.getD (i * m + j) 0) (fun j => B.getD (j * c + k) 0) m
def mulL (A B : List Int) (r m c : Nat) : List Int := tab (fun i k => (mulD A B m c i k).1) c (r * c)
def mulX (A B : List Int) (r m c : Nat) : Bool := anyT (fun i k => (mulD A B m c i k).2) c (r * c)

set_option maxHeartbeats 1000000 in
theorem mul1_ok (r m c : Nat) (hr : r ≤ 8) (hm : m ≤ 8) (hc : c ≤ 8) (A B : List Int) (hA : A.length = r * m) (hB : B.length = m * c) (fa fb : Bool) (i k : Nat) (hi : i < r) (hk : k < c) : SoundC Try.prog 80 [.int .i64 i, .int .i64 k, .ptr (.o 0) 0, .ptr (.o 1) 0] ⟨[ints A, ints B], [some [.int .i64 r, .int .i64 m, .sl (.r 0) 0 A.length 1 fa], some [.int .i64 m, .int .i64 c, .sl (.r 1) 0 B.length 1 fb]]⟩ { val := .tuple [.int .i64 (mulD A B m c i k).1, .bool (mulD A B m c i k).2] } := by
  refine SoundC.of (N := 49) Try.func80 rfl rfl rfl rfl ?_
  refine AW.seq ?_
  refine AW.region (by kernel_rfl) ?_
  refine RunF.q (o_assign rfl) rfl ?_
  refine RunF.q (o_assign rfl) rfl ?_
  refine AW.seq ?_
  refine AW.region (by kernel_rfl) ?_
  refine RunF.q (o_assign rfl) rfl ?_
  refine RunF.q (o_assign rfl) rfl ?_
  refine AW.seq ?_
  refine AW.seq ?_
  refine AW.region (by kernel_rfl) ?_
  refine RunF.q (o_fieldAddr rfl tk24 rfl ts3 rfl) rfl ?_
  refine RunF.q (o_load rfl tk3 ts3 rfl rfl rfl) rfl ?_
  refine RunF.q (o_move rfl) rfl ?_
  refine AW.block ?_
  refine AW.loop (α := {j : Nat // j ≤ m}) (fun x : {j : Nat // j ≤ m} => ([(0, .int .i64 i), (1, .int .i64 k), (2, .ptr (.o 0) 0), (3, .ptr (.o 1) 0), (8, .int .i64 (dot (fun j => A.getD (i * m + j) 0) (fun j => B.getD (j * c + k) 0) x.1).1), (9, .bool (dot (fun j => A.getD (i * m + j) 0) (fun j => B.getD (j * c + k) 0) x.1).2), (16, .int .i64 m), (17, .int .i64 x.1)], ⟨[ints A, ints B], [some [.int .i64 r, .int .i64 m, .sl (.r 0) 0 A.length 1 fa], some [.int .i64 m, .int .i64 c, .sl (.r 1) 0 B.length 1 fb]]⟩)) (fun x => m - x.1) (fun x => ?_) ⟨0, by omega⟩ ?_
  · obtain ⟨j, hx⟩ := x
    try dsimp only at hx
    try dsimp only
    refine AW.seq ?_
    refine AW.region (by kernel_rfl) ?_
    refine RunF.q (o_lss rfl rfl) rfl ?_
    refine AW.seq ?_
    refine AW.cond rfl (fun hc0 => ?_) (fun hc0 => ?_)
    · try simp only [decide_eq_true_eq, decide_eq_false_iff_not, bne_iff_ne, beq_iff_eq, bne_eq_false_iff_eq, beq_eq_false_iff_ne, ne_eq, Bool.not_eq_true', Bool.not_eq_false'] at hc0
      have hj : j < m := by omega
      refine AW.skip ?_
      refine AW.seq ?_
      refine AW.block ?_
      refine AW.seq ?_
      refine AW.region (by kernel_rfl) ?_
      refine RunF.q (o_move rfl) rfl ?_
      refine RunF.q (o_assign rfl) rfl ?_
      refine AW.seq ?_
      refine AW.draws (by kernel_rfl) (by kernel_rfl) ?_
      refine RunV.q (o_load_agg rfl tk24 ts24 rfl rfl rfl (by simp only [List.take_succ_cons, List.drop_succ_cons, List.drop_zero, List.take_zero, List.take_nil, List.drop_nil, Nat.zero_add, Nat.reduceAdd]; rfl)) rfl ?_
      refine RunV.q (o_move rfl) rfl ?_
      refine RunV.q (o_move rfl) rfl ?_
      refine RunV.q (o_call (no := 2) (nr := 2) rfl rfl rfl (by (repeat' first | exact cl_nil | exact cL_flat rfl | exact cL_flat (ints_flat _) | apply cL_vs | apply cl_cons | exact cv_flat rfl | apply cv_agg | apply cv_ptr_o | apply cv_sl_o rfl | apply cv_func | exact cO_old rfl | (apply cO_new; (focus rfl); (focus rfl)) | (apply cv_sl_r; (focus rfl); (focus rfl); (focus (simp; done)); (focus (first | exact ints_all _ | rfl))) | (apply cv_ptr_r rfl ?_ rfl rfl) | (simp only [List.nil_append, List.cons_append, List.length_cons, List.length_nil, Nat.zero_add, Nat.reduceAdd, List.set_cons_zero, List.set_cons_succ]; rfl) | rfl)) (by rfl) (by exact at_ok r m hr hm A hA fa i j hi hj) (by rfl) rfl rfl (by first | exact reV_bare _ _ rfl | (simp only [reV, reVs, List.all_cons, List.all_nil, AV.flat, Bool.and_true, Bool.true_and, Bool.false_and, Bool.and_false, Bool.false_eq_true, reduceIte, CS.de, List.getElem?_cons_zero, List.getElem?_cons_succ, List.getElem?_nil, List.length_cons, List.length_nil, Nat.reduceSub, Nat.reduceAdd, Nat.zero_add, Nat.add_zero, Nat.sub_self]; rfl)) rfl) (by rfl) ?_
      refine RunV.q (o_load_agg rfl tk24 ts24 rfl rfl rfl (by simp only [List.take_succ_cons, List.drop_succ_cons, List.drop_zero, List.take_zero, List.take_nil, List.drop_nil, Nat.zero_add, Nat.reduceAdd]; rfl)) rfl ?_
      refine RunV.q (o_move rfl) rfl ?_
      refine RunV.q (o_move rfl) rfl ?_
      refine RunV.q (o_call (no := 2) (nr := 2) rfl rfl rfl (by (repeat' first | exact cl_nil | exact cL_flat rfl | exact cL_flat (ints_flat _) | apply cL_vs | apply cl_cons | exact cv_flat rfl | apply cv_agg | apply cv_ptr_o | apply cv_sl_o rfl | apply cv_func | exact cO_old rfl | (apply cO_new; (focus rfl); (focus rfl)) | (apply cv_sl_r; (focus rfl); (focus rfl); (focus (simp; done)); (focus (first | exact ints_all _ | rfl))) | (apply cv_ptr_r rfl ?_ rfl rfl) | (simp only [List.nil_append, List.cons_append, List.length_cons, List.length_nil, Nat.zero_add, Nat.reduceAdd, List.set_cons_zero, List.set_cons_succ]; rfl) | rfl)) (by rfl) (by exact at_ok m c hm hc B hB fb j k hj hk) (by rfl) rfl rfl (by first | exact reV_bare _ _ rfl | (simp only [reV, reVs, List.all_cons, List.all_nil, AV.flat, Bool.and_true, Bool.true_and, Bool.false_and, Bool.and_false, Bool.false_eq_true, reduceIte, CS.de, List.getElem?_cons_zero, List.getElem?_cons_succ, List.getElem?_nil, List.length_cons, List.length_nil, Nat.reduceSub, Nat.reduceAdd, Nat.zero_add, Nat.add_zero, Nat.sub_self]; rfl)) rfl) (by rfl) ?_
      refine RunV.q (o_call (no := 2) (nr := 2) rfl rfl rfl (by (repeat' first | exact cl_nil | exact cL_flat rfl | exact cL_flat (ints_flat _) | apply cL_vs | apply cl_cons | exact cv_flat rfl | apply cv_agg | apply cv_ptr_o | apply cv_sl_o rfl | apply cv_func | exact cO_old rfl | (apply cO_new; (focus rfl); (focus rfl)) | (apply cv_sl_r; (focus rfl); (focus rfl); (focus (simp; done)); (focus (first | exact ints_all _ | rfl))) | (apply cv_ptr_r rfl ?_ rfl rfl) | (simp only [List.nil_append, List.cons_append, List.length_cons, List.length_nil, Nat.zero_add, Nat.reduceAdd, List.set_cons_zero, List.set_cons_succ]; rfl) | rfl)) (by rfl) (by exact mul_ok _ _) (by rfl) rfl rfl (by first | exact reV_bare _ _ rfl | (simp only [reV, reVs, List.all_cons, List.all_nil, AV.flat, Bool.and_true, Bool.true_and, Bool.false_and, Bool.and_false, Bool.false_eq_true, reduceIte, CS.de, List.getElem?_cons_zero, List.getElem?_cons_succ, List.getElem?_nil, List.length_cons, List.length_nil, Nat.reduceSub, Nat.reduceAdd, Nat.zero_add, Nat.add_zero, Nat.sub_self]; rfl)) rfl) (by rfl) ?_
      refine RunV.q (o_move rfl) rfl ?_
      refine RunV.q (o_extract rfl rfl) rfl ?_
      refine RunV.q (o_extract rfl rfl) rfl ?_
      refine RunV.q (o_assign rfl) rfl ?_
      refine RunV.q (o_assign rfl) rfl ?_
      refine And.intro (by kernel_rfl) ?_
      refine AW.seq ?_
      refine AW.region (by kernel_rfl) ?_
      refine RunF.q (o_move rfl) rfl ?_
      refine RunF.q (o_move rfl) rfl ?_
      refine RunF.q (o_call (no := 2) (nr := 2) rfl rfl rfl (by (repeat' first | exact cl_nil | exact cL_flat rfl | exact cL_flat (ints_flat _) | apply cL_vs | apply cl_cons | exact cv_flat rfl | apply cv_agg | apply cv_ptr_o | apply cv_sl_o rfl | apply cv_func | exact cO_old rfl | (apply cO_new; (focus rfl); (focus rfl)) | (apply cv_sl_r; (focus rfl); (focus rfl); (focus (simp; done)); (focus (first | exact ints_all _ | rfl))) | (apply cv_ptr_r rfl ?_ rfl rfl) | (simp only [List.nil_append, List.cons_append, List.length_cons, List.length_nil, Nat.zero_add, Nat.reduceAdd, List.set_cons_zero, List.set_cons_succ]; rfl) | rfl)) (by rfl) (by exact add_ok _ _) (by rfl) rfl rfl (by first | exact reV_bare _ _ rfl | (simp only [reV, reVs, List.all_cons, List.all_nil, AV.flat, Bool.and_true, Bool.true_and, Bool.false_and, Bool.and_false, Bool.false_eq_true, reduceIte, CS.de, List.getElem?_cons_zero, List.getElem?_cons_succ, List.getElem?_nil, List.length_cons, List.length_nil, Nat.reduceSub, Nat.reduceAdd, Nat.zero_add, Nat.add_zero, Nat.sub_self]; rfl)) rfl) (by rfl) ?_
      refine RunF.q (o_move rfl) rfl ?_
      refine RunF.q (o_extract rfl rfl) rfl ?_
      refine RunF.q (o_extract rfl rfl) rfl ?_
      refine RunF.q (o_assign rfl) rfl ?_
      refine RunF.q (o_assign rfl) rfl ?_
      refine AW.region (by kernel_rfl) ?_
      refine RunF.q (o_move rfl) rfl ?_
      refine RunF.q (o_move rfl) rfl ?_
      refine RunF.q (o_move rfl) rfl ?_
      refine RunF.gm rfl (o_move rfl) ?_
      first | refine RunF.q (o_pick_t rfl rfl) rfl ?_ | refine RunF.q (o_pick_f rfl rfl) rfl ?_ | refine RunF.q (o_pick_b rfl rfl rfl) rfl ?_ | refine RunF.q (o_pick_or rfl rfl rfl) rfl ?_ | refine RunF.q (o_pick_and rfl rfl rfl) rfl ?_
      refine RunF.q (o_move rfl) rfl ?_
      refine RunF.gm rfl (o_move rfl) ?_
      first | refine RunF.q (o_pick_t rfl rfl) rfl ?_ | refine RunF.q (o_pick_f rfl rfl) rfl ?_ | refine RunF.q (o_pick_b rfl rfl rfl) rfl ?_ | refine RunF.q (o_pick_or rfl rfl rfl) rfl ?_ | refine RunF.q (o_pick_and rfl rfl rfl) rfl ?_
      refine RunF.q (o_assign rfl) rfl ?_
      refine RunF.q (o_assign rfl) rfl ?_
      refine AW.region (by kernel_rfl) ?_
      refine RunF.q (o_add rfl rfl (by first | exact i64_in _ (by omega) | rfl)) rfl ?_
      refine RunF.q (o_move rfl) rfl ?_
      exact ⟨⟨j + 1, by omega⟩, Wk.same rfl (.cons rfl (.cons rfl (.cons rfl (.cons rfl (.cons rfl (.cons rfl (.cons rfl (.cons rfl .nil)))))))), by dsimp only; omega⟩
    · try simp only [decide_eq_true_eq, decide_eq_false_iff_not, bne_iff_ne, beq_iff_eq, bne_eq_false_iff_eq, beq_eq_false_iff_ne, ne_eq, Bool.not_eq_true', Bool.not_eq_false'] at hc0
      obtain rfl : j = m := by omega
      refine AW.exit ?_
      refine AW.seq ?_
      refine AW.region (by kernel_rfl) ?_
      refine RunF.q (o_move rfl) rfl ?_
      refine RunF.q (o_move rfl) rfl ?_
      refine RunF.q (o_assign rfl) rfl ?_
      refine RunF.q (o_assign rfl) rfl ?_
      refine AW.ret ?_
      exact FinQ.ret [] [] (ress_tmp rfl (ress_tmp rfl ress_nil)) rfl (.some rfl rfl (by first | (apply PRN.flat; rfl) | (apply PRN.flat; simp; done) | (repeat' first | exact PRN.nil | apply PRN.cons | exact RN.self rfl | exact RN.top | exact RN.ptr rfl | exact RN.sl rfl | exact RN.slf rfl | apply RN.agg | apply RN.fn | exact RNs.nil | apply RNs.cons)) (.some rfl rfl (by first | (apply PRN.flat; rfl) | (apply PRN.flat; simp; done) | (repeat' first | exact PRN.nil | apply PRN.cons | exact RN.self rfl | exact RN.top | exact RN.ptr rfl | exact RN.sl rfl | exact RN.slf rfl | apply RN.agg | apply RN.fn | exact RNs.nil | apply RNs.cons)) .nil)) (.cons rfl rfl (by first | (apply PRN.flat; rfl) | (apply PRN.flat; simp; done) | (repeat' first | exact PRN.nil | apply PRN.cons | exact RN.self rfl | exact RN.top | exact RN.ptr rfl | exact RN.sl rfl | exact RN.slf rfl | apply RN.agg | apply RN.fn | exact RNs.nil | apply RNs.cons)) (.cons rfl rfl (by first | (apply PRN.flat; rfl) | (apply PRN.flat; simp; done) | (repeat' first | exact PRN.nil | apply PRN.cons | exact RN.self rfl | exact RN.top | exact RN.ptr rfl | exact RN.sl rfl | exact RN.slf rfl | apply RN.agg | apply RN.fn | exact RNs.nil | apply RNs.cons)) .nil)) (by repeat' first | exact RN.self rfl | exact RN.top | exact RN.ptr rfl | exact RN.sl rfl | exact RN.slf rfl | apply RN.agg | apply RN.tuple | apply RN.fn | exact RNs.nil | apply RNs.cons | (apply RNs.flat; simp; done))
  · exact Wk.same rfl (.cons rfl (.cons rfl (.cons rfl (.cons rfl (.cons rfl (.cons rfl (.cons rfl (.cons rfl .nil))))))))

set_option maxHeartbeats 1000000 in
theorem madeM_ok (r m c : Nat) (hr : r ≤ 8) (hm : m ≤ 8) (hc : c ≤ 8) (A B : List Int) (hA : A.length = r * m) (hB : B.length = m * c) (fa fb : Bool) (hR : 0 < r) (hC : 0 < c) : SoundC Try.prog 76 [.agg [.int .i64 r, .int .i64 c], .func 80 [] [.ptr (.o 0) 0, .ptr (.o 1) 0]] ⟨[ints A, ints B], [some [.int .i64 r, .int .i64 m, .sl (.r 0) 0 A.length 1 fa], some [.int .i64 m, .int .i64 c, .sl (.r 1) 0 B.length 1 fb]]⟩ { val := .tuple [.agg [.int .i64 r, .int .i64 c, .sl (.o 2) 0 (tab (fun i k => (mulD A B m c i k).1) c (r * c)).length 1 false], .bool (anyT (fun i k => (mulD A B m c i k).2) c (r * c))], newo := [ints (tab (fun i k => (mulD A B m c i k).1) c (r * c))] } := by
  have hR8 := hr
  have hC8 := hc
  refine SoundC.of (N := 48) Try.func76 rfl rfl rfl rfl ?_
  refine AW.seq ?_
  refine AW.region (by kernel_rfl) ?_
  refine RunF.w (o_box (nm := 2) rfl rfl rfl) rfl ?_
  refine RunF.w (o_alloc (nm := 3) tz24 rfl) rfl ?_
  refine RunF.q (o_assign rfl) rfl ?_
  refine AW.seq ?_
  refine AW.region (by kernel_rfl) ?_
  refine RunF.q (o_fieldAddr rfl tk132 rfl ts3 rfl) rfl ?_
  refine RunF.q (o_load rfl tk3 ts3 rfl rfl rfl) rfl ?_
  refine RunF.q (o_fieldAddr rfl tk132 rfl ts3 rfl) rfl ?_
  refine RunF.q (o_load rfl tk3 ts3 rfl rfl rfl) rfl ?_
  refine RunF.q (o_build tk24 tz24 pl24 rfl rfl) rfl ?_
  refine RunF.w (o_alloc (nm := 4) tz24 rfl) rfl ?_
  refine RunF.wn (o_store rfl rfl rfl ts24 rfl rfl) rfl ?_
  refine AW.seq ?_
  refine AW.region (by kernel_rfl) ?_
  refine RunF.q (o_assign rfl) rfl ?_
  refine AW.seq ?_
  refine AW.seq ?_
  refine AW.region (by kernel_rfl) ?_
  refine RunF.q (o_fieldAddr rfl tk132 rfl ts3 rfl) rfl ?_
  refine RunF.q (o_load rfl tk3 ts3 rfl rfl rfl) rfl ?_
  refine RunF.q (o_move rfl) rfl ?_
  refine AW.block ?_
  refine AW.loop (α := {x : Nat × List Int × Bool // x.1 ≤ r ∧ x.2.1 = tab (fun i k => (mulD A B m c i k).1) c (x.1 * c) ∧ x.2.2 = anyT (fun i k => (mulD A B m c i k).2) c (x.1 * c)}) (fun x : {x : Nat × List Int × Bool // x.1 ≤ r ∧ x.2.1 = tab (fun i k => (mulD A B m c i k).1) c (x.1 * c) ∧ x.2.2 = anyT (fun i k => (mulD A B m c i k).2) c (x.1 * c)} => ([(1, .func 80 [] [.ptr (.o 0) 0, .ptr (.o 1) 0]), (2, .ptr (.o 2) 0), (4, .ptr (.o 3) 0), (6, .ptr (.o 4) 0), (7, .bool x.1.2.2), (18, .int .i64 r), (19, .int .i64 x.1.1)], ⟨[ints A, ints B], [some [.int .i64 r, .int .i64 m, .sl (.r 0) 0 A.length 1 fa], some [.int .i64 m, .int .i64 c, .sl (.r 1) 0 B.length 1 fb], some [.int .i64 r, .int .i64 c], some [.int .i64 0, .int .i64 0, .nilsl], some [.int .i64 r, .int .i64 c, slOf 5 x.1.2.1], rowOf x.1.2.1]⟩)) (fun x => r - x.1.1) (fun x => ?_) ⟨(0, [], false), by simp, by simp [tab], by simp [anyT]⟩ ?_
  · obtain ⟨⟨i, L0, z0⟩, hx1, hx2, hx3⟩ := x
    dsimp only at hx1 hx2 hx3
    dsimp only
    refine AW.seq ?_
    refine AW.region (by kernel_rfl) ?_
    refine RunF.q (o_lss rfl rfl) rfl ?_
    refine AW.seq ?_
    refine AW.cond rfl (fun hc0 => ?_) (fun hc0 => ?_)
    · try simp only [decide_eq_true_eq, decide_eq_false_iff_not, bne_iff_ne, beq_iff_eq, bne_eq_false_iff_eq, beq_eq_false_iff_ne, ne_eq, Bool.not_eq_true', Bool.not_eq_false'] at hc0
      have hi : i < r := by omega
      refine AW.skip ?_
      refine AW.seq ?_
      refine AW.block ?_
      refine AW.seq ?_
      refine AW.region (by kernel_rfl) ?_
      refine RunF.q (o_move rfl) rfl ?_
      refine RunF.q (o_assign rfl) rfl ?_
      refine AW.seq ?_
      refine AW.region (by kernel_rfl) ?_
      refine RunF.q (o_fieldAddr rfl tk132 rfl ts3 rfl) rfl ?_
      refine RunF.q (o_load rfl tk3 ts3 rfl rfl rfl) rfl ?_
      refine RunF.q (o_move rfl) rfl ?_
      refine AW.block ?_
      refine AW.loop (α := {x : Nat × List Int × Bool // x.1 ≤ c ∧ x.2.1 = tab (fun i k => (mulD A B m c i k).1) c (i * c + x.1) ∧ x.2.2 = anyT (fun i k => (mulD A B m c i k).2) c (i * c + x.1)}) (fun x : {x : Nat × List Int × Bool // x.1 ≤ c ∧ x.2.1 = tab (fun i k => (mulD A B m c i k).1) c (i * c + x.1) ∧ x.2.2 = anyT (fun i k => (mulD A B m c i k).2) c (i * c + x.1)} => ([(1, .func 80 [] [.ptr (.o 0) 0, .ptr (.o 1) 0]), (2, .ptr (.o 2) 0), (4, .ptr (.o 3) 0), (6, .ptr (.o 4) 0), (7, .bool x.1.2.2), (8, .int .i64 i), (18, .int .i64 r), (19, .int .i64 i), (23, .int .i64 c), (24, .int .i64 x.1.1)], ⟨[ints A, ints B], [some [.int .i64 r, .int .i64 m, .sl (.r 0) 0 A.length 1 fa], some [.int .i64 m, .int .i64 c, .sl (.r 1) 0 B.length 1 fb], some [.int .i64 r, .int .i64 c], some [.int .i64 0, .int .i64 0, .nilsl], some [.int .i64 r, .int .i64 c, slOf 5 x.1.2.1], rowOf x.1.2.1]⟩)) (fun x => c - x.1.1) (fun x => ?_) ⟨(0, L0, z0), by omega, by simpa using hx2, by simpa using hx3⟩ ?_
      · obtain ⟨⟨k, y1, y2⟩, hy1, hy2, hy3⟩ := x
        dsimp only at hy1 hy2 hy3
        dsimp only
        refine AW.seq ?_
        refine AW.region (by kernel_rfl) ?_
        refine RunF.q (o_lss rfl rfl) rfl ?_
        refine AW.seq ?_
        refine AW.cond rfl (fun hc1 => ?_) (fun hc1 => ?_)
        · try simp only [decide_eq_true_eq, decide_eq_false_iff_not, bne_iff_ne, beq_iff_eq, bne_eq_false_iff_eq, beq_eq_false_iff_ne, ne_eq, Bool.not_eq_true', Bool.not_eq_false'] at hc1
          have hk : k < c := by omega
          have hlen : y1.length ≤ 64 := by rw [hy2, tab_length]; have := idx_lt hi hk; have := small_mul hR8 hC8; omega
          rcases y1 with _ | ⟨a, l⟩
          · refine AW.skip ?_
            refine AW.seq ?_
            refine AW.block ?_
            refine AW.seq ?_
            refine AW.region (by kernel_rfl) ?_
            refine RunF.q (o_move rfl) rfl ?_
            refine RunF.q (o_assign rfl) rfl ?_
            refine AW.seq ?_
            refine AW.region (by kernel_rfl) ?_
            refine RunF.q (o_move rfl) rfl ?_
            refine RunF.q (o_move rfl) rfl ?_
            refine RunF.q (o_move rfl) rfl ?_
            refine RunF.q (o_call (no := 6) (nr := 2) rfl rfl rfl (by (repeat' first | exact cl_nil | exact cL_flat rfl | exact cL_flat (ints_flat _) | apply cL_vs | apply cl_cons | exact cv_flat rfl | apply cv_agg | apply cv_ptr_o | apply cv_sl_o rfl | apply cv_func | exact cO_old rfl | (apply cO_new; (focus rfl); (focus rfl)) | (apply cv_sl_r; (focus rfl); (focus rfl); (focus (simp; done)); (focus (first | exact ints_all _ | rfl))) | (apply cv_ptr_r rfl ?_ rfl rfl) | (simp only [List.nil_append, List.cons_append, List.length_cons, List.length_nil, Nat.zero_add, Nat.reduceAdd, List.set_cons_zero, List.set_cons_succ]; rfl) | rfl)) (by rfl) (by exact mul1_ok r m c hr hm hc A B hA hB fa fb i k hi hk) (by rfl) rfl rfl (by first | exact reV_bare _ _ rfl | (simp only [reV, reVs, List.all_cons, List.all_nil, AV.flat, Bool.and_true, Bool.true_and, Bool.false_and, Bool.and_false, Bool.false_eq_true, reduceIte, CS.de, List.getElem?_cons_zero, List.getElem?_cons_succ, List.getElem?_nil, List.length_cons, List.length_nil, Nat.reduceSub, Nat.reduceAdd, Nat.zero_add, Nat.add_zero, Nat.sub_self]; rfl)) rfl) (by rfl) ?_
            refine RunF.q (o_move rfl) rfl ?_
            refine RunF.q (o_extract rfl rfl) rfl ?_
            refine RunF.q (o_extract rfl rfl) rfl ?_
            refine RunF.q (o_assign rfl) rfl ?_
            refine RunF.q (o_assign rfl) rfl ?_
            refine AW.seq ?_
            refine AW.region (by kernel_rfl) ?_
            refine RunF.q (o_fieldAddr rfl tk24 rfl ts22 rfl) rfl ?_
            refine RunF.q (o_load rfl tk22 ts22 rfl rfl rfl) rfl ?_
            refine RunF.q (o_move rfl) rfl ?_
            refine RunF.w (o_buildSlice (nm := 6) tk22 ts30 tz30 rfl rfl rfl rfl) rfl ?_
            refine RunF.w (o_append_nil (nm := 7) tk22 tk22 ts30 tb30 tz30 rfl rfl rfl rfl ⟨by decide, Nat.le_refl 1, by decide, by decide⟩ rfl rfl rfl) rfl ?_
            refine RunF.q (o_fieldAddr rfl tk24 rfl ts22 rfl) rfl ?_
            refine RunF.wn (o_store rfl rfl rfl ts22 rfl rfl) rfl ?_
            refine AW.region (by kernel_rfl) ?_
            refine RunF.q (o_move rfl) rfl ?_
            refine RunF.q (o_move rfl) rfl ?_
            refine RunF.gm rfl (o_move rfl) ?_
            first | refine RunF.q (o_pick_t rfl rfl) rfl ?_ | refine RunF.q (o_pick_f rfl rfl) rfl ?_ | refine RunF.q (o_pick_b rfl rfl rfl) rfl ?_ | refine RunF.q (o_pick_or rfl rfl rfl) rfl ?_ | refine RunF.q (o_pick_and rfl rfl rfl) rfl ?_
            refine RunF.q (o_assign rfl) rfl ?_
            refine AW.region (by kernel_rfl) ?_
            refine RunF.q (o_add rfl rfl (by first | exact i64_in _ (by omega) | rfl)) rfl ?_
            refine RunF.q (o_move rfl) rfl ?_
            exact ⟨⟨(k + 1, ([] : List Int) ++ [(fun i k => (mulD A B m c i k).1) i k], y2 || (fun i k => (mulD A B m c i k).2) i k), by dsimp only; omega, by dsimp only; rw [← Nat.add_assoc, tab_succ _ hk, ← hy2], by dsimp only; rw [← Nat.add_assoc, anyT_succ _ hk, ← hy3]⟩, Wk.of [2, 3, 4, 7] [] rfl (.some rfl rfl (by first | (apply PRN.flat; rfl) | (apply PRN.flat; simp; done) | (repeat' first | exact PRN.nil | apply PRN.cons | exact RN.self rfl | exact RN.top | exact RN.ptr rfl | exact RN.sl rfl | exact RN.slf rfl | apply RN.agg | apply RN.fn | exact RNs.nil | apply RNs.cons)) (.some rfl rfl (by first | (apply PRN.flat; rfl) | (apply PRN.flat; simp; done) | (repeat' first | exact PRN.nil | apply PRN.cons | exact RN.self rfl | exact RN.top | exact RN.ptr rfl | exact RN.sl rfl | exact RN.slf rfl | apply RN.agg | apply RN.fn | exact RNs.nil | apply RNs.cons)) (.some rfl rfl (by first | (apply PRN.flat; rfl) | (apply PRN.flat; simp; done) | (repeat' first | exact PRN.nil | apply PRN.cons | exact RN.self rfl | exact RN.top | exact RN.ptr rfl | exact RN.sl rfl | exact RN.slf rfl | apply RN.agg | apply RN.fn | exact RNs.nil | apply RNs.cons)) (.some rfl rfl (by first | (apply PRN.flat; rfl) | (apply PRN.flat; simp; done) | (repeat' first | exact PRN.nil | apply PRN.cons | exact RN.self rfl | exact RN.top | exact RN.ptr rfl | exact RN.sl rfl | exact RN.slf rfl | apply RN.agg | apply RN.fn | exact RNs.nil | apply RNs.cons)) (.some rfl rfl (by first | (apply PRN.flat; rfl) | (apply PRN.flat; simp; done) | (repeat' first | exact PRN.nil | apply PRN.cons | exact RN.self rfl | exact RN.top | exact RN.ptr rfl | exact RN.sl rfl | exact RN.slf rfl | apply RN.agg | apply RN.fn | exact RNs.nil | apply RNs.cons)) (.some rfl rfl (by first | (apply PRN.flat; rfl) | (apply PRN.flat; simp; done) | (repeat' first | exact PRN.nil | apply PRN.cons | exact RN.self rfl | exact RN.top | exact RN.ptr rfl | exact RN.sl rfl | exact RN.slf rfl | apply RN.agg | apply RN.fn | exact RNs.nil | apply RNs.cons)) .nil)))))) (.cons rfl rfl (by first | (apply PRN.flat; rfl) | (apply PRN.flat; simp; done) | (repeat' first | exact PRN.nil | apply PRN.cons | exact RN.self rfl | exact RN.top | exact RN.ptr rfl | exact RN.sl rfl | exact RN.slf rfl | apply RN.agg | apply RN.fn | exact RNs.nil | apply RNs.cons)) (.cons rfl rfl (by first | (apply PRN.flat; rfl) | (apply PRN.flat; simp; done) | (repeat' first | exact PRN.nil | apply PRN.cons | exact RN.self rfl | exact RN.top | exact RN.ptr rfl | exact RN.sl rfl | exact RN.slf rfl | apply RN.agg | apply RN.fn | exact RNs.nil | apply RNs.cons)) .nil)) (.cons rfl (.fn .nil (.cons (.ptr rfl) (.cons (.ptr rfl) .nil))) (.cons rfl (.ptr rfl) (.cons rfl (.ptr rfl) (.cons rfl (.ptr rfl) (.cons rfl (.self rfl) (.cons rfl (.self rfl) (.cons rfl (.self rfl) (.cons rfl (.self rfl) (.cons rfl (.self rfl) (.cons rfl (.self rfl) .nil)))))))))), by dsimp only; omega⟩
          · refine AW.skip ?_
            refine AW.seq ?_
            refine AW.block ?_
            refine AW.seq ?_
            refine AW.region (by kernel_rfl) ?_
            refine RunF.q (o_move rfl) rfl ?_
            refine RunF.q (o_assign rfl) rfl ?_
            refine AW.seq ?_
            refine AW.region (by kernel_rfl) ?_
            refine RunF.q (o_move rfl) rfl ?_
            refine RunF.q (o_move rfl) rfl ?_
            refine RunF.q (o_move rfl) rfl ?_
            refine RunF.q (o_call (no := 6) (nr := 2) rfl rfl rfl (by (repeat' first | exact cl_nil | exact cL_flat rfl | exact cL_flat (ints_flat _) | apply cL_vs | apply cl_cons | exact cv_flat rfl | apply cv_agg | apply cv_ptr_o | apply cv_sl_o rfl | apply cv_func | exact cO_old rfl | (apply cO_new; (focus rfl); (focus rfl)) | (apply cv_sl_r; (focus rfl); (focus rfl); (focus (simp; done)); (focus (first | exact ints_all _ | rfl))) | (apply cv_ptr_r rfl ?_ rfl rfl) | (simp only [List.nil_append, List.cons_append, List.length_cons, List.length_nil, Nat.zero_add, Nat.reduceAdd, List.set_cons_zero, List.set_cons_succ]; rfl) | rfl)) (by rfl) (by exact mul1_ok r m c hr hm hc A B hA hB fa fb i k hi hk) (by rfl) rfl rfl (by first | exact reV_bare _ _ rfl | (simp only [reV, reVs, List.all_cons, List.all_nil, AV.flat, Bool.and_true, Bool.true_and, Bool.false_and, Bool.and_false, Bool.false_eq_true, reduceIte, CS.de, List.getElem?_cons_zero, List.getElem?_cons_succ, List.getElem?_nil, List.length_cons, List.length_nil, Nat.reduceSub, Nat.reduceAdd, Nat.zero_add, Nat.add_zero, Nat.sub_self]; rfl)) rfl) (by rfl) ?_
            refine RunF.q (o_move rfl) rfl ?_
            refine RunF.q (o_extract rfl rfl) rfl ?_
            refine RunF.q (o_extract rfl rfl) rfl ?_
            refine RunF.q (o_assign rfl) rfl ?_
            refine RunF.q (o_assign rfl) rfl ?_
            refine AW.seq ?_
            refine AW.region (by kernel_rfl) ?_
            refine RunF.q (o_fieldAddr rfl tk24 rfl ts22 rfl) rfl ?_
            refine RunF.q (o_load rfl tk22 ts22 rfl rfl rfl) rfl ?_
            refine RunF.q (o_move rfl) rfl ?_
            refine RunF.w (o_buildSlice (nm := 6) tk22 ts30 tz30 rfl rfl rfl rfl) rfl ?_
            refine RunF.w (o_append_own (nm := 7) (mn := ((a :: l) ++ [(fun i k => (mulD A B m c i k).1) i k]).length) tk22 tk22 ts30 tb30 tz30 rfl rfl rfl rfl rfl ⟨by decide, Nat.le_refl 1, by simp, by simp only [List.length_cons] at hlen ⊢; omega, by simp only [List.length_cons] at hlen ⊢; omega⟩ rfl (ints_all (a :: l)) rfl rfl (by simp)) rfl ?_
            refine RunF.q (o_fieldAddr rfl tk24 rfl ts22 rfl) rfl ?_
            refine RunF.wn (o_store rfl rfl rfl ts22 rfl rfl) rfl ?_
            refine AW.region (by kernel_rfl) ?_
            refine RunF.q (o_move rfl) rfl ?_
            refine RunF.q (o_move rfl) rfl ?_
            refine RunF.gm rfl (o_move rfl) ?_
            first | refine RunF.q (o_pick_t rfl rfl) rfl ?_ | refine RunF.q (o_pick_f rfl rfl) rfl ?_ | refine RunF.q (o_pick_b rfl rfl rfl) rfl ?_ | refine RunF.q (o_pick_or rfl rfl rfl) rfl ?_ | refine RunF.q (o_pick_and rfl rfl rfl) rfl ?_
            refine RunF.q (o_assign rfl) rfl ?_
            refine AW.region (by kernel_rfl) ?_
            refine RunF.q (o_add rfl rfl (by first | exact i64_in _ (by omega) | rfl)) rfl ?_
            refine RunF.q (o_move rfl) rfl ?_
            exact ⟨⟨(k + 1, (a :: l) ++ [(fun i k => (mulD A B m c i k).1) i k], y2 || (fun i k => (mulD A B m c i k).2) i k), by dsimp only; omega, by dsimp only; rw [← Nat.add_assoc, tab_succ _ hk, ← hy2], by dsimp only; rw [← Nat.add_assoc, anyT_succ _ hk, ← hy3]⟩, Wk.of [2, 3, 4, 7] [] rfl (.some rfl rfl (by first | (apply PRN.flat; rfl) | (apply PRN.flat; simp; done) | (repeat' first | exact PRN.nil | apply PRN.cons | exact RN.self rfl | exact RN.top | exact RN.ptr rfl | exact RN.sl rfl | exact RN.slf rfl | apply RN.agg | apply RN.fn | exact RNs.nil | apply RNs.cons)) (.some rfl rfl (by first | (apply PRN.flat; rfl) | (apply PRN.flat; simp; done) | (repeat' first | exact PRN.nil | apply PRN.cons | exact RN.self rfl | exact RN.top | exact RN.ptr rfl | exact RN.sl rfl | exact RN.slf rfl | apply RN.agg | apply RN.fn | exact RNs.nil | apply RNs.cons)) (.some rfl rfl (by first | (apply PRN.flat; rfl) | (apply PRN.flat; simp; done) | (repeat' first | exact PRN.nil | apply PRN.cons | exact RN.self rfl | exact RN.top | exact RN.ptr rfl | exact RN.sl rfl | exact RN.slf rfl | apply RN.agg | apply RN.fn | exact RNs.nil | apply RNs.cons)) (.some rfl rfl (by first | (apply PRN.flat; rfl) | (apply PRN.flat; simp; done) | (repeat' first | exact PRN.nil | apply PRN.cons | exact RN.self rfl | exact RN.top | exact RN.ptr rfl | exact RN.sl rfl | exact RN.slf rfl | apply RN.agg | apply RN.fn | exact RNs.nil | apply RNs.cons)) (.some rfl rfl (by first | (apply PRN.flat; rfl) | (apply PRN.flat; simp; done) | (repeat' first | exact PRN.nil | apply PRN.cons | exact RN.self rfl | exact RN.top | exact RN.ptr rfl | exact RN.sl rfl | exact RN.slf rfl | apply RN.agg | apply RN.fn | exact RNs.nil | apply RNs.cons)) (.some rfl rfl (PRN.snoc (a :: l) ((fun i k => (mulD A B m c i k).1) i k)) .nil)))))) (.cons rfl rfl (by first | (apply PRN.flat; rfl) | (apply PRN.flat; simp; done) | (repeat' first | exact PRN.nil | apply PRN.cons | exact RN.self rfl | exact RN.top | exact RN.ptr rfl | exact RN.sl rfl | exact RN.slf rfl | apply RN.agg | apply RN.fn | exact RNs.nil | apply RNs.cons)) (.cons rfl rfl (by first | (apply PRN.flat; rfl) | (apply PRN.flat; simp; done) | (repeat' first | exact PRN.nil | apply PRN.cons | exact RN.self rfl | exact RN.top | exact RN.ptr rfl | exact RN.sl rfl | exact RN.slf rfl | apply RN.agg | apply RN.fn | exact RNs.nil | apply RNs.cons)) .nil)) (.cons rfl (.fn .nil (.cons (.ptr rfl) (.cons (.ptr rfl) .nil))) (.cons rfl (.ptr rfl) (.cons rfl (.ptr rfl) (.cons rfl (.ptr rfl) (.cons rfl (.self rfl) (.cons rfl (.self rfl) (.cons rfl (.self rfl) (.cons rfl (.self rfl) (.cons rfl (.self rfl) (.cons rfl (.self rfl) .nil)))))))))), by dsimp only; omega⟩
        · try simp only [decide_eq_true_eq, decide_eq_false_iff_not, bne_iff_ne, beq_iff_eq, bne_eq_false_iff_eq, beq_eq_false_iff_ne, ne_eq, Bool.not_eq_true', Bool.not_eq_false'] at hc1
          refine AW.exit ?_
          refine AW.region (by kernel_rfl) ?_
          refine RunF.q (o_add rfl rfl (by first | exact i64_in _ (by omega) | rfl)) rfl ?_
          refine RunF.q (o_move rfl) rfl ?_
          exact ⟨⟨(i + 1, y1, y2), by dsimp only; omega, by dsimp only; rw [hy2, Nat.succ_mul]; congr 1; omega, by dsimp only; rw [hy3, Nat.succ_mul]; congr 1; omega⟩, Wk.same rfl (.cons rfl (.cons rfl (.cons rfl (.cons rfl (.cons rfl (.cons rfl (.cons rfl .nil))))))), by dsimp only; omega⟩
      · exact Wk.same rfl (.cons rfl (.cons rfl (.cons rfl (.cons rfl (.cons rfl (.cons rfl (.cons rfl (.cons rfl (.cons rfl (.cons rfl .nil))))))))))
    · try simp only [decide_eq_true_eq, decide_eq_false_iff_not, bne_iff_ne, beq_iff_eq, bne_eq_false_iff_eq, beq_eq_false_iff_ne, ne_eq, Bool.not_eq_true', Bool.not_eq_false'] at hc0
      have ei : i = r := by omega
      subst ei
      obtain ⟨a, l, rfl⟩ : ∃ a l, L0 = a :: l := by
        cases L0 with
        | nil => have := congrArg List.length hx2; rw [tab_length] at this; have := Nat.mul_pos hR hC; simp at *; omega
        | cons a l => exact ⟨a, l, rfl⟩
      refine AW.exit ?_
      refine AW.seq ?_
      refine AW.region (by kernel_rfl) ?_
      refine RunF.q (o_load_agg rfl tk24 ts24 rfl rfl rfl rfl) rfl ?_
      refine RunF.q (o_move rfl) rfl ?_
      refine RunF.wn (o_store rfl rfl rfl ts24 rfl rfl) rfl ?_
      refine RunF.q (o_assign rfl) rfl ?_
      refine AW.ret ?_
      apply FinQ.ret [5] []
      · exact (ress_agg rfl tk24 ts24 rfl rfl rfl (ress_tmp rfl ress_nil))
      · rfl
      · exact (.some rfl rfl (by first | (apply PRN.flat; rfl) | (apply PRN.flat; simp; done) | (repeat' first | exact PRN.nil | apply PRN.cons | exact RN.self rfl | exact RN.top | exact RN.ptr rfl | exact RN.sl rfl | exact RN.slf rfl | apply RN.agg | apply RN.fn | exact RNs.nil | apply RNs.cons)) (.some rfl rfl (by first | (apply PRN.flat; rfl) | (apply PRN.flat; simp; done) | (repeat' first | exact PRN.nil | apply PRN.cons | exact RN.self rfl | exact RN.top | exact RN.ptr rfl | exact RN.sl rfl | exact RN.slf rfl | apply RN.agg | apply RN.fn | exact RNs.nil | apply RNs.cons)) (.some rfl rfl (by rw [← hx2]; exact PRN.flat (ints_flat _)) .nil)))
      · exact (.cons rfl rfl (by first | (apply PRN.flat; rfl) | (apply PRN.flat; simp; done) | (repeat' first | exact PRN.nil | apply PRN.cons | exact RN.self rfl | exact RN.top | exact RN.ptr rfl | exact RN.sl rfl | exact RN.slf rfl | apply RN.agg | apply RN.fn | exact RNs.nil | apply RNs.cons)) (.cons rfl rfl (by first | (apply PRN.flat; rfl) | (apply PRN.flat; simp; done) | (repeat' first | exact PRN.nil | apply PRN.cons | exact RN.self rfl | exact RN.top | exact RN.ptr rfl | exact RN.sl rfl | exact RN.slf rfl | apply RN.agg | apply RN.fn | exact RNs.nil | apply RNs.cons)) .nil))
      · rw [← hx2, ← hx3]; exact (by repeat' first | exact RN.self rfl | exact RN.top | exact RN.ptr rfl | exact RN.sl rfl | exact RN.slf rfl | apply RN.agg | apply RN.tuple | apply RN.fn | exact RNs.nil | apply RNs.cons | (apply RNs.flat; simp; done))
  · exact Wk.of [2, 3, 4, 999] [] rfl (.some rfl rfl (by first | (apply PRN.flat; rfl) | (apply PRN.flat; simp; done) | (repeat' first | exact PRN.nil | apply PRN.cons | exact RN.self rfl | exact RN.top | exact RN.ptr rfl | exact RN.sl rfl | exact RN.slf rfl | apply RN.agg | apply RN.fn | exact RNs.nil | apply RNs.cons)) (.some rfl rfl (by first | (apply PRN.flat; rfl) | (apply PRN.flat; simp; done) | (repeat' first | exact PRN.nil | apply PRN.cons | exact RN.self rfl | exact RN.top | exact RN.ptr rfl | exact RN.sl rfl | exact RN.slf rfl | apply RN.agg | apply RN.fn | exact RNs.nil | apply RNs.cons)) (.some rfl rfl (by first | (apply PRN.flat; rfl) | (apply PRN.flat; simp; done) | (repeat' first | exact PRN.nil | apply PRN.cons | exact RN.self rfl | exact RN.top | exact RN.ptr rfl | exact RN.sl rfl | exact RN.slf rfl | apply RN.agg | apply RN.fn | exact RNs.nil | apply RNs.cons)) (.some rfl rfl (by first | (apply PRN.flat; rfl) | (apply PRN.flat; simp; done) | (repeat' first | exact PRN.nil | apply PRN.cons | exact RN.self rfl | exact RN.top | exact RN.ptr rfl | exact RN.sl rfl | exact RN.slf rfl | apply RN.agg | apply RN.fn | exact RNs.nil | apply RNs.cons)) (.some rfl rfl (by first | (apply PRN.flat; rfl) | (apply PRN.flat; simp; done) | (repeat' first | exact PRN.nil | apply PRN.cons | exact RN.self rfl | exact RN.top | exact RN.ptr rfl | exact RN.sl rfl | exact RN.slf rfl | apply RN.agg | apply RN.fn | exact RNs.nil | apply RNs.cons)) (.none .nil)))))) (.cons rfl rfl (by first | (apply PRN.flat; rfl) | (apply PRN.flat; simp; done) | (repeat' first | exact PRN.nil | apply PRN.cons | exact RN.self rfl | exact RN.top | exact RN.ptr rfl | exact RN.sl rfl | exact RN.slf rfl | apply RN.agg | apply RN.fn | exact RNs.nil | apply RNs.cons)) (.cons rfl rfl (by first | (apply PRN.flat; rfl) | (apply PRN.flat; simp; done) | (repeat' first | exact PRN.nil | apply PRN.cons | exact RN.self rfl | exact RN.top | exact RN.ptr rfl | exact RN.sl rfl | exact RN.slf rfl | apply RN.agg | apply RN.fn | exact RNs.nil | apply RNs.cons)) .nil)) (.cons rfl (.fn .nil (.cons (.ptr rfl) (.cons (.ptr rfl) .nil))) (.cons rfl (.ptr rfl) (.cons rfl (.ptr rfl) (.cons rfl (.ptr rfl) (.cons rfl (.self rfl) (.cons rfl (.self rfl) (.cons rfl (.self rfl) .nil)))))))

set_option maxHeartbeats 1000000 in
theorem mmul_ok (r m c : Nat) (hr : r ≤ 8) (hm : m ≤ 8) (hc : c ≤ 8) (A B : List Int) (hA : A.length = r * m) (hB : B.length = m * c) (fa fb : Bool) (hR : 0 < r) (hC : 0 < c) : SoundC Try.prog 32 [.agg [.int .i64 r, .int .i64 m, .sl (.r 0) 0 A.length 1 fa], .agg [.int .i64 m, .int .i64 c, .sl (.r 1) 0 B.length 1 fb]] ⟨[ints A, ints B], []⟩ { val := .tuple [.agg [.int .i64 r, .int .i64 c, .sl (.o 0) 0 (mulL A B r m c).length 1 false], .bool (mulX A B r m c), .int .i64 0], newo := [ints (mulL A B r m c)] } := by
  refine SoundC.of (N := 27) Try.func32 rfl rfl rfl rfl ?_
  refine AW.seq ?_
  refine AW.region (by kernel_rfl) ?_
  refine RunF.w (o_box (nm := 0) rfl rfl rfl) (by simp only [H.app, appO, patchAll, patch, List.map_cons, List.map_nil, List.append_nil, List.nil_append, List.cons_append, List.set_cons_zero, List.set_cons_succ, Option.map_some, Option.map_none, List.contains_cons, List.contains_nil, Nat.reduceAdd, Nat.reduceEqDiff, Nat.reduceBEq, Bool.or_false, Bool.false_eq_true, reduceIte, Nat.zero_add]; rfl) ?_
  refine RunF.w (o_box (nm := 1) rfl rfl rfl) (by simp only [H.app, appO, patchAll, patch, List.map_cons, List.map_nil, List.append_nil, List.nil_append, List.cons_append, List.set_cons_zero, List.set_cons_succ, Option.map_some, Option.map_none, List.contains_cons, List.contains_nil, Nat.reduceAdd, Nat.reduceEqDiff, Nat.reduceBEq, Bool.or_false, Bool.false_eq_true, reduceIte, Nat.zero_add]; rfl) ?_
  refine RunF.w (o_alloc (nm := 2) tz24 rfl) (by simp only [H.app, appO, patchAll, patch, List.map_cons, List.map_nil, List.append_nil, List.nil_append, List.cons_append, List.set_cons_zero, List.set_cons_succ, Option.map_some, Option.map_none, List.contains_cons, List.contains_nil, Nat.reduceAdd, Nat.reduceEqDiff, Nat.reduceBEq, Bool.or_false, Bool.false_eq_true, reduceIte, Nat.zero_add]; rfl) ?_
  refine RunF.q (o_assign rfl) rfl ?_
  refine RunF.q (o_assign rfl) rfl ?_
  refine AW.seq ?_
  refine AW.seq ?_
  refine AW.region (by kernel_rfl) ?_
  refine RunF.q (o_fieldAddr rfl tk24 rfl ts3 rfl) rfl ?_
  refine RunF.q (o_load rfl tk3 ts3 rfl rfl rfl) rfl ?_
  refine RunF.q (o_fieldAddr rfl tk24 rfl ts3 rfl) rfl ?_
  refine RunF.q (o_load rfl tk3 ts3 rfl rfl rfl) rfl ?_
  refine RunF.q (o_neq rfl rfl) rfl ?_
  refine AW.cond rfl (fun hc0 => absurd hc0 (by simp)) (fun hc0 => ?_)
  refine AW.skip ?_
  refine AW.seq ?_
  refine AW.region (by kernel_rfl) ?_
  refine RunF.q (o_fieldAddr rfl tk24 rfl ts3 rfl) rfl ?_
  refine RunF.q (o_load rfl tk3 ts3 rfl rfl rfl) rfl ?_
  refine RunF.q (o_fieldAddr rfl tk24 rfl ts3 rfl) rfl ?_
  refine RunF.q (o_load rfl tk3 ts3 rfl rfl rfl) rfl ?_
  refine RunF.q (o_build tk132 tz132 pl132 rfl rfl) rfl ?_
  refine RunF.q (o_makeFunc rfl rfl) rfl ?_
  refine RunF.w (o_call (no := 3) (nr := 2) rfl rfl rfl (by (repeat' first | exact cl_nil | exact cL_flat rfl | exact cL_flat (ints_flat _) | apply cL_vs | apply cl_cons | exact cv_flat rfl | apply cv_agg | apply cv_ptr_o | apply cv_sl_o rfl | apply cv_func | exact cO_old rfl | (apply cO_new; (focus rfl); (focus rfl)) | (apply cv_sl_r; (focus rfl); (focus rfl); (focus (simp; done)); (focus (first | exact ints_all _ | rfl))) | (apply cv_ptr_r rfl ?_ rfl rfl) | (simp only [List.nil_append, List.cons_append, List.length_cons, List.length_nil, Nat.zero_add, Nat.reduceAdd, List.set_cons_zero, List.set_cons_succ]; rfl) | rfl)) (by rfl) (by exact madeM_ok r m c hr hm hc A B hA hB fa fb hR hC) (by rfl) rfl rfl (by first | exact reV_bare _ _ rfl | (simp only [reV, reVs, List.all_cons, List.all_nil, AV.flat, Bool.and_true, Bool.true_and, Bool.false_and, Bool.and_false, Bool.false_eq_true, reduceIte, CS.de, List.getElem?_cons_zero, List.getElem?_cons_succ, List.getElem?_nil, List.length_cons, List.length_nil, Nat.reduceSub, Nat.reduceAdd, Nat.zero_add, Nat.add_zero, Nat.sub_self]; rfl)) (by simp only [CS.eff, rdsR, rdsO, List.map_cons, List.map_nil, reL_ints, num, List.nil_append, List.append_nil, List.cons_append]; rfl)) (by simp only [H.app, appO, patchAll, patch, List.map_cons, List.map_nil, List.append_nil, List.nil_append, List.cons_append, List.set_cons_zero, List.set_cons_succ, Option.map_some, Option.map_none, List.contains_cons, List.contains_nil, Nat.reduceAdd, Nat.reduceEqDiff, Nat.reduceBEq, Bool.or_false, Bool.false_eq_true, reduceIte, Nat.zero_add]; rfl) ?_
  refine RunF.q (o_move rfl) rfl ?_
  refine RunF.q (o_extract rfl rfl) rfl ?_
  refine RunF.q (o_extract rfl rfl) rfl ?_
  refine RunF.w (o_alloc (nm := 4) tz24 rfl) (by simp only [H.app, appO, patchAll, patch, List.map_cons, List.map_nil, List.append_nil, List.nil_append, List.cons_append, List.set_cons_zero, List.set_cons_succ, Option.map_some, Option.map_none, List.contains_cons, List.contains_nil, Nat.reduceAdd, Nat.reduceEqDiff, Nat.reduceBEq, Bool.or_false, Bool.false_eq_true, reduceIte, Nat.zero_add]; rfl) ?_
  refine RunF.wn (o_store rfl rfl rfl ts24 rfl rfl) (by simp only [H.app, appO, patchAll, patch, List.map_cons, List.map_nil, List.append_nil, List.nil_append, List.cons_append, List.set_cons_zero, List.set_cons_succ, Option.map_some, Option.map_none, List.contains_cons, List.contains_nil, Nat.reduceAdd, Nat.reduceEqDiff, Nat.reduceBEq, Bool.or_false, Bool.false_eq_true, reduceIte, Nat.zero_add]; rfl) ?_
  refine RunF.q (o_assign rfl) rfl ?_
  refine AW.seq ?_
  refine AW.region (by kernel_rfl) ?_
  refine RunF.q (o_load_agg rfl tk24 ts24 rfl rfl rfl (by simp only [List.take_succ_cons, List.drop_succ_cons, List.drop_zero, List.take_zero, List.take_nil, List.drop_nil, Nat.zero_add, Nat.reduceAdd]; rfl)) rfl ?_
  refine RunF.q (o_move rfl) rfl ?_
  refine RunF.wn (o_store rfl rfl rfl ts24 rfl rfl) (by simp only [H.app, appO, patchAll, patch, List.map_cons, List.map_nil, List.append_nil, List.nil_append, List.cons_append, List.set_cons_zero, List.set_cons_succ, Option.map_some, Option.map_none, List.contains_cons, List.contains_nil, Nat.reduceAdd, Nat.reduceEqDiff, Nat.reduceBEq, Bool.or_false, Bool.false_eq_true, reduceIte, Nat.zero_add]; rfl) ?_
  refine RunF.q (o_assign rfl) rfl ?_
  refine RunF.q (o_assign rfl) rfl ?_
  refine AW.ret ?_
  exact FinQ.ret [3] [] (ress_agg rfl tk24 ts24 rfl rfl rfl (ress_tmp rfl (ress_tmp rfl ress_nil))) rfl (.some rfl rfl (PRN.flat (ints_flat _)) .nil) (.cons rfl rfl (by first | (apply PRN.flat; rfl) | (apply PRN.flat; simp; done) | (repeat' first | exact PRN.nil | apply PRN.cons | exact RN.self rfl | exact RN.top | exact RN.ptr rfl | exact RN.sl rfl | exact RN.slf rfl | apply RN.agg | apply RN.fn | exact RNs.nil | apply RNs.cons)) (.cons rfl rfl (by first | (apply PRN.flat; rfl) | (apply PRN.flat; simp; done) | (repeat' first | exact PRN.nil | apply PRN.cons | exact RN.self rfl | exact RN.top | exact RN.ptr rfl | exact RN.sl rfl | exact RN.slf rfl | apply RN.agg | apply RN.fn | exact RNs.nil | apply RNs.cons)) .nil)) (by repeat' first | exact RN.self rfl | exact RN.top | exact RN.ptr rfl | exact RN.sl rfl | exact RN.slf rfl | apply RN.agg | apply RN.tuple | apply RN.fn | exact RNs.nil | apply RNs.cons | (apply RNs.flat; simp; done))

end Go.Proofs.Ytnkijhpikeokfaa
