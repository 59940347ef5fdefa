/- What is made even, by its contract. -/
import Derived.Test.YtnkijhpikeokfaaF3
import Derived.Test.YtnkijhpikeokfaaF5
import Derived.Test.YtnkijhpikeokfaaF7
set_option linter.unusedSimpArgs false
set_option linter.unusedVariables false
namespace Go.Proofs.Ytnkijhpikeokfaa
open Go Go.Sym Go.IntWalk

theorem trL_length (L : List Int) (c r : Nat) : (trL L c r).length = c * r := by simp [trL, tab_length]
theorem getD_inQ {L : List Int} (h : ∀ x ∈ L, inQ x) (i : Nat) : inQ (L.getD i 0) := by
  rw [List.getD_eq_getElem?_getD]
  cases hi : L[i]? with
  | none => simp [inQ]
  | some x => exact h x (List.mem_of_getElem? hi)
theorem trL_inQ {L : List Int} (h : ∀ x ∈ L, inQ x) (c r : Nat) : ∀ y ∈ trL L c r, inQ y := by
  intro y hy
  simp only [trL, tab, List.mem_map] at hy
  obtain ⟨j, _, rfl⟩ := hy
  exact getD_inQ h _
def evenD (x y : Int) : Int × Bool := (half1 (x + y), false)
def evenL (L : List Int) (r : Nat) : List Int := zipM evenD L (trL L r r) r r
theorem zipX_even (A B : List Int) (r c : Nat) : zipX evenD A B r c = false := by simp [zipX, anyT, evenD]
theorem evenD_ok {A B : List Int} (hA : ∀ x ∈ A, inQ x) (hB : ∀ x ∈ B, inQ x) : ∀ x ∈ A, ∀ y ∈ B, SoundC Try.prog 74 [.int .i64 x, .int .i64 y] ⟨[], []⟩ { val := .tuple [.int .i64 (evenD x y).1, .bool (evenD x y).2] } :=
  fun x hx y hy => even1_ok x y (hA x hx) (hB y hy)

set_option maxHeartbeats 1000000 in
theorem meven_ok (r : Nat) (hr : r ≤ 8) (hR : 0 < r) (L : List Int) (hL : L.length = r * r) (f : Bool) (hQ : ∀ x ∈ L, inQ x) : SoundC Try.prog 29 [.agg [.int .i64 r, .int .i64 r, .sl (.r 0) 0 L.length 1 f]] ⟨[ints L], []⟩ { val := .tuple [.agg [.int .i64 r, .int .i64 r, .sl (.o 0) 0 (evenL L r).length 1 false], .bool false, .int .i64 0], newo := [ints (evenL L r)] } := by
  have ez := zipX_even L (trL L r r) r r
  refine SoundC.of (N := 12) Try.func29 rfl rfl rfl rfl ?_
  refine AW.seq ?_
  refine AW.region (by kernel_rfl) ?_
  refine RunF.w (o_box (nm := 0) rfl rfl rfl) (by simp only [H.app, appO, patchAll, patch, List.map_cons, List.map_nil, List.append_nil, List.nil_append, List.cons_append, List.set_cons_zero, List.set_cons_succ, Option.map_some, Option.map_none, List.contains_cons, List.contains_nil, Nat.reduceAdd, Nat.reduceEqDiff, Nat.reduceBEq, Bool.or_false, Bool.false_eq_true, reduceIte, Nat.zero_add]; rfl) ?_
  refine RunF.w (o_alloc (nm := 1) tz24 rfl) (by simp only [H.app, appO, patchAll, patch, List.map_cons, List.map_nil, List.append_nil, List.nil_append, List.cons_append, List.set_cons_zero, List.set_cons_succ, Option.map_some, Option.map_none, List.contains_cons, List.contains_nil, Nat.reduceAdd, Nat.reduceEqDiff, Nat.reduceBEq, Bool.or_false, Bool.false_eq_true, reduceIte, Nat.zero_add]; rfl) ?_
  refine RunF.q (o_assign rfl) rfl ?_
  refine RunF.q (o_assign rfl) rfl ?_
  refine AW.seq ?_
  refine AW.draws (by kernel_rfl) (by kernel_rfl) ?_
  refine RunV.q (o_load_agg rfl tk24 ts24 rfl rfl rfl (by simp only [List.take_succ_cons, List.drop_succ_cons, List.drop_zero, List.take_zero, List.take_nil, List.drop_nil, Nat.zero_add, Nat.reduceAdd]; rfl)) rfl ?_
  refine RunV.q (o_load_agg rfl tk24 ts24 rfl rfl rfl (by simp only [List.take_succ_cons, List.drop_succ_cons, List.drop_zero, List.take_zero, List.take_nil, List.drop_nil, Nat.zero_add, Nat.reduceAdd]; rfl)) rfl ?_
  refine RunV.w (o_call (no := 2) (nr := 1) rfl rfl rfl (by (repeat' first | exact cl_nil | exact cL_flat rfl | exact cL_flat (ints_flat _) | apply cL_vs | apply cl_cons | exact cv_flat rfl | apply cv_agg | apply cv_ptr_o | apply cv_sl_o rfl | apply cv_func | exact cO_old rfl | (apply cO_new; (focus rfl); (focus rfl)) | (apply cv_sl_r; (focus rfl); (focus rfl); (focus (simp; done)); (focus (first | exact ints_all _ | rfl))) | (apply cv_ptr_r rfl ?_ rfl rfl) | (simp only [List.nil_append, List.cons_append, List.length_cons, List.length_nil, Nat.zero_add, Nat.reduceAdd, List.set_cons_zero, List.set_cons_succ]; rfl) | rfl)) (by rfl) (by exact trans_ok r r hr hr L hL f hR hR) (by rfl) rfl rfl (by first | exact reV_bare _ _ rfl | (simp only [reV, reVs, List.all_cons, List.all_nil, AV.flat, Bool.and_true, Bool.true_and, Bool.false_and, Bool.and_false, Bool.false_eq_true, reduceIte, CS.de, List.getElem?_cons_zero, List.getElem?_cons_succ, List.getElem?_nil, List.length_cons, List.length_nil, Nat.reduceSub, Nat.reduceAdd, Nat.zero_add, Nat.add_zero, Nat.sub_self]; rfl)) (by simp only [CS.eff, rdsR, rdsO, List.map_cons, List.map_nil, reL_ints, num, List.nil_append, List.append_nil, List.cons_append]; rfl)) (by simp only [H.app, appO, patchAll, patch, List.map_cons, List.map_nil, List.append_nil, List.nil_append, List.cons_append, List.set_cons_zero, List.set_cons_succ, Option.map_some, Option.map_none, List.contains_cons, List.contains_nil, Nat.reduceAdd, Nat.reduceEqDiff, Nat.reduceBEq, Bool.or_false, Bool.false_eq_true, reduceIte, Nat.zero_add]; rfl) ?_
  refine RunV.w (o_call (no := 3) (nr := 1) rfl rfl rfl (by (repeat' first | exact cl_nil | exact cL_flat rfl | exact cL_flat (ints_flat _) | apply cL_vs | apply cl_cons | exact cv_flat rfl | apply cv_agg | apply cv_ptr_o | apply cv_sl_o rfl | apply cv_func | exact cO_old rfl | (apply cO_new; (focus rfl); (focus rfl)) | (apply cv_sl_r; (focus rfl); (focus rfl); (focus (simp; done)); (focus (first | exact ints_all _ | rfl))) | (apply cv_ptr_r rfl ?_ rfl rfl) | (simp only [List.nil_append, List.cons_append, List.length_cons, List.length_nil, Nat.zero_add, Nat.reduceAdd, List.set_cons_zero, List.set_cons_succ]; rfl) | rfl)) (by rfl) (by exact each_ok r r hr hr hR hR L (trL L r r) hL (trL_length L r r) f false _ evenD (evenD_ok hQ (trL_inQ hQ r r))) (by rfl) rfl rfl (by first | exact reV_bare _ _ rfl | (simp only [reV, reVs, List.all_cons, List.all_nil, AV.flat, Bool.and_true, Bool.true_and, Bool.false_and, Bool.and_false, Bool.false_eq_true, reduceIte, CS.de, List.getElem?_cons_zero, List.getElem?_cons_succ, List.getElem?_nil, List.length_cons, List.length_nil, Nat.reduceSub, Nat.reduceAdd, Nat.zero_add, Nat.add_zero, Nat.sub_self]; rfl)) (by simp only [CS.eff, rdsR, rdsO, List.map_cons, List.map_nil, reL_ints, num, List.nil_append, List.append_nil, List.cons_append]; rfl)) (by simp only [H.app, appO, patchAll, patch, List.map_cons, List.map_nil, List.append_nil, List.nil_append, List.cons_append, List.set_cons_zero, List.set_cons_succ, Option.map_some, Option.map_none, List.contains_cons, List.contains_nil, Nat.reduceAdd, Nat.reduceEqDiff, Nat.reduceBEq, Bool.or_false, Bool.false_eq_true, reduceIte, Nat.zero_add]; rfl) ?_
  refine RunV.q (o_extract rfl rfl) rfl ?_
  refine RunV.q (o_extract rfl rfl) rfl ?_
  refine RunV.q (o_extract rfl rfl) rfl ?_
  refine RunV.wn (o_store rfl rfl rfl ts24 rfl rfl) (by simp only [H.app, appO, patchAll, patch, List.map_cons, List.map_nil, List.append_nil, List.nil_append, List.cons_append, List.set_cons_zero, List.set_cons_succ, Option.map_some, Option.map_none, List.contains_cons, List.contains_nil, Nat.reduceAdd, Nat.reduceEqDiff, Nat.reduceBEq, Bool.or_false, Bool.false_eq_true, reduceIte, Nat.zero_add]; rfl) ?_
  refine RunV.q (o_assign rfl) rfl ?_
  refine RunV.q (o_assign rfl) rfl ?_
  refine And.intro (by kernel_rfl) ?_
  refine AW.ret ?_
  exact FinQ.ret [3] [] (ress_agg rfl tk24 ts24 rfl rfl rfl (ress_tmp rfl (ress_tmp rfl ress_nil))) rfl (.some rfl rfl (PRN.flat (ints_flat _)) .nil) (.cons rfl rfl (by first | (apply PRN.flat; rfl) | (apply PRN.flat; simp; done) | (repeat' first | exact PRN.nil | apply PRN.cons | exact RN.self rfl | exact RN.top | exact RN.ptr rfl | exact RN.sl rfl | exact RN.slf rfl | apply RN.agg | apply RN.fn | exact RNs.nil | apply RNs.cons)) .nil) (by rw [ez]; exact (by repeat' first | exact RN.self rfl | exact RN.top | exact RN.ptr rfl | exact RN.sl rfl | exact RN.slf rfl | apply RN.agg | apply RN.tuple | apply RN.fn | exact RNs.nil | apply RNs.cons | (apply RNs.flat; simp; done)))

set_option maxHeartbeats 1000000 in
theorem meven_no (r c : Nat) (hr : r ≤ 8) (hc : c ≤ 8) (hR : 0 < r) (hC : 0 < c) (hne : r ≠ c) (L : List Int) (hL : L.length = r * c) (f : Bool) : SoundC Try.prog 29 [.agg [.int .i64 r, .int .i64 c, .sl (.r 0) 0 L.length 1 f]] ⟨[ints L], []⟩ { val := .tuple [.agg [.int .i64 0, .int .i64 0, .nilsl], .bool false, .int .i64 9] } := by
  refine SoundC.of (N := 12) Try.func29 rfl rfl rfl rfl ?_
  refine AW.seq ?_
  refine AW.region (by kernel_rfl) ?_
  refine RunF.w (o_box (nm := 0) rfl rfl rfl) (by simp only [H.app, appO, patchAll, patch, List.map_cons, List.map_nil, List.append_nil, List.nil_append, List.cons_append, List.set_cons_zero, List.set_cons_succ, Option.map_some, Option.map_none, List.contains_cons, List.contains_nil, Nat.reduceAdd, Nat.reduceEqDiff, Nat.reduceBEq, Bool.or_false, Bool.false_eq_true, reduceIte, Nat.zero_add]; rfl) ?_
  refine RunF.w (o_alloc (nm := 1) tz24 rfl) (by simp only [H.app, appO, patchAll, patch, List.map_cons, List.map_nil, List.append_nil, List.nil_append, List.cons_append, List.set_cons_zero, List.set_cons_succ, Option.map_some, Option.map_none, List.contains_cons, List.contains_nil, Nat.reduceAdd, Nat.reduceEqDiff, Nat.reduceBEq, Bool.or_false, Bool.false_eq_true, reduceIte, Nat.zero_add]; rfl) ?_
  refine RunF.q (o_assign rfl) rfl ?_
  refine RunF.q (o_assign rfl) rfl ?_
  refine AW.seq ?_
  refine AW.draws (by kernel_rfl) (by kernel_rfl) ?_
  refine RunV.q (o_load_agg rfl tk24 ts24 rfl rfl rfl (by simp only [List.take_succ_cons, List.drop_succ_cons, List.drop_zero, List.take_zero, List.take_nil, List.drop_nil, Nat.zero_add, Nat.reduceAdd]; rfl)) rfl ?_
  refine RunV.q (o_load_agg rfl tk24 ts24 rfl rfl rfl (by simp only [List.take_succ_cons, List.drop_succ_cons, List.drop_zero, List.take_zero, List.take_nil, List.drop_nil, Nat.zero_add, Nat.reduceAdd]; rfl)) rfl ?_
  refine RunV.w (o_call (no := 2) (nr := 1) rfl rfl rfl (by (repeat' first | exact cl_nil | exact cL_flat rfl | exact cL_flat (ints_flat _) | apply cL_vs | apply cl_cons | exact cv_flat rfl | apply cv_agg | apply cv_ptr_o | apply cv_sl_o rfl | apply cv_func | exact cO_old rfl | (apply cO_new; (focus rfl); (focus rfl)) | (apply cv_sl_r; (focus rfl); (focus rfl); (focus (simp; done)); (focus (first | exact ints_all _ | rfl))) | (apply cv_ptr_r rfl ?_ rfl rfl) | (simp only [List.nil_append, List.cons_append, List.length_cons, List.length_nil, Nat.zero_add, Nat.reduceAdd, List.set_cons_zero, List.set_cons_succ]; rfl) | rfl)) (by rfl) (by exact trans_ok r c hr hc L hL f hR hC) (by rfl) rfl rfl (by first | exact reV_bare _ _ rfl | (simp only [reV, reVs, List.all_cons, List.all_nil, AV.flat, Bool.and_true, Bool.true_and, Bool.false_and, Bool.and_false, Bool.false_eq_true, reduceIte, CS.de, List.getElem?_cons_zero, List.getElem?_cons_succ, List.getElem?_nil, List.length_cons, List.length_nil, Nat.reduceSub, Nat.reduceAdd, Nat.zero_add, Nat.add_zero, Nat.sub_self]; rfl)) (by simp only [CS.eff, rdsR, rdsO, List.map_cons, List.map_nil, reL_ints, num, List.nil_append, List.append_nil, List.cons_append]; rfl)) (by simp only [H.app, appO, patchAll, patch, List.map_cons, List.map_nil, List.append_nil, List.nil_append, List.cons_append, List.set_cons_zero, List.set_cons_succ, Option.map_some, Option.map_none, List.contains_cons, List.contains_nil, Nat.reduceAdd, Nat.reduceEqDiff, Nat.reduceBEq, Bool.or_false, Bool.false_eq_true, reduceIte, Nat.zero_add]; rfl) ?_
  refine RunV.q (o_call (no := 3) (nr := 1) rfl rfl rfl (by (repeat' first | exact cl_nil | exact cL_flat rfl | exact cL_flat (ints_flat _) | apply cL_vs | apply cl_cons | exact cv_flat rfl | apply cv_agg | apply cv_ptr_o | apply cv_sl_o rfl | apply cv_func | exact cO_old rfl | (apply cO_new; (focus rfl); (focus rfl)) | (apply cv_sl_r; (focus rfl); (focus rfl); (focus (simp; done)); (focus (first | exact ints_all _ | rfl))) | (apply cv_ptr_r rfl ?_ rfl rfl) | (simp only [List.nil_append, List.cons_append, List.length_cons, List.length_nil, Nat.zero_add, Nat.reduceAdd, List.set_cons_zero, List.set_cons_succ]; rfl) | rfl)) (by rfl) (by exact each_no r c c r L (trL L c r) f false (fun h => hne h.1) _) (by rfl) rfl rfl (by first | exact reV_bare _ _ rfl | (simp only [reV, reVs, List.all_cons, List.all_nil, AV.flat, Bool.and_true, Bool.true_and, Bool.false_and, Bool.and_false, Bool.false_eq_true, reduceIte, CS.de, List.getElem?_cons_zero, List.getElem?_cons_succ, List.getElem?_nil, List.length_cons, List.length_nil, Nat.reduceSub, Nat.reduceAdd, Nat.zero_add, Nat.add_zero, Nat.sub_self]; rfl)) rfl) (by rfl) ?_
  refine RunV.q (o_extract rfl rfl) rfl ?_
  refine RunV.q (o_extract rfl rfl) rfl ?_
  refine RunV.q (o_extract rfl rfl) rfl ?_
  refine RunV.wn (o_store rfl rfl rfl ts24 rfl rfl) (by simp only [H.app, appO, patchAll, patch, List.map_cons, List.map_nil, List.append_nil, List.nil_append, List.cons_append, List.set_cons_zero, List.set_cons_succ, Option.map_some, Option.map_none, List.contains_cons, List.contains_nil, Nat.reduceAdd, Nat.reduceEqDiff, Nat.reduceBEq, Bool.or_false, Bool.false_eq_true, reduceIte, Nat.zero_add]; rfl) ?_
  refine RunV.q (o_assign rfl) rfl ?_
  refine RunV.q (o_assign rfl) rfl ?_
  refine And.intro (by kernel_rfl) ?_
  refine AW.ret ?_
  exact FinQ.ret [] [] (ress_agg rfl tk24 ts24 rfl rfl rfl (ress_tmp rfl (ress_tmp rfl ress_nil))) rfl .nil (.cons rfl rfl (by first | (apply PRN.flat; rfl) | (apply PRN.flat; simp; done) | (repeat' first | exact PRN.nil | apply PRN.cons | exact RN.self rfl | exact RN.top | exact RN.ptr rfl | exact RN.sl rfl | exact RN.slf rfl | apply RN.agg | apply RN.fn | exact RNs.nil | apply RNs.cons)) .nil) (by repeat' first | exact RN.self rfl | exact RN.top | exact RN.ptr rfl | exact RN.sl rfl | exact RN.slf rfl | apply RN.agg | apply RN.tuple | apply RN.fn | exact RNs.nil | apply RNs.cons | (apply RNs.flat; simp; done))

end Go.Proofs.Ytnkijhpikeokfaa
