/- The texts B6, B7, B8. -/
import Derived.Test.YtnkijhpikeokfaaH2
import Derived.Test.YtnkijhpikeokfaaG3
set_option linter.unusedSimpArgs false
set_option linter.unusedVariables false
/- Rows of the statements on logs: BookRows and BookBeginnings, by their contracts. -/
namespace Go.Proofs.Ytnkijhpikeokfaa
open Go Go.Sym Go.IntWalk

theorem begins_is {A C : List Sam} {n1 n2 : Nat} {f1 f2 z : Bool} (hA : A.length ≤ 9223372036854775807) (h1 : n1 = A.length) (h2 : n2 = C.length) (hz : begins A C = z) : SoundC Try.prog 56 [.sl (.r 0) 0 n1 13 f1, .sl (.r 1) 0 n2 13 f2] ⟨[sams A, sams C], []⟩ { val := .bool z } := by
  subst h1; subst h2; subst hz; exact begins_ok A C f1 f2 hA
theorem rises_is {L : List Tk} {n : Nat} {f z : Bool} (hL : L.length ≤ 1000000) (h1 : n = L.length) (hz : rises L = z) : SoundC Try.prog 58 [.sl (.r 0) 0 n 5 f] ⟨[tks L], []⟩ { val := .bool z } := by
  subst h1; subst hz; exact rises_ok L f hL
theorem outs_nil : SoundC Try.prog 60 [.nilsl, .nilsl] ⟨[], []⟩ { val := .bool true } := exec_sound (noO_sound _) 400 20 _ _ _ _ (by kernel_rfl)

theorem begins_take (C : List Sam) (m : Nat) : begins (C.take m) C = true := by
  rw [begins_iff]
  refine ⟨by rw [List.length_take]; omega, fun j hj => ?_⟩
  rw [List.length_take] at hj
  rw [List.getD_eq_getElem?_getD, List.getD_eq_getElem?_getD, List.getElem?_take_of_lt (by omega)]
theorem begins_back {C : List Sam} {m : Nat} (hm : m ≤ C.length) : begins C (C.take m) = decide ((m : Int) = (C.length : Int)) := by
  by_cases e : m = C.length
  · rw [decide_eq_true (by omega), e, List.take_length, begins_iff]; exact ⟨Nat.le_refl _, fun _ _ => rfl⟩
  · rw [decide_eq_false (by omega)]
    unfold begins
    rw [decide_eq_false (by rw [List.length_take]; omega), Bool.false_and]
theorem begins_both (A C : List Sam) : (begins A C && begins C A) = decide (A = C) := by
  rw [Bool.eq_iff_iff, Bool.and_eq_true, begins_iff, begins_iff, decide_eq_true_eq]
  constructor
  · rintro ⟨⟨h1, h2⟩, h3, _⟩
    exact eq_of_at (by omega) h2
  · rintro rfl; exact ⟨⟨Nat.le_refl _, fun _ _ => rfl⟩, Nat.le_refl _, fun _ _ => rfl⟩
theorem ofL_O (L : List Tk) (f : Bool) (gen : Int) (hL : L.length ≤ 1000000) (O : List Ou) (hO : ofL L gen = O) (hne : O ≠ []) : SoundC Try.prog 61 [.sl (.r 0) 0 L.length 5 f, .int .i64 gen] ⟨[tks L], []⟩ { val := .sl (.o 0) 0 O.length 4 false, newo := [ous O] } := by
  cases O with
  | nil => exact absurd rfl hne
  | cons a l => exact ofL_cons L f gen hL a l hO
theorem rofL_O (L : List Tk) (f : Bool) (gen : Int) (hL : L.length ≤ 1000000) (O : List Ou) (hO : ofL L gen = O) (hne : O ≠ []) : SoundC Try.prog 62 [.sl (.r 0) 0 L.length 5 f, .int .i64 gen] ⟨[tks L], []⟩ { val := .sl (.o 0) 0 O.length 4 false, newo := [ous O] } := by
  cases O with
  | nil => exact absurd rfl hne
  | cons a l => exact rofL_cons L f gen hL a l hO
def sameTo (A C : List Sam) (i : Nat) : Bool := decide (A.length = C.length) && (List.range i).all fun j => decide (A.getD j default = C.getD j default)
theorem sameTo_zero (A C : List Sam) : sameTo A C 0 = decide ((A.length : Int) = (C.length : Int)) := by
  unfold sameTo
  rw [show (List.range 0).all (fun j => decide (A.getD j default = C.getD j default)) = true from rfl, Bool.and_true]
  exact decide_eq_decide.2 (by omega)
theorem sameTo_len {A C : List Sam} {i : Nat} (h : sameTo A C i = true) : A.length = C.length := by
  unfold sameTo at h; rw [Bool.and_eq_true] at h; exact of_decide_eq_true h.1
theorem sameTo_succ {A C : List Sam} {i : Nat} (h : sameTo A C i = true) : sameTo A C (i + 1) = decide (A.getD i default = C.getD i default) := by
  unfold sameTo at *
  rw [List.range_succ, List.all_append, ← Bool.and_assoc, h, Bool.true_and]
  simp
theorem sameTo_eq {A C : List Sam} : sameTo A C A.length = decide (A = C) := by
  rw [Bool.eq_iff_iff, decide_eq_true_eq]
  unfold sameTo
  rw [Bool.and_eq_true, decide_eq_true_eq, List.all_eq_true]
  constructor
  · rintro ⟨h1, h2⟩
    exact eq_of_at h1 fun j hj => of_decide_eq_true (h2 j (List.mem_range.2 hj))
  · rintro rfl; exact ⟨rfl, fun j _ => by simp⟩
theorem sameTo_at {A C : List Sam} {i : Nat} (h : i = A.length) : sameTo A C i = decide (A = C) := by subst h; exact sameTo_eq
theorem sameTo_no {A C : List Sam} {i : Nat} (h : sameTo A C i = false) (hi : i ≤ A.length) : sameTo A C i = decide (A = C) := by
  rw [h]; symm
  rw [decide_eq_false_iff_not]; rintro rfl
  unfold sameTo at h; simp at h

set_option maxHeartbeats 1000000 in
theorem bookRows_no (A C : List Sam) (L : List Tk) (gen : Int) (hA : A.length ≤ 1000000000) (hC : C.length ≤ 1000000000) (hL : L.length ≤ 1000000000) (h : ¬ A.length + C.length + L.length ≤ 100) : SoundC Try.prog 17 [.agg [.sl (.r 0) 0 A.length 13 false, .sl (.r 1) 0 C.length 13 false, .sl (.r 2) 0 L.length 5 false, .int .i64 gen]] ⟨[sams A, sams C, tks L], []⟩ { val := .bool true } := by
  refine SoundC.of (N := 53) Try.func17 rfl rfl rfl rfl ?_
  refine AW.seq ?_
  refine AW.region (by kernel_rfl) ?_
  refine RunF.w (o_box (nm := 0) rfl rfl rfl) (by simp only [H.app, appO, patchAll, patch, List.map_cons, List.map_nil, List.append_nil, List.nil_append, List.cons_append, List.set_cons_zero, List.set_cons_succ, Option.map_some, Option.map_none, List.contains_cons, List.contains_nil, Nat.reduceAdd, Nat.reduceEqDiff, Nat.reduceBEq, Bool.or_false, Bool.false_eq_true, reduceIte, Nat.zero_add]; rfl) ?_
  refine RunF.q (o_assign rfl) rfl ?_
  refine AW.seq ?_
  refine AW.region (by kernel_rfl) ?_
  refine RunF.q (o_fieldAddr rfl tk96 rfl ts93 rfl) rfl ?_
  refine RunF.q (o_load rfl tk93 ts93 rfl rfl rfl) rfl ?_
  refine RunF.q (o_assign rfl) rfl ?_
  refine AW.seq ?_
  refine AW.region (by kernel_rfl) ?_
  refine RunF.q (o_fieldAddr rfl tk96 rfl ts93 rfl) rfl ?_
  refine RunF.q (o_load rfl tk93 ts93 rfl rfl rfl) rfl ?_
  refine RunF.q (o_assign rfl) rfl ?_
  refine AW.seq ?_
  refine AW.region (by kernel_rfl) ?_
  refine RunF.q (o_fieldAddr rfl tk96 rfl ts94 rfl) rfl ?_
  refine RunF.q (o_load rfl tk94 ts94 rfl rfl rfl) rfl ?_
  refine RunF.q (o_assign rfl) rfl ?_
  refine AW.seq ?_
  refine AW.region (by kernel_rfl) ?_
  refine RunF.q (o_fieldAddr rfl tk96 rfl ts2 rfl) rfl ?_
  refine RunF.q (o_load rfl tk2 ts2 rfl rfl rfl) rfl ?_
  refine RunF.q (o_assign rfl) rfl ?_
  refine AW.seq ?_
  refine AW.region (by kernel_rfl) ?_
  refine RunF.q (o_call (no := 1) (nr := 3) rfl rfl rfl (by (repeat' first | exact cl_nil | exact cL_flat rfl | exact cL_flat (ints_flat _) | apply cL_vs | apply cl_cons | exact cv_flat rfl | apply cv_agg | apply cv_ptr_o | apply cv_sl_o rfl | apply cv_func | exact cO_old rfl | (apply cO_new; (focus rfl); (focus rfl)) | (apply cv_sl_r; (focus rfl); (focus rfl); (focus (simp; done)); (focus (first | exact ints_all _ | rfl))) | (apply cv_ptr_r rfl ?_ rfl rfl) | (simp only [List.nil_append, List.cons_append, List.length_cons, List.length_nil, Nat.zero_add, Nat.reduceAdd, List.set_cons_zero, List.set_cons_succ]; rfl) | rfl)) (by rfl) (by exact shown13_ok) (by rfl) rfl rfl (by first | exact reV_bare _ _ rfl | (simp only [reV, reVs, List.all_cons, List.all_nil, AV.flat, Bool.and_true, Bool.true_and, Bool.false_and, Bool.and_false, Bool.false_eq_true, reduceIte, CS.de, List.getElem?_cons_zero, List.getElem?_cons_succ, List.getElem?_nil, List.length_cons, List.length_nil, Nat.reduceSub, Nat.reduceAdd, Nat.zero_add, Nat.add_zero, Nat.sub_self]; rfl)) rfl) (by rfl) ?_
  refine RunF.q (o_assign rfl) rfl ?_
  refine AW.seq ?_
  refine AW.seq ?_
  refine AW.region (by kernel_rfl) ?_
  refine RunF.q (o_move rfl) rfl ?_
  first | refine RunF.q (o_len tk93 rfl) rfl ?_ | refine RunF.q (o_len_nil tk93 rfl) rfl ?_
  refine RunF.q (o_move rfl) rfl ?_
  first | refine RunF.q (o_len tk93 rfl) rfl ?_ | refine RunF.q (o_len_nil tk93 rfl) rfl ?_
  refine RunF.q (o_add rfl rfl (by first | exact i64_in _ (by omega) | rfl)) rfl ?_
  refine RunF.q (o_move rfl) rfl ?_
  first | refine RunF.q (o_len tk94 rfl) rfl ?_ | refine RunF.q (o_len_nil tk94 rfl) rfl ?_
  refine RunF.q (o_add rfl rfl (by first | exact i64_in _ (by omega) | rfl)) rfl ?_
  refine RunF.q (o_gtr rfl rfl) rfl ?_
  refine AW.cond rfl (fun hc0 => ?_) (fun hc0 => absurd hc0 (by intro h; simp at h; omega))
  refine AW.seq ?_
  refine AW.region (by kernel_rfl) ?_
  refine RunF.q (o_move rfl) rfl ?_
  refine RunF.q (o_assign rfl) rfl ?_
  refine AW.ret ?_
  exact FinQ.ret [] [] (ress_tmp rfl ress_nil) rfl .nil (.cons rfl rfl (PRN.flat (sams_flat _)) (.cons rfl rfl (PRN.flat (sams_flat _)) (.cons rfl rfl (PRN.flat (tks_flat _)) .nil))) (by repeat' first | exact RN.self rfl | exact RN.top | exact RN.ptr rfl | exact RN.sl rfl | exact RN.slf rfl | apply RN.agg | apply RN.tuple | apply RN.fn | exact RNs.nil | apply RNs.cons | (apply RNs.flat; simp; done))

set_option maxHeartbeats 1000000 in
theorem bookRows_nil (A C : List Sam) (L : List Tk) (gen : Int) (h : A.length + C.length + L.length ≤ 100) (hO : ofL L gen = []) : SoundC Try.prog 17 [.agg [.sl (.r 0) 0 A.length 13 false, .sl (.r 1) 0 C.length 13 false, .sl (.r 2) 0 L.length 5 false, .int .i64 gen]] ⟨[sams A, sams C, tks L], []⟩ { val := .bool true } := by
  refine SoundC.of (N := 53) Try.func17 rfl rfl rfl rfl ?_
  refine AW.seq ?_
  refine AW.region (by kernel_rfl) ?_
  refine RunF.w (o_box (nm := 0) rfl rfl rfl) (by simp only [H.app, appO, patchAll, patch, List.map_cons, List.map_nil, List.append_nil, List.nil_append, List.cons_append, List.set_cons_zero, List.set_cons_succ, Option.map_some, Option.map_none, List.contains_cons, List.contains_nil, Nat.reduceAdd, Nat.reduceEqDiff, Nat.reduceBEq, Bool.or_false, Bool.false_eq_true, reduceIte, Nat.zero_add]; rfl) ?_
  refine RunF.q (o_assign rfl) rfl ?_
  refine AW.seq ?_
  refine AW.region (by kernel_rfl) ?_
  refine RunF.q (o_fieldAddr rfl tk96 rfl ts93 rfl) rfl ?_
  refine RunF.q (o_load rfl tk93 ts93 rfl rfl rfl) rfl ?_
  refine RunF.q (o_assign rfl) rfl ?_
  refine AW.seq ?_
  refine AW.region (by kernel_rfl) ?_
  refine RunF.q (o_fieldAddr rfl tk96 rfl ts93 rfl) rfl ?_
  refine RunF.q (o_load rfl tk93 ts93 rfl rfl rfl) rfl ?_
  refine RunF.q (o_assign rfl) rfl ?_
  refine AW.seq ?_
  refine AW.region (by kernel_rfl) ?_
  refine RunF.q (o_fieldAddr rfl tk96 rfl ts94 rfl) rfl ?_
  refine RunF.q (o_load rfl tk94 ts94 rfl rfl rfl) rfl ?_
  refine RunF.q (o_assign rfl) rfl ?_
  refine AW.seq ?_
  refine AW.region (by kernel_rfl) ?_
  refine RunF.q (o_fieldAddr rfl tk96 rfl ts2 rfl) rfl ?_
  refine RunF.q (o_load rfl tk2 ts2 rfl rfl rfl) rfl ?_
  refine RunF.q (o_assign rfl) rfl ?_
  refine AW.seq ?_
  refine AW.region (by kernel_rfl) ?_
  refine RunF.q (o_call (no := 1) (nr := 3) rfl rfl rfl (by (repeat' first | exact cl_nil | exact cL_flat rfl | exact cL_flat (ints_flat _) | apply cL_vs | apply cl_cons | exact cv_flat rfl | apply cv_agg | apply cv_ptr_o | apply cv_sl_o rfl | apply cv_func | exact cO_old rfl | (apply cO_new; (focus rfl); (focus rfl)) | (apply cv_sl_r; (focus rfl); (focus rfl); (focus (simp; done)); (focus (first | exact ints_all _ | rfl))) | (apply cv_ptr_r rfl ?_ rfl rfl) | (simp only [List.nil_append, List.cons_append, List.length_cons, List.length_nil, Nat.zero_add, Nat.reduceAdd, List.set_cons_zero, List.set_cons_succ]; rfl) | rfl)) (by rfl) (by exact shown13_ok) (by rfl) rfl rfl (by first | exact reV_bare _ _ rfl | (simp only [reV, reVs, List.all_cons, List.all_nil, AV.flat, Bool.and_true, Bool.true_and, Bool.false_and, Bool.and_false, Bool.false_eq_true, reduceIte, CS.de, List.getElem?_cons_zero, List.getElem?_cons_succ, List.getElem?_nil, List.length_cons, List.length_nil, Nat.reduceSub, Nat.reduceAdd, Nat.zero_add, Nat.add_zero, Nat.sub_self]; rfl)) rfl) (by rfl) ?_
  refine RunF.q (o_assign rfl) rfl ?_
  refine AW.seq ?_
  refine AW.seq ?_
  refine AW.region (by kernel_rfl) ?_
  refine RunF.q (o_move rfl) rfl ?_
  first | refine RunF.q (o_len tk93 rfl) rfl ?_ | refine RunF.q (o_len_nil tk93 rfl) rfl ?_
  refine RunF.q (o_move rfl) rfl ?_
  first | refine RunF.q (o_len tk93 rfl) rfl ?_ | refine RunF.q (o_len_nil tk93 rfl) rfl ?_
  refine RunF.q (o_add rfl rfl (by first | exact i64_in _ (by omega) | rfl)) rfl ?_
  refine RunF.q (o_move rfl) rfl ?_
  first | refine RunF.q (o_len tk94 rfl) rfl ?_ | refine RunF.q (o_len_nil tk94 rfl) rfl ?_
  refine RunF.q (o_add rfl rfl (by first | exact i64_in _ (by omega) | rfl)) rfl ?_
  refine RunF.q (o_gtr rfl rfl) rfl ?_
  refine AW.cond rfl (fun hc0 => absurd hc0 (by intro h; simp at h; omega)) (fun hc0 => ?_)
  refine AW.skip ?_
  refine AW.seq ?_
  refine AW.region (by kernel_rfl) ?_
  refine RunF.q (o_move rfl) rfl ?_
  refine RunF.q (o_move rfl) rfl ?_
  refine RunF.gq rfl (o_move rfl) rfl ?_
  refine RunF.gq rfl (o_move rfl) rfl ?_
  refine RunF.gq rfl (o_call (no := 1) (nr := 3) rfl rfl rfl (by (repeat' first | exact cl_nil | exact cL_flat rfl | exact cL_flat (ints_flat _) | exact cL_flat (sams_flat _) | exact cL_flat (tks_flat _) | exact cL_flat (ous_flat _) | exact cL_flat (ves_flat _) | apply cL_vs | apply cl_cons | exact cv_flat rfl | apply cv_agg | apply cv_ptr_o | apply cv_sl_o rfl | apply cv_func | exact cO_old rfl | (apply cO_new; (focus rfl); (focus rfl)) | (apply cv_sl_r; (focus rfl); (focus rfl); (focus (first | (simp; done) | (simp only [sams_length, tks_length, ous_length, ves_length]; omega))); (focus (first | exact ints_all _ | exact rowsF_all Sam.len _ | exact rowsF_all Tk.len _ | exact rowsF_all Ou.len _ | exact rowsF_all Ve.len _ | exact rowsF_win Sam.len _ _ | exact rowsF_win Tk.len _ _ | exact rowsF_from Tk.len _ | rfl))) | (apply cv_ptr_r rfl ?_ rfl rfl) | (simp only [List.nil_append, List.cons_append, List.length_cons, List.length_nil, Nat.zero_add, Nat.reduceAdd, List.set_cons_zero, List.set_cons_succ]; rfl) | rfl)) (by rfl) (by exact begins_ok A C false false (by omega)) (by rfl) rfl rfl (by first | exact reV_bare _ _ rfl | (simp only [reV, reVs, List.all_cons, List.all_nil, AV.flat, Bool.and_true, Bool.true_and, Bool.false_and, Bool.and_false, Bool.false_eq_true, reduceIte, CS.de, List.getElem?_cons_zero, List.getElem?_cons_succ, List.getElem?_nil, List.length_cons, List.length_nil, Nat.reduceSub, Nat.reduceAdd, Nat.zero_add, Nat.add_zero, Nat.sub_self]; rfl)) rfl) (by rfl) ?_
  refine RunF.gq rfl (o_move rfl) rfl ?_
  refine RunF.gq rfl (o_move rfl) rfl ?_
  refine RunF.gq rfl (o_call (no := 1) (nr := 3) rfl rfl rfl (by (repeat' first | exact cl_nil | exact cL_flat rfl | exact cL_flat (ints_flat _) | exact cL_flat (sams_flat _) | exact cL_flat (tks_flat _) | exact cL_flat (ous_flat _) | exact cL_flat (ves_flat _) | apply cL_vs | apply cl_cons | exact cv_flat rfl | apply cv_agg | apply cv_ptr_o | apply cv_sl_o rfl | apply cv_func | exact cO_old rfl | (apply cO_new; (focus rfl); (focus rfl)) | (apply cv_sl_r; (focus rfl); (focus rfl); (focus (first | (simp; done) | (simp only [sams_length, tks_length, ous_length, ves_length]; omega))); (focus (first | exact ints_all _ | exact rowsF_all Sam.len _ | exact rowsF_all Tk.len _ | exact rowsF_all Ou.len _ | exact rowsF_all Ve.len _ | exact rowsF_win Sam.len _ _ | exact rowsF_win Tk.len _ _ | exact rowsF_from Tk.len _ | rfl))) | (apply cv_ptr_r rfl ?_ rfl rfl) | (simp only [List.nil_append, List.cons_append, List.length_cons, List.length_nil, Nat.zero_add, Nat.reduceAdd, List.set_cons_zero, List.set_cons_succ]; rfl) | rfl)) (by rfl) (by exact rbegins_ok A C false false (by omega)) (by rfl) rfl rfl (by first | exact reV_bare _ _ rfl | (simp only [reV, reVs, List.all_cons, List.all_nil, AV.flat, Bool.and_true, Bool.true_and, Bool.false_and, Bool.and_false, Bool.false_eq_true, reduceIte, CS.de, List.getElem?_cons_zero, List.getElem?_cons_succ, List.getElem?_nil, List.length_cons, List.length_nil, Nat.reduceSub, Nat.reduceAdd, Nat.zero_add, Nat.add_zero, Nat.sub_self]; rfl)) rfl) (by rfl) ?_
  refine RunF.gq rfl (o_bin (v := .bool true) rfl rfl (by simp [binA, tk4])) rfl ?_
  refine RunF.q (o_pick_t rfl rfl) rfl ?_
  refine RunF.q (o_move rfl) rfl ?_
  refine RunF.gq rfl (o_move rfl) rfl ?_
  refine RunF.gq rfl (o_call (no := 1) (nr := 3) rfl rfl rfl (by (repeat' first | exact cl_nil | exact cL_flat rfl | exact cL_flat (ints_flat _) | exact cL_flat (sams_flat _) | exact cL_flat (tks_flat _) | exact cL_flat (ous_flat _) | exact cL_flat (ves_flat _) | apply cL_vs | apply cl_cons | exact cv_flat rfl | apply cv_agg | apply cv_ptr_o | apply cv_sl_o rfl | apply cv_func | exact cO_old rfl | (apply cO_new; (focus rfl); (focus rfl)) | (apply cv_sl_r; (focus rfl); (focus rfl); (focus (first | (simp; done) | (simp only [sams_length, tks_length, ous_length, ves_length]; omega))); (focus (first | exact ints_all _ | exact rowsF_all Sam.len _ | exact rowsF_all Tk.len _ | exact rowsF_all Ou.len _ | exact rowsF_all Ve.len _ | exact rowsF_win Sam.len _ _ | exact rowsF_win Tk.len _ _ | exact rowsF_from Tk.len _ | rfl))) | (apply cv_ptr_r rfl ?_ rfl rfl) | (simp only [List.nil_append, List.cons_append, List.length_cons, List.length_nil, Nat.zero_add, Nat.reduceAdd, List.set_cons_zero, List.set_cons_succ]; rfl) | rfl)) (by rfl) (by exact rises_ok L false (by omega)) (by rfl) rfl rfl (by first | exact reV_bare _ _ rfl | (simp only [reV, reVs, List.all_cons, List.all_nil, AV.flat, Bool.and_true, Bool.true_and, Bool.false_and, Bool.and_false, Bool.false_eq_true, reduceIte, CS.de, List.getElem?_cons_zero, List.getElem?_cons_succ, List.getElem?_nil, List.length_cons, List.length_nil, Nat.reduceSub, Nat.reduceAdd, Nat.zero_add, Nat.add_zero, Nat.sub_self]; rfl)) rfl) (by rfl) ?_
  refine RunF.gq rfl (o_move rfl) rfl ?_
  refine RunF.gq rfl (o_call (no := 1) (nr := 3) rfl rfl rfl (by (repeat' first | exact cl_nil | exact cL_flat rfl | exact cL_flat (ints_flat _) | exact cL_flat (sams_flat _) | exact cL_flat (tks_flat _) | exact cL_flat (ous_flat _) | exact cL_flat (ves_flat _) | apply cL_vs | apply cl_cons | exact cv_flat rfl | apply cv_agg | apply cv_ptr_o | apply cv_sl_o rfl | apply cv_func | exact cO_old rfl | (apply cO_new; (focus rfl); (focus rfl)) | (apply cv_sl_r; (focus rfl); (focus rfl); (focus (first | (simp; done) | (simp only [sams_length, tks_length, ous_length, ves_length]; omega))); (focus (first | exact ints_all _ | exact rowsF_all Sam.len _ | exact rowsF_all Tk.len _ | exact rowsF_all Ou.len _ | exact rowsF_all Ve.len _ | exact rowsF_win Sam.len _ _ | exact rowsF_win Tk.len _ _ | exact rowsF_from Tk.len _ | rfl))) | (apply cv_ptr_r rfl ?_ rfl rfl) | (simp only [List.nil_append, List.cons_append, List.length_cons, List.length_nil, Nat.zero_add, Nat.reduceAdd, List.set_cons_zero, List.set_cons_succ]; rfl) | rfl)) (by rfl) (by exact rrises_ok L false (by omega)) (by rfl) rfl rfl (by first | exact reV_bare _ _ rfl | (simp only [reV, reVs, List.all_cons, List.all_nil, AV.flat, Bool.and_true, Bool.true_and, Bool.false_and, Bool.and_false, Bool.false_eq_true, reduceIte, CS.de, List.getElem?_cons_zero, List.getElem?_cons_succ, List.getElem?_nil, List.length_cons, List.length_nil, Nat.reduceSub, Nat.reduceAdd, Nat.zero_add, Nat.add_zero, Nat.sub_self]; rfl)) rfl) (by rfl) ?_
  refine RunF.gq rfl (o_bin (v := .bool true) rfl rfl (by simp [binA, tk4])) rfl ?_
  refine RunF.q (o_pick_t rfl rfl) rfl ?_
  refine RunF.q (o_move rfl) rfl ?_
  refine RunF.gq rfl (o_move rfl) rfl ?_
  refine RunF.gq rfl (o_move rfl) rfl ?_
  refine RunF.gq rfl (o_call (no := 1) (nr := 3) rfl rfl rfl (by (repeat' first | exact cl_nil | exact cL_flat rfl | exact cL_flat (ints_flat _) | exact cL_flat (sams_flat _) | exact cL_flat (tks_flat _) | exact cL_flat (ous_flat _) | exact cL_flat (ves_flat _) | apply cL_vs | apply cl_cons | exact cv_flat rfl | apply cv_agg | apply cv_ptr_o | apply cv_sl_o rfl | apply cv_func | exact cO_old rfl | (apply cO_new; (focus rfl); (focus rfl)) | (apply cv_sl_r; (focus rfl); (focus rfl); (focus (first | (simp; done) | (simp only [sams_length, tks_length, ous_length, ves_length]; omega))); (focus (first | exact ints_all _ | exact rowsF_all Sam.len _ | exact rowsF_all Tk.len _ | exact rowsF_all Ou.len _ | exact rowsF_all Ve.len _ | exact rowsF_win Sam.len _ _ | exact rowsF_win Tk.len _ _ | exact rowsF_from Tk.len _ | rfl))) | (apply cv_ptr_r rfl ?_ rfl rfl) | (simp only [List.nil_append, List.cons_append, List.length_cons, List.length_nil, Nat.zero_add, Nat.reduceAdd, List.set_cons_zero, List.set_cons_succ]; rfl) | rfl)) (by rfl) (by exact ofL_nil L false gen (by omega) hO) (by rfl) rfl rfl (by first | exact reV_bare _ _ rfl | (simp only [reV, reVs, List.all_cons, List.all_nil, AV.flat, Bool.and_true, Bool.true_and, Bool.false_and, Bool.and_false, Bool.false_eq_true, reduceIte, CS.de, List.getElem?_cons_zero, List.getElem?_cons_succ, List.getElem?_nil, List.length_cons, List.length_nil, Nat.reduceSub, Nat.reduceAdd, Nat.zero_add, Nat.add_zero, Nat.sub_self]; rfl)) rfl) (by rfl) ?_
  refine RunF.gq rfl (o_move rfl) rfl ?_
  refine RunF.gq rfl (o_move rfl) rfl ?_
  refine RunF.gq rfl (o_call (no := 1) (nr := 3) rfl rfl rfl (by (repeat' first | exact cl_nil | exact cL_flat rfl | exact cL_flat (ints_flat _) | exact cL_flat (sams_flat _) | exact cL_flat (tks_flat _) | exact cL_flat (ous_flat _) | exact cL_flat (ves_flat _) | apply cL_vs | apply cl_cons | exact cv_flat rfl | apply cv_agg | apply cv_ptr_o | apply cv_sl_o rfl | apply cv_func | exact cO_old rfl | (apply cO_new; (focus rfl); (focus rfl)) | (apply cv_sl_r; (focus rfl); (focus rfl); (focus (first | (simp; done) | (simp only [sams_length, tks_length, ous_length, ves_length]; omega))); (focus (first | exact ints_all _ | exact rowsF_all Sam.len _ | exact rowsF_all Tk.len _ | exact rowsF_all Ou.len _ | exact rowsF_all Ve.len _ | exact rowsF_win Sam.len _ _ | exact rowsF_win Tk.len _ _ | exact rowsF_from Tk.len _ | rfl))) | (apply cv_ptr_r rfl ?_ rfl rfl) | (simp only [List.nil_append, List.cons_append, List.length_cons, List.length_nil, Nat.zero_add, Nat.reduceAdd, List.set_cons_zero, List.set_cons_succ]; rfl) | rfl)) (by rfl) (by exact rofL_nil L false gen (by omega) hO) (by rfl) rfl rfl (by first | exact reV_bare _ _ rfl | (simp only [reV, reVs, List.all_cons, List.all_nil, AV.flat, Bool.and_true, Bool.true_and, Bool.false_and, Bool.and_false, Bool.false_eq_true, reduceIte, CS.de, List.getElem?_cons_zero, List.getElem?_cons_succ, List.getElem?_nil, List.length_cons, List.length_nil, Nat.reduceSub, Nat.reduceAdd, Nat.zero_add, Nat.add_zero, Nat.sub_self]; rfl)) rfl) (by rfl) ?_
  refine RunF.gq rfl (o_call (no := 1) (nr := 3) rfl rfl rfl (by (repeat' first | exact cl_nil | exact cL_flat rfl | exact cL_flat (ints_flat _) | apply cL_vs | apply cl_cons | exact cv_flat rfl | apply cv_agg | apply cv_ptr_o | apply cv_sl_o rfl | apply cv_func | exact cO_old rfl | (apply cO_new; (focus rfl); (focus rfl)) | (apply cv_sl_r; (focus rfl); (focus rfl); (focus (simp; done)); (focus (first | exact ints_all _ | rfl))) | (apply cv_ptr_r rfl ?_ rfl rfl) | (simp only [List.nil_append, List.cons_append, List.length_cons, List.length_nil, Nat.zero_add, Nat.reduceAdd, List.set_cons_zero, List.set_cons_succ]; rfl) | rfl)) (by rfl) (by exact outs_nil) (by rfl) rfl rfl (by first | exact reV_bare _ _ rfl | (simp only [reV, reVs, List.all_cons, List.all_nil, AV.flat, Bool.and_true, Bool.true_and, Bool.false_and, Bool.and_false, Bool.false_eq_true, reduceIte, CS.de, List.getElem?_cons_zero, List.getElem?_cons_succ, List.getElem?_nil, List.length_cons, List.length_nil, Nat.reduceSub, Nat.reduceAdd, Nat.zero_add, Nat.add_zero, Nat.sub_self]; rfl)) rfl) (by rfl) ?_
  refine RunF.q (o_pick_t rfl rfl) rfl ?_
  refine RunF.q (o_assign rfl) rfl ?_
  refine AW.ret ?_
  exact FinQ.ret [] [] (ress_tmp rfl ress_nil) rfl .nil (.cons rfl rfl (PRN.flat (sams_flat _)) (.cons rfl rfl (PRN.flat (sams_flat _)) (.cons rfl rfl (PRN.flat (tks_flat _)) .nil))) (by repeat' first | exact RN.self rfl | exact RN.top | exact RN.ptr rfl | exact RN.sl rfl | exact RN.slf rfl | apply RN.agg | apply RN.tuple | apply RN.fn | exact RNs.nil | apply RNs.cons | (apply RNs.flat; simp; done))

set_option maxHeartbeats 1000000 in
theorem bookRows_cons (A C : List Sam) (L : List Tk) (gen : Int) (h : A.length + C.length + L.length ≤ 100) (O : List Ou) (hO : ofL L gen = O) (hne : O ≠ []) : SoundC Try.prog 17 [.agg [.sl (.r 0) 0 A.length 13 false, .sl (.r 1) 0 C.length 13 false, .sl (.r 2) 0 L.length 5 false, .int .i64 gen]] ⟨[sams A, sams C, tks L], []⟩ { val := .bool true } := by
  have hlen : O.length ≤ 1000000 := by have := ofL_le L gen; rw [hO] at this; omega
  refine SoundC.of (N := 53) Try.func17 rfl rfl rfl rfl ?_
  refine AW.seq ?_
  refine AW.region (by kernel_rfl) ?_
  refine RunF.w (o_box (nm := 0) rfl rfl rfl) (by simp only [H.app, appO, patchAll, patch, List.map_cons, List.map_nil, List.append_nil, List.nil_append, List.cons_append, List.set_cons_zero, List.set_cons_succ, Option.map_some, Option.map_none, List.contains_cons, List.contains_nil, Nat.reduceAdd, Nat.reduceEqDiff, Nat.reduceBEq, Bool.or_false, Bool.false_eq_true, reduceIte, Nat.zero_add]; rfl) ?_
  refine RunF.q (o_assign rfl) rfl ?_
  refine AW.seq ?_
  refine AW.region (by kernel_rfl) ?_
  refine RunF.q (o_fieldAddr rfl tk96 rfl ts93 rfl) rfl ?_
  refine RunF.q (o_load rfl tk93 ts93 rfl rfl rfl) rfl ?_
  refine RunF.q (o_assign rfl) rfl ?_
  refine AW.seq ?_
  refine AW.region (by kernel_rfl) ?_
  refine RunF.q (o_fieldAddr rfl tk96 rfl ts93 rfl) rfl ?_
  refine RunF.q (o_load rfl tk93 ts93 rfl rfl rfl) rfl ?_
  refine RunF.q (o_assign rfl) rfl ?_
  refine AW.seq ?_
  refine AW.region (by kernel_rfl) ?_
  refine RunF.q (o_fieldAddr rfl tk96 rfl ts94 rfl) rfl ?_
  refine RunF.q (o_load rfl tk94 ts94 rfl rfl rfl) rfl ?_
  refine RunF.q (o_assign rfl) rfl ?_
  refine AW.seq ?_
  refine AW.region (by kernel_rfl) ?_
  refine RunF.q (o_fieldAddr rfl tk96 rfl ts2 rfl) rfl ?_
  refine RunF.q (o_load rfl tk2 ts2 rfl rfl rfl) rfl ?_
  refine RunF.q (o_assign rfl) rfl ?_
  refine AW.seq ?_
  refine AW.region (by kernel_rfl) ?_
  refine RunF.q (o_call (no := 1) (nr := 3) rfl rfl rfl (by (repeat' first | exact cl_nil | exact cL_flat rfl | exact cL_flat (ints_flat _) | apply cL_vs | apply cl_cons | exact cv_flat rfl | apply cv_agg | apply cv_ptr_o | apply cv_sl_o rfl | apply cv_func | exact cO_old rfl | (apply cO_new; (focus rfl); (focus rfl)) | (apply cv_sl_r; (focus rfl); (focus rfl); (focus (simp; done)); (focus (first | exact ints_all _ | rfl))) | (apply cv_ptr_r rfl ?_ rfl rfl) | (simp only [List.nil_append, List.cons_append, List.length_cons, List.length_nil, Nat.zero_add, Nat.reduceAdd, List.set_cons_zero, List.set_cons_succ]; rfl) | rfl)) (by rfl) (by exact shown13_ok) (by rfl) rfl rfl (by first | exact reV_bare _ _ rfl | (simp only [reV, reVs, List.all_cons, List.all_nil, AV.flat, Bool.and_true, Bool.true_and, Bool.false_and, Bool.and_false, Bool.false_eq_true, reduceIte, CS.de, List.getElem?_cons_zero, List.getElem?_cons_succ, List.getElem?_nil, List.length_cons, List.length_nil, Nat.reduceSub, Nat.reduceAdd, Nat.zero_add, Nat.add_zero, Nat.sub_self]; rfl)) rfl) (by rfl) ?_
  refine RunF.q (o_assign rfl) rfl ?_
  refine AW.seq ?_
  refine AW.seq ?_
  refine AW.region (by kernel_rfl) ?_
  refine RunF.q (o_move rfl) rfl ?_
  first | refine RunF.q (o_len tk93 rfl) rfl ?_ | refine RunF.q (o_len_nil tk93 rfl) rfl ?_
  refine RunF.q (o_move rfl) rfl ?_
  first | refine RunF.q (o_len tk93 rfl) rfl ?_ | refine RunF.q (o_len_nil tk93 rfl) rfl ?_
  refine RunF.q (o_add rfl rfl (by first | exact i64_in _ (by omega) | rfl)) rfl ?_
  refine RunF.q (o_move rfl) rfl ?_
  first | refine RunF.q (o_len tk94 rfl) rfl ?_ | refine RunF.q (o_len_nil tk94 rfl) rfl ?_
  refine RunF.q (o_add rfl rfl (by first | exact i64_in _ (by omega) | rfl)) rfl ?_
  refine RunF.q (o_gtr rfl rfl) rfl ?_
  refine AW.cond rfl (fun hc0 => absurd hc0 (by intro h; simp at h; omega)) (fun hc0 => ?_)
  refine AW.skip ?_
  refine AW.seq ?_
  refine AW.region (by kernel_rfl) ?_
  refine RunF.q (o_move rfl) rfl ?_
  refine RunF.q (o_move rfl) rfl ?_
  refine RunF.gq rfl (o_move rfl) rfl ?_
  refine RunF.gq rfl (o_move rfl) rfl ?_
  refine RunF.gq rfl (o_call (no := 1) (nr := 3) rfl rfl rfl (by (repeat' first | exact cl_nil | exact cL_flat rfl | exact cL_flat (ints_flat _) | exact cL_flat (sams_flat _) | exact cL_flat (tks_flat _) | exact cL_flat (ous_flat _) | exact cL_flat (ves_flat _) | apply cL_vs | apply cl_cons | exact cv_flat rfl | apply cv_agg | apply cv_ptr_o | apply cv_sl_o rfl | apply cv_func | exact cO_old rfl | (apply cO_new; (focus rfl); (focus rfl)) | (apply cv_sl_r; (focus rfl); (focus rfl); (focus (first | (simp; done) | (simp only [sams_length, tks_length, ous_length, ves_length]; omega))); (focus (first | exact ints_all _ | exact rowsF_all Sam.len _ | exact rowsF_all Tk.len _ | exact rowsF_all Ou.len _ | exact rowsF_all Ve.len _ | exact rowsF_win Sam.len _ _ | exact rowsF_win Tk.len _ _ | exact rowsF_from Tk.len _ | rfl))) | (apply cv_ptr_r rfl ?_ rfl rfl) | (simp only [List.nil_append, List.cons_append, List.length_cons, List.length_nil, Nat.zero_add, Nat.reduceAdd, List.set_cons_zero, List.set_cons_succ]; rfl) | rfl)) (by rfl) (by exact begins_ok A C false false (by omega)) (by rfl) rfl rfl (by first | exact reV_bare _ _ rfl | (simp only [reV, reVs, List.all_cons, List.all_nil, AV.flat, Bool.and_true, Bool.true_and, Bool.false_and, Bool.and_false, Bool.false_eq_true, reduceIte, CS.de, List.getElem?_cons_zero, List.getElem?_cons_succ, List.getElem?_nil, List.length_cons, List.length_nil, Nat.reduceSub, Nat.reduceAdd, Nat.zero_add, Nat.add_zero, Nat.sub_self]; rfl)) rfl) (by rfl) ?_
  refine RunF.gq rfl (o_move rfl) rfl ?_
  refine RunF.gq rfl (o_move rfl) rfl ?_
  refine RunF.gq rfl (o_call (no := 1) (nr := 3) rfl rfl rfl (by (repeat' first | exact cl_nil | exact cL_flat rfl | exact cL_flat (ints_flat _) | exact cL_flat (sams_flat _) | exact cL_flat (tks_flat _) | exact cL_flat (ous_flat _) | exact cL_flat (ves_flat _) | apply cL_vs | apply cl_cons | exact cv_flat rfl | apply cv_agg | apply cv_ptr_o | apply cv_sl_o rfl | apply cv_func | exact cO_old rfl | (apply cO_new; (focus rfl); (focus rfl)) | (apply cv_sl_r; (focus rfl); (focus rfl); (focus (first | (simp; done) | (simp only [sams_length, tks_length, ous_length, ves_length]; omega))); (focus (first | exact ints_all _ | exact rowsF_all Sam.len _ | exact rowsF_all Tk.len _ | exact rowsF_all Ou.len _ | exact rowsF_all Ve.len _ | exact rowsF_win Sam.len _ _ | exact rowsF_win Tk.len _ _ | exact rowsF_from Tk.len _ | rfl))) | (apply cv_ptr_r rfl ?_ rfl rfl) | (simp only [List.nil_append, List.cons_append, List.length_cons, List.length_nil, Nat.zero_add, Nat.reduceAdd, List.set_cons_zero, List.set_cons_succ]; rfl) | rfl)) (by rfl) (by exact rbegins_ok A C false false (by omega)) (by rfl) rfl rfl (by first | exact reV_bare _ _ rfl | (simp only [reV, reVs, List.all_cons, List.all_nil, AV.flat, Bool.and_true, Bool.true_and, Bool.false_and, Bool.and_false, Bool.false_eq_true, reduceIte, CS.de, List.getElem?_cons_zero, List.getElem?_cons_succ, List.getElem?_nil, List.length_cons, List.length_nil, Nat.reduceSub, Nat.reduceAdd, Nat.zero_add, Nat.add_zero, Nat.sub_self]; rfl)) rfl) (by rfl) ?_
  refine RunF.gq rfl (o_bin (v := .bool true) rfl rfl (by simp [binA, tk4])) rfl ?_
  refine RunF.q (o_pick_t rfl rfl) rfl ?_
  refine RunF.q (o_move rfl) rfl ?_
  refine RunF.gq rfl (o_move rfl) rfl ?_
  refine RunF.gq rfl (o_call (no := 1) (nr := 3) rfl rfl rfl (by (repeat' first | exact cl_nil | exact cL_flat rfl | exact cL_flat (ints_flat _) | exact cL_flat (sams_flat _) | exact cL_flat (tks_flat _) | exact cL_flat (ous_flat _) | exact cL_flat (ves_flat _) | apply cL_vs | apply cl_cons | exact cv_flat rfl | apply cv_agg | apply cv_ptr_o | apply cv_sl_o rfl | apply cv_func | exact cO_old rfl | (apply cO_new; (focus rfl); (focus rfl)) | (apply cv_sl_r; (focus rfl); (focus rfl); (focus (first | (simp; done) | (simp only [sams_length, tks_length, ous_length, ves_length]; omega))); (focus (first | exact ints_all _ | exact rowsF_all Sam.len _ | exact rowsF_all Tk.len _ | exact rowsF_all Ou.len _ | exact rowsF_all Ve.len _ | exact rowsF_win Sam.len _ _ | exact rowsF_win Tk.len _ _ | exact rowsF_from Tk.len _ | rfl))) | (apply cv_ptr_r rfl ?_ rfl rfl) | (simp only [List.nil_append, List.cons_append, List.length_cons, List.length_nil, Nat.zero_add, Nat.reduceAdd, List.set_cons_zero, List.set_cons_succ]; rfl) | rfl)) (by rfl) (by exact rises_ok L false (by omega)) (by rfl) rfl rfl (by first | exact reV_bare _ _ rfl | (simp only [reV, reVs, List.all_cons, List.all_nil, AV.flat, Bool.and_true, Bool.true_and, Bool.false_and, Bool.and_false, Bool.false_eq_true, reduceIte, CS.de, List.getElem?_cons_zero, List.getElem?_cons_succ, List.getElem?_nil, List.length_cons, List.length_nil, Nat.reduceSub, Nat.reduceAdd, Nat.zero_add, Nat.add_zero, Nat.sub_self]; rfl)) rfl) (by rfl) ?_
  refine RunF.gq rfl (o_move rfl) rfl ?_
  refine RunF.gq rfl (o_call (no := 1) (nr := 3) rfl rfl rfl (by (repeat' first | exact cl_nil | exact cL_flat rfl | exact cL_flat (ints_flat _) | exact cL_flat (sams_flat _) | exact cL_flat (tks_flat _) | exact cL_flat (ous_flat _) | exact cL_flat (ves_flat _) | apply cL_vs | apply cl_cons | exact cv_flat rfl | apply cv_agg | apply cv_ptr_o | apply cv_sl_o rfl | apply cv_func | exact cO_old rfl | (apply cO_new; (focus rfl); (focus rfl)) | (apply cv_sl_r; (focus rfl); (focus rfl); (focus (first | (simp; done) | (simp only [sams_length, tks_length, ous_length, ves_length]; omega))); (focus (first | exact ints_all _ | exact rowsF_all Sam.len _ | exact rowsF_all Tk.len _ | exact rowsF_all Ou.len _ | exact rowsF_all Ve.len _ | exact rowsF_win Sam.len _ _ | exact rowsF_win Tk.len _ _ | exact rowsF_from Tk.len _ | rfl))) | (apply cv_ptr_r rfl ?_ rfl rfl) | (simp only [List.nil_append, List.cons_append, List.length_cons, List.length_nil, Nat.zero_add, Nat.reduceAdd, List.set_cons_zero, List.set_cons_succ]; rfl) | rfl)) (by rfl) (by exact rrises_ok L false (by omega)) (by rfl) rfl rfl (by first | exact reV_bare _ _ rfl | (simp only [reV, reVs, List.all_cons, List.all_nil, AV.flat, Bool.and_true, Bool.true_and, Bool.false_and, Bool.and_false, Bool.false_eq_true, reduceIte, CS.de, List.getElem?_cons_zero, List.getElem?_cons_succ, List.getElem?_nil, List.length_cons, List.length_nil, Nat.reduceSub, Nat.reduceAdd, Nat.zero_add, Nat.add_zero, Nat.sub_self]; rfl)) rfl) (by rfl) ?_
  refine RunF.gq rfl (o_bin (v := .bool true) rfl rfl (by simp [binA, tk4])) rfl ?_
  refine RunF.q (o_pick_t rfl rfl) rfl ?_
  refine RunF.q (o_move rfl) rfl ?_
  refine RunF.gq rfl (o_move rfl) rfl ?_
  refine RunF.gq rfl (o_move rfl) rfl ?_
  refine RunF.gw rfl (o_call (no := 1) (nr := 3) rfl rfl rfl (by (repeat' first | exact cl_nil | exact cL_flat rfl | exact cL_flat (ints_flat _) | exact cL_flat (sams_flat _) | exact cL_flat (tks_flat _) | exact cL_flat (ous_flat _) | exact cL_flat (ves_flat _) | apply cL_vs | apply cl_cons | exact cv_flat rfl | apply cv_agg | apply cv_ptr_o | apply cv_sl_o rfl | apply cv_func | exact cO_old rfl | (apply cO_new; (focus rfl); (focus rfl)) | (apply cv_sl_r; (focus rfl); (focus rfl); (focus (first | (simp; done) | (simp only [sams_length, tks_length, ous_length, ves_length]; omega))); (focus (first | exact ints_all _ | exact rowsF_all Sam.len _ | exact rowsF_all Tk.len _ | exact rowsF_all Ou.len _ | exact rowsF_all Ve.len _ | exact rowsF_win Sam.len _ _ | exact rowsF_win Tk.len _ _ | exact rowsF_from Tk.len _ | rfl))) | (apply cv_ptr_r rfl ?_ rfl rfl) | (simp only [List.nil_append, List.cons_append, List.length_cons, List.length_nil, Nat.zero_add, Nat.reduceAdd, List.set_cons_zero, List.set_cons_succ]; rfl) | rfl)) (by rfl) (by exact ofL_O L false gen (by omega) O hO hne) (by rfl) rfl rfl (by first | exact reV_bare _ _ rfl | (simp only [reV, reVs, List.all_cons, List.all_nil, AV.flat, Bool.and_true, Bool.true_and, Bool.false_and, Bool.and_false, Bool.false_eq_true, reduceIte, CS.de, List.getElem?_cons_zero, List.getElem?_cons_succ, List.getElem?_nil, List.length_cons, List.length_nil, Nat.reduceSub, Nat.reduceAdd, Nat.zero_add, Nat.add_zero, Nat.sub_self]; rfl)) (by simp only [CS.eff, rdsR, rdsO, List.map_cons, List.map_nil, reL_ints, reL_ves, reL_ous, num, List.nil_append, List.append_nil, List.cons_append]; rfl)) (by simp only [H.app, appO, patchAll, patch, List.map_cons, List.map_nil, List.append_nil, List.nil_append, List.cons_append, List.set_cons_zero, List.set_cons_succ, Option.map_some, Option.map_none, List.contains_cons, List.contains_nil, Nat.reduceAdd, Nat.reduceEqDiff, Nat.reduceBEq, Bool.or_false, Bool.false_eq_true, reduceIte, Nat.zero_add]; rfl) ?_
  refine RunF.gq rfl (o_move rfl) rfl ?_
  refine RunF.gq rfl (o_move rfl) rfl ?_
  refine RunF.gw rfl (o_call (no := 2) (nr := 3) rfl rfl rfl (by (repeat' first | exact cl_nil | exact cL_flat rfl | exact cL_flat (ints_flat _) | exact cL_flat (sams_flat _) | exact cL_flat (tks_flat _) | exact cL_flat (ous_flat _) | exact cL_flat (ves_flat _) | apply cL_vs | apply cl_cons | exact cv_flat rfl | apply cv_agg | apply cv_ptr_o | apply cv_sl_o rfl | apply cv_func | exact cO_old rfl | (apply cO_new; (focus rfl); (focus rfl)) | (apply cv_sl_r; (focus rfl); (focus rfl); (focus (first | (simp; done) | (simp only [sams_length, tks_length, ous_length, ves_length]; omega))); (focus (first | exact ints_all _ | exact rowsF_all Sam.len _ | exact rowsF_all Tk.len _ | exact rowsF_all Ou.len _ | exact rowsF_all Ve.len _ | exact rowsF_win Sam.len _ _ | exact rowsF_win Tk.len _ _ | exact rowsF_from Tk.len _ | rfl))) | (apply cv_ptr_r rfl ?_ rfl rfl) | (simp only [List.nil_append, List.cons_append, List.length_cons, List.length_nil, Nat.zero_add, Nat.reduceAdd, List.set_cons_zero, List.set_cons_succ]; rfl) | rfl)) (by rfl) (by exact rofL_O L false gen (by omega) O hO hne) (by rfl) rfl rfl (by first | exact reV_bare _ _ rfl | (simp only [reV, reVs, List.all_cons, List.all_nil, AV.flat, Bool.and_true, Bool.true_and, Bool.false_and, Bool.and_false, Bool.false_eq_true, reduceIte, CS.de, List.getElem?_cons_zero, List.getElem?_cons_succ, List.getElem?_nil, List.length_cons, List.length_nil, Nat.reduceSub, Nat.reduceAdd, Nat.zero_add, Nat.add_zero, Nat.sub_self]; rfl)) (by simp only [CS.eff, rdsR, rdsO, List.map_cons, List.map_nil, reL_ints, reL_ves, reL_ous, num, List.nil_append, List.append_nil, List.cons_append]; rfl)) (by simp only [H.app, appO, patchAll, patch, List.map_cons, List.map_nil, List.append_nil, List.nil_append, List.cons_append, List.set_cons_zero, List.set_cons_succ, Option.map_some, Option.map_none, List.contains_cons, List.contains_nil, Nat.reduceAdd, Nat.reduceEqDiff, Nat.reduceBEq, Bool.or_false, Bool.false_eq_true, reduceIte, Nat.zero_add]; rfl) ?_
  refine RunF.gq rfl (o_call (no := 3) (nr := 3) rfl rfl rfl (by (repeat' first | exact cl_nil | exact cL_flat rfl | exact cL_flat (ints_flat _) | exact cL_flat (sams_flat _) | exact cL_flat (tks_flat _) | exact cL_flat (ous_flat _) | exact cL_flat (ves_flat _) | apply cL_vs | apply cl_cons | exact cv_flat rfl | apply cv_agg | apply cv_ptr_o | apply cv_sl_o rfl | apply cv_func | exact cO_old rfl | (apply cO_new; (focus rfl); (focus rfl)) | (apply cv_sl_r; (focus rfl); (focus rfl); (focus (first | (simp; done) | (simp only [sams_length, tks_length, ous_length, ves_length]; omega))); (focus (first | exact ints_all _ | exact rowsF_all Sam.len _ | exact rowsF_all Tk.len _ | exact rowsF_all Ou.len _ | exact rowsF_all Ve.len _ | exact rowsF_win Sam.len _ _ | exact rowsF_win Tk.len _ _ | exact rowsF_from Tk.len _ | rfl))) | (apply cv_ptr_r rfl ?_ rfl rfl) | (simp only [List.nil_append, List.cons_append, List.length_cons, List.length_nil, Nat.zero_add, Nat.reduceAdd, List.set_cons_zero, List.set_cons_succ]; rfl) | rfl)) (by rfl) (by exact outs_same O false false hlen) (by rfl) rfl rfl (by first | exact reV_bare _ _ rfl | (simp only [reV, reVs, List.all_cons, List.all_nil, AV.flat, Bool.and_true, Bool.true_and, Bool.false_and, Bool.and_false, Bool.false_eq_true, reduceIte, CS.de, List.getElem?_cons_zero, List.getElem?_cons_succ, List.getElem?_nil, List.length_cons, List.length_nil, Nat.reduceSub, Nat.reduceAdd, Nat.zero_add, Nat.add_zero, Nat.sub_self]; rfl)) rfl) (by rfl) ?_
  refine RunF.q (o_pick_t rfl rfl) rfl ?_
  refine RunF.q (o_assign rfl) rfl ?_
  refine AW.ret ?_
  exact FinQ.ret [] [] (ress_tmp rfl ress_nil) rfl .nil (.cons rfl rfl (PRN.flat (sams_flat _)) (.cons rfl rfl (PRN.flat (sams_flat _)) (.cons rfl rfl (PRN.flat (tks_flat _)) .nil))) (by repeat' first | exact RN.self rfl | exact RN.top | exact RN.ptr rfl | exact RN.sl rfl | exact RN.slf rfl | apply RN.agg | apply RN.tuple | apply RN.fn | exact RNs.nil | apply RNs.cons | (apply RNs.flat; simp; done))

set_option maxHeartbeats 1000000 in
theorem bookBeg_no (A C : List Sam) (n : Int) (h : IntKind.i64.wrap ((A.length : Int) + (C.length : Int)) > 60) : SoundC Try.prog 21 [.sl (.r 0) 0 A.length 13 false, .sl (.r 1) 0 C.length 13 false, .int .i64 n] ⟨[sams A, sams C], []⟩ { val := .bool true } := by
  refine SoundC.of (N := 84) Try.func21 rfl rfl rfl rfl ?_
  refine AW.seq ?_
  refine AW.region (by kernel_rfl) ?_
  refine RunF.q (o_assign rfl) rfl ?_
  refine AW.seq ?_
  refine AW.region (by kernel_rfl) ?_
  refine RunF.q (o_call (no := 0) (nr := 2) rfl rfl rfl (by (repeat' first | exact cl_nil | exact cL_flat rfl | exact cL_flat (ints_flat _) | apply cL_vs | apply cl_cons | exact cv_flat rfl | apply cv_agg | apply cv_ptr_o | apply cv_sl_o rfl | apply cv_func | exact cO_old rfl | (apply cO_new; (focus rfl); (focus rfl)) | (apply cv_sl_r; (focus rfl); (focus rfl); (focus (simp; done)); (focus (first | exact ints_all _ | rfl))) | (apply cv_ptr_r rfl ?_ rfl rfl) | (simp only [List.nil_append, List.cons_append, List.length_cons, List.length_nil, Nat.zero_add, Nat.reduceAdd, List.set_cons_zero, List.set_cons_succ]; rfl) | rfl)) (by rfl) (by exact shown13_ok) (by rfl) rfl rfl (by first | exact reV_bare _ _ rfl | (simp only [reV, reVs, List.all_cons, List.all_nil, AV.flat, Bool.and_true, Bool.true_and, Bool.false_and, Bool.and_false, Bool.false_eq_true, reduceIte, CS.de, List.getElem?_cons_zero, List.getElem?_cons_succ, List.getElem?_nil, List.length_cons, List.length_nil, Nat.reduceSub, Nat.reduceAdd, Nat.zero_add, Nat.add_zero, Nat.sub_self]; rfl)) rfl) (by rfl) ?_
  refine RunF.q (o_assign rfl) rfl ?_
  refine AW.seq ?_
  refine AW.seq ?_
  refine AW.region (by kernel_rfl) ?_
  refine RunF.q (o_move rfl) rfl ?_
  first | refine RunF.q (o_len tk93 rfl) rfl ?_ | refine RunF.q (o_len_nil tk93 rfl) rfl ?_
  refine RunF.q (o_move rfl) rfl ?_
  first | refine RunF.q (o_len tk93 rfl) rfl ?_ | refine RunF.q (o_len_nil tk93 rfl) rfl ?_
  refine RunF.q (o_add (m := IntKind.i64.wrap ((A.length : Int) + (C.length : Int))) rfl rfl rfl) rfl ?_
  refine RunF.q (o_gtr rfl rfl) rfl ?_
  refine AW.cond rfl (fun hc0 => ?_) (fun hc0 => absurd hc0 (by rw [decide_eq_true h]; simp))
  refine AW.seq ?_
  refine AW.region (by kernel_rfl) ?_
  refine RunF.q (o_move rfl) rfl ?_
  refine RunF.q (o_assign rfl) rfl ?_
  refine AW.ret ?_
  exact FinQ.ret [] [] (ress_tmp rfl ress_nil) rfl .nil (.cons rfl rfl (PRN.flat (sams_flat _)) (.cons rfl rfl (PRN.flat (sams_flat _)) .nil)) (by repeat' first | exact RN.self rfl | exact RN.top | exact RN.ptr rfl | exact RN.sl rfl | exact RN.slf rfl | apply RN.agg | apply RN.tuple | apply RN.fn | exact RNs.nil | apply RNs.cons | (apply RNs.flat; simp; done))

set_option maxHeartbeats 1000000 in
theorem bookBeg_in (A C : List Sam) (m : Nat) (hA : A.length ≤ 9223372036854775807) (hC : C.length ≤ 9223372036854775807) (h : ¬ IntKind.i64.wrap ((A.length : Int) + (C.length : Int)) > 60) (hm : m ≤ C.length) : SoundC Try.prog 21 [.sl (.r 0) 0 A.length 13 false, .sl (.r 1) 0 C.length 13 false, .int .i64 m] ⟨[sams A, sams C], []⟩ { val := .bool true } := by
  refine SoundC.of (N := 84) Try.func21 rfl rfl rfl rfl ?_
  refine AW.seq ?_
  refine AW.region (by kernel_rfl) ?_
  refine RunF.q (o_assign rfl) rfl ?_
  refine AW.seq ?_
  refine AW.region (by kernel_rfl) ?_
  refine RunF.q (o_call (no := 0) (nr := 2) rfl rfl rfl (by (repeat' first | exact cl_nil | exact cL_flat rfl | exact cL_flat (ints_flat _) | apply cL_vs | apply cl_cons | exact cv_flat rfl | apply cv_agg | apply cv_ptr_o | apply cv_sl_o rfl | apply cv_func | exact cO_old rfl | (apply cO_new; (focus rfl); (focus rfl)) | (apply cv_sl_r; (focus rfl); (focus rfl); (focus (simp; done)); (focus (first | exact ints_all _ | rfl))) | (apply cv_ptr_r rfl ?_ rfl rfl) | (simp only [List.nil_append, List.cons_append, List.length_cons, List.length_nil, Nat.zero_add, Nat.reduceAdd, List.set_cons_zero, List.set_cons_succ]; rfl) | rfl)) (by rfl) (by exact shown13_ok) (by rfl) rfl rfl (by first | exact reV_bare _ _ rfl | (simp only [reV, reVs, List.all_cons, List.all_nil, AV.flat, Bool.and_true, Bool.true_and, Bool.false_and, Bool.and_false, Bool.false_eq_true, reduceIte, CS.de, List.getElem?_cons_zero, List.getElem?_cons_succ, List.getElem?_nil, List.length_cons, List.length_nil, Nat.reduceSub, Nat.reduceAdd, Nat.zero_add, Nat.add_zero, Nat.sub_self]; rfl)) rfl) (by rfl) ?_
  refine RunF.q (o_assign rfl) rfl ?_
  refine AW.seq ?_
  refine AW.seq ?_
  refine AW.region (by kernel_rfl) ?_
  refine RunF.q (o_move rfl) rfl ?_
  first | refine RunF.q (o_len tk93 rfl) rfl ?_ | refine RunF.q (o_len_nil tk93 rfl) rfl ?_
  refine RunF.q (o_move rfl) rfl ?_
  first | refine RunF.q (o_len tk93 rfl) rfl ?_ | refine RunF.q (o_len_nil tk93 rfl) rfl ?_
  refine RunF.q (o_add (m := IntKind.i64.wrap ((A.length : Int) + (C.length : Int))) rfl rfl rfl) rfl ?_
  refine RunF.q (o_gtr rfl rfl) rfl ?_
  refine AW.cond rfl (fun hc0 => absurd hc0 (by rw [decide_eq_false h]; simp)) (fun hc0 => ?_)
  refine AW.skip ?_
  refine AW.seq ?_
  refine AW.seq ?_
  refine AW.region (by kernel_rfl) ?_
  refine RunF.q (o_move rfl) rfl ?_
  refine RunF.q (o_geq rfl rfl) rfl ?_
  refine RunF.br (o_move rfl) rfl (fun hb4_2 => ?_) (fun hb4_2 => ?_)
  · try simp only [decide_eq_true_eq, decide_eq_false_iff_not, bne_iff_ne, beq_iff_eq, bne_eq_false_iff_eq, beq_eq_false_iff_ne, ne_eq, Bool.not_eq_true', Bool.not_eq_false'] at hb4_2
    refine RunF.gq rfl (o_move rfl) rfl ?_
    refine RunF.gq rfl (o_move rfl) rfl ?_
    first | refine RunF.gq rfl (o_len tk93 rfl) rfl ?_ | refine RunF.gq rfl (o_len_nil tk93 rfl) rfl ?_
    refine RunF.gq rfl (o_leq rfl rfl) rfl ?_
    refine RunF.q (o_pick_t rfl rfl) rfl ?_
    refine RunF.br (o_move rfl) rfl (fun hb4_8 => ?_) (fun hb4_8 => ?_)
    · try simp only [decide_eq_true_eq, decide_eq_false_iff_not, bne_iff_ne, beq_iff_eq, bne_eq_false_iff_eq, beq_eq_false_iff_ne, ne_eq, Bool.not_eq_true', Bool.not_eq_false'] at hb4_8
      refine RunF.gq rfl (o_move rfl) rfl ?_
      refine RunF.gq rfl (o_move rfl) rfl ?_
      refine RunF.gq rfl (o_slice_sl (m := 0) (r := m) tk93 ts87 rfl rfl rfl rfl (by omega) rfl rfl (by simp) (by simp) rfl) rfl ?_
      refine RunF.gq rfl (o_move rfl) rfl ?_
      refine RunF.gq rfl (o_call (no := 0) (nr := 2) rfl rfl rfl (by (repeat' first | exact cl_nil | exact cL_flat rfl | exact cL_flat (ints_flat _) | exact cL_flat (sams_flat _) | exact cL_flat (tks_flat _) | exact cL_flat (ous_flat _) | exact cL_flat (ves_flat _) | apply cL_vs | apply cl_cons | exact cv_flat rfl | apply cv_agg | apply cv_ptr_o | apply cv_sl_o rfl | apply cv_func | exact cO_old rfl | (apply cO_new; (focus rfl); (focus rfl)) | (apply cv_sl_r; (focus rfl); (focus rfl); (focus (first | (simp; done) | (simp only [sams_length, tks_length, ous_length, ves_length]; omega))); (focus (first | exact ints_all _ | exact rowsF_all Sam.len _ | exact rowsF_all Tk.len _ | exact rowsF_all Ou.len _ | exact rowsF_all Ve.len _ | exact rowsF_win Sam.len _ _ | exact rowsF_win Tk.len _ _ | exact rowsF_from Tk.len _ | rfl))) | (apply cv_ptr_r rfl ?_ rfl rfl) | (simp only [List.nil_append, List.cons_append, List.length_cons, List.length_nil, Nat.zero_add, Nat.reduceAdd, List.set_cons_zero, List.set_cons_succ]; rfl) | rfl)) (by rfl) (by exact begins_is (A := C.take m) (C := C) (z := true) (by rw [List.length_take]; omega) (by rw [List.length_take]; omega) rfl (begins_take C m)) (by rfl) rfl rfl (by first | exact reV_bare _ _ rfl | (simp only [reV, reVs, List.all_cons, List.all_nil, AV.flat, Bool.and_true, Bool.true_and, Bool.false_and, Bool.and_false, Bool.false_eq_true, reduceIte, CS.de, List.getElem?_cons_zero, List.getElem?_cons_succ, List.getElem?_nil, List.length_cons, List.length_nil, Nat.reduceSub, Nat.reduceAdd, Nat.zero_add, Nat.add_zero, Nat.sub_self]; rfl)) rfl) (by rfl) ?_
      refine RunF.gq rfl (o_not rfl) rfl ?_
      refine RunF.gq rfl (o_move rfl) rfl ?_
      refine RunF.gq rfl (o_move rfl) rfl ?_
      refine RunF.gq rfl (o_move rfl) rfl ?_
      refine RunF.gq rfl (o_move rfl) rfl ?_
      refine RunF.gq rfl (o_slice_sl (m := 0) (r := m) tk93 ts87 rfl rfl rfl rfl (by omega) rfl rfl (by simp) (by simp) rfl) rfl ?_
      refine RunF.gq rfl (o_call (no := 0) (nr := 2) rfl rfl rfl (by (repeat' first | exact cl_nil | exact cL_flat rfl | exact cL_flat (ints_flat _) | exact cL_flat (sams_flat _) | exact cL_flat (tks_flat _) | exact cL_flat (ous_flat _) | exact cL_flat (ves_flat _) | apply cL_vs | apply cl_cons | exact cv_flat rfl | apply cv_agg | apply cv_ptr_o | apply cv_sl_o rfl | apply cv_func | exact cO_old rfl | (apply cO_new; (focus rfl); (focus rfl)) | (apply cv_sl_r; (focus rfl); (focus rfl); (focus (first | (simp; done) | (simp only [sams_length, tks_length, ous_length, ves_length]; omega))); (focus (first | exact ints_all _ | exact rowsF_all Sam.len _ | exact rowsF_all Tk.len _ | exact rowsF_all Ou.len _ | exact rowsF_all Ve.len _ | exact rowsF_win Sam.len _ _ | exact rowsF_win Tk.len _ _ | exact rowsF_from Tk.len _ | rfl))) | (apply cv_ptr_r rfl ?_ rfl rfl) | (simp only [List.nil_append, List.cons_append, List.length_cons, List.length_nil, Nat.zero_add, Nat.reduceAdd, List.set_cons_zero, List.set_cons_succ]; rfl) | rfl)) (by rfl) (by exact begins_is (A := C) (C := C.take m) (by omega) rfl (by rw [List.length_take]; omega) (begins_back hm)) (by rfl) rfl rfl (by first | exact reV_bare _ _ rfl | (simp only [reV, reVs, List.all_cons, List.all_nil, AV.flat, Bool.and_true, Bool.true_and, Bool.false_and, Bool.and_false, Bool.false_eq_true, reduceIte, CS.de, List.getElem?_cons_zero, List.getElem?_cons_succ, List.getElem?_nil, List.length_cons, List.length_nil, Nat.reduceSub, Nat.reduceAdd, Nat.zero_add, Nat.add_zero, Nat.sub_self]; rfl)) rfl) (by rfl) ?_
      refine RunF.gq rfl (o_move rfl) rfl ?_
      refine RunF.gq rfl (o_move rfl) rfl ?_
      first | refine RunF.gq rfl (o_len tk93 rfl) rfl ?_ | refine RunF.gq rfl (o_len_nil tk93 rfl) rfl ?_
      refine RunF.gq rfl (o_eql rfl rfl) rfl ?_
      refine RunF.gq rfl (o_bin (v := .bool false) rfl rfl (by simp [binA, tk4] <;> rfl)) rfl ?_
      refine RunF.gq rfl (o_pick_f rfl rfl) rfl ?_
      refine RunF.q (o_pick_t rfl rfl) rfl ?_
      refine AW.cond rfl (fun hc1 => absurd hc1 (by first | (intro h; cases h; done) | (intro h; simp at h; omega))) (fun hc1 => ?_)
      refine AW.skip ?_
      refine AW.seq ?_
      refine AW.region (by kernel_rfl) ?_
      refine RunF.q (o_move rfl) rfl ?_
      refine RunF.q (o_move rfl) rfl ?_
      refine RunF.q (o_call (no := 0) (nr := 2) rfl rfl rfl (by (repeat' first | exact cl_nil | exact cL_flat rfl | exact cL_flat (ints_flat _) | exact cL_flat (sams_flat _) | exact cL_flat (tks_flat _) | exact cL_flat (ous_flat _) | exact cL_flat (ves_flat _) | apply cL_vs | apply cl_cons | exact cv_flat rfl | apply cv_agg | apply cv_ptr_o | apply cv_sl_o rfl | apply cv_func | exact cO_old rfl | (apply cO_new; (focus rfl); (focus rfl)) | (apply cv_sl_r; (focus rfl); (focus rfl); (focus (first | (simp; done) | (simp only [sams_length, tks_length, ous_length, ves_length]; omega))); (focus (first | exact ints_all _ | exact rowsF_all Sam.len _ | exact rowsF_all Tk.len _ | exact rowsF_all Ou.len _ | exact rowsF_all Ve.len _ | exact rowsF_win Sam.len _ _ | exact rowsF_win Tk.len _ _ | exact rowsF_from Tk.len _ | rfl))) | (apply cv_ptr_r rfl ?_ rfl rfl) | (simp only [List.nil_append, List.cons_append, List.length_cons, List.length_nil, Nat.zero_add, Nat.reduceAdd, List.set_cons_zero, List.set_cons_succ]; rfl) | rfl)) (by rfl) (by exact begins_is (by omega) rfl rfl rfl) (by rfl) rfl rfl (by first | exact reV_bare _ _ rfl | (simp only [reV, reVs, List.all_cons, List.all_nil, AV.flat, Bool.and_true, Bool.true_and, Bool.false_and, Bool.and_false, Bool.false_eq_true, reduceIte, CS.de, List.getElem?_cons_zero, List.getElem?_cons_succ, List.getElem?_nil, List.length_cons, List.length_nil, Nat.reduceSub, Nat.reduceAdd, Nat.zero_add, Nat.add_zero, Nat.sub_self]; rfl)) rfl) (by rfl) ?_
      refine RunF.br (o_move rfl) rfl (fun hb6_3 => ?_) (fun hb6_3 => ?_)
      · try simp only [decide_eq_true_eq, decide_eq_false_iff_not, bne_iff_ne, beq_iff_eq, bne_eq_false_iff_eq, beq_eq_false_iff_ne, ne_eq, Bool.not_eq_true', Bool.not_eq_false'] at hb6_3
        refine RunF.gq rfl (o_move rfl) rfl ?_
        refine RunF.gq rfl (o_move rfl) rfl ?_
        refine RunF.gq rfl (o_call (no := 0) (nr := 2) rfl rfl rfl (by (repeat' first | exact cl_nil | exact cL_flat rfl | exact cL_flat (ints_flat _) | exact cL_flat (sams_flat _) | exact cL_flat (tks_flat _) | exact cL_flat (ous_flat _) | exact cL_flat (ves_flat _) | apply cL_vs | apply cl_cons | exact cv_flat rfl | apply cv_agg | apply cv_ptr_o | apply cv_sl_o rfl | apply cv_func | exact cO_old rfl | (apply cO_new; (focus rfl); (focus rfl)) | (apply cv_sl_r; (focus rfl); (focus rfl); (focus (first | (simp; done) | (simp only [sams_length, tks_length, ous_length, ves_length]; omega))); (focus (first | exact ints_all _ | exact rowsF_all Sam.len _ | exact rowsF_all Tk.len _ | exact rowsF_all Ou.len _ | exact rowsF_all Ve.len _ | exact rowsF_win Sam.len _ _ | exact rowsF_win Tk.len _ _ | exact rowsF_from Tk.len _ | rfl))) | (apply cv_ptr_r rfl ?_ rfl rfl) | (simp only [List.nil_append, List.cons_append, List.length_cons, List.length_nil, Nat.zero_add, Nat.reduceAdd, List.set_cons_zero, List.set_cons_succ]; rfl) | rfl)) (by rfl) (by exact begins_is (A := C) (C := A) (by omega) rfl rfl rfl) (by rfl) rfl rfl (by first | exact reV_bare _ _ rfl | (simp only [reV, reVs, List.all_cons, List.all_nil, AV.flat, Bool.and_true, Bool.true_and, Bool.false_and, Bool.and_false, Bool.false_eq_true, reduceIte, CS.de, List.getElem?_cons_zero, List.getElem?_cons_succ, List.getElem?_nil, List.length_cons, List.length_nil, Nat.reduceSub, Nat.reduceAdd, Nat.zero_add, Nat.add_zero, Nat.sub_self]; rfl)) rfl) (by rfl) ?_
        refine RunF.q (o_pick_t rfl rfl) rfl ?_
        refine RunF.q (o_assign (v := .bool (begins A C && begins C A)) (by rw [hb6_3]; rfl)) rfl ?_
        refine AW.seq ?_
        refine AW.region (by kernel_rfl) ?_
        refine RunF.q (o_move rfl) rfl ?_
        first | refine RunF.q (o_len tk93 rfl) rfl ?_ | refine RunF.q (o_len_nil tk93 rfl) rfl ?_
        refine RunF.q (o_move rfl) rfl ?_
        first | refine RunF.q (o_len tk93 rfl) rfl ?_ | refine RunF.q (o_len_nil tk93 rfl) rfl ?_
        refine RunF.q (o_eql rfl rfl) rfl ?_
        refine RunF.q (o_assign (v := .bool (sameTo A C 0)) (by rw [sameTo_zero]; rfl)) rfl ?_
        refine AW.seq ?_
        refine AW.seq ?_
        refine AW.region (by kernel_rfl) ?_
        refine RunF.q (o_assign rfl) rfl ?_
        refine AW.block ?_
        refine AW.loop (α := {i : Nat // i ≤ A.length}) (fun x : {i : Nat // i ≤ A.length} => ([(0, .sl (.r 0) 0 A.length 13 false), (1, .sl (.r 1) 0 C.length 13 false), (7, .bool true), (8, .bool (begins A C && begins C A)), (9, .bool (sameTo A C x.1)), (10, .int .i64 x.1)], ⟨[sams A, sams C], []⟩)) (fun x => A.length - x.1) (fun x => ?_) ⟨0, by omega⟩ ?_
        · obtain ⟨i, hx⟩ := x
          try dsimp only at hx
          try dsimp only
          refine AW.seq ?_
          refine AW.seq ?_
          refine AW.region (by kernel_rfl) ?_
          refine RunF.q (o_move rfl) rfl ?_
          refine RunF.q (o_move rfl) rfl ?_
          first | refine RunF.q (o_len tk93 rfl) rfl ?_ | refine RunF.q (o_len_nil tk93 rfl) rfl ?_
          refine RunF.q (o_lss rfl rfl) rfl ?_
          refine RunF.br (o_move rfl) rfl (fun hb9_4 => ?_) (fun hb9_4 => ?_)
          · try simp only [decide_eq_true_eq, decide_eq_false_iff_not, bne_iff_ne, beq_iff_eq, bne_eq_false_iff_eq, beq_eq_false_iff_ne, ne_eq, Bool.not_eq_true', Bool.not_eq_false'] at hb9_4
            refine RunF.gq rfl (o_move rfl) rfl ?_
            refine RunF.q (o_pick_t rfl rfl) rfl ?_
            refine AW.cond rfl (fun hc2 => ?_) (fun hc2 => ?_)
            · try simp only [decide_eq_true_eq, decide_eq_false_iff_not, bne_iff_ne, beq_iff_eq, bne_eq_false_iff_eq, beq_eq_false_iff_ne, ne_eq, Bool.not_eq_true', Bool.not_eq_false'] at hc2
              have hlAC := sameTo_len hc2
              refine AW.skip ?_
              refine AW.seq ?_
              refine AW.block ?_
              refine AW.draws (by kernel_rfl) (by kernel_rfl) ?_
              refine RunV.q (o_move rfl) rfl ?_
              refine RunV.q (o_move rfl) rfl ?_
              refine RunV.q (o_indexAddr (m := i * 13) tk93 ts87 rfl rfl (by omega) (by omega)) rfl ?_
              refine RunV.q (o_load_agg (cs := (A.getD i default).cells) rfl tk87 ts87 rfl rfl (rowsF_le Sam.len (by omega)) (rowsF_at Sam.len (by omega))) rfl ?_
              refine RunV.q (o_move rfl) rfl ?_
              refine RunV.q (o_move rfl) rfl ?_
              refine RunV.q (o_indexAddr (m := i * 13) tk93 ts87 rfl rfl (by omega) (by omega)) rfl ?_
              refine RunV.q (o_load_agg (cs := (C.getD i default).cells) rfl tk87 ts87 rfl rfl (rowsF_le Sam.len (by omega)) (rowsF_at Sam.len (by omega))) rfl ?_
              refine RunV.q (o_eqa (z := decide (A.getD i default = C.getD i default)) rfl rfl tk87 ko87 (by rw [eg87]; rfl) (sam_eq _ _)) rfl ?_
              refine RunV.q (o_assign (v := .bool (sameTo A C (i + 1))) (by rw [sameTo_succ hc2]; rfl)) rfl ?_
              refine And.intro (by kernel_rfl) ?_
              refine AW.region (by kernel_rfl) ?_
              refine RunF.q (o_move rfl) rfl ?_
              refine RunF.q (o_add rfl rfl (by first | exact i64_in _ (by omega) | rfl)) rfl ?_
              refine RunF.q (o_assign rfl) rfl ?_
              exact ⟨⟨i + 1, by omega⟩, Wk.same rfl (.cons rfl (.cons rfl (.cons rfl (.cons rfl (.cons rfl (.cons rfl .nil)))))), by dsimp only; omega⟩
            · try simp only [decide_eq_true_eq, decide_eq_false_iff_not, bne_iff_ne, beq_iff_eq, bne_eq_false_iff_eq, beq_eq_false_iff_ne, ne_eq, Bool.not_eq_true', Bool.not_eq_false'] at hc2
              have hfin : sameTo A C i = decide (A = C) := by first | assumption | exact sameTo_no hc2 hx
              refine AW.exit ?_
              refine AW.seq ?_
              refine AW.region (by kernel_rfl) ?_
              refine RunF.q (o_move rfl) rfl ?_
              refine RunF.q (o_move rfl) rfl ?_
              refine RunF.gq rfl (o_move rfl) rfl ?_
              refine RunF.gq rfl (o_move rfl) rfl ?_
              refine RunF.gq rfl (o_bin (v := .bool true) rfl rfl (by simp only [binA, tk4]; rw [begins_both, hfin]; simp)) rfl ?_
              refine RunF.q (o_pick_t rfl rfl) rfl ?_
              refine RunF.q (o_assign rfl) rfl ?_
              refine AW.ret ?_
              exact FinQ.ret [] [] (ress_tmp rfl ress_nil) rfl .nil (.cons rfl rfl (PRN.flat (sams_flat _)) (.cons rfl rfl (PRN.flat (sams_flat _)) .nil)) (by repeat' first | exact RN.self rfl | exact RN.top | exact RN.ptr rfl | exact RN.sl rfl | exact RN.slf rfl | apply RN.agg | apply RN.tuple | apply RN.fn | exact RNs.nil | apply RNs.cons | (apply RNs.flat; simp; done))
          · try simp only [decide_eq_true_eq, decide_eq_false_iff_not, bne_iff_ne, beq_iff_eq, bne_eq_false_iff_eq, beq_eq_false_iff_ne, ne_eq, Bool.not_eq_true', Bool.not_eq_false'] at hb9_4
            have hfin : sameTo A C i = decide (A = C) := sameTo_at (by omega)
            refine RunF.gs (b := false) rfl rfl ?_
            refine RunF.q (o_pick_f rfl rfl) rfl ?_
            refine AW.cond rfl (fun hc2 => absurd hc2 (by simp)) (fun hc2 => ?_)
            have hfin : sameTo A C i = decide (A = C) := by first | assumption | exact sameTo_no hc2 hx
            refine AW.exit ?_
            refine AW.seq ?_
            refine AW.region (by kernel_rfl) ?_
            refine RunF.q (o_move rfl) rfl ?_
            refine RunF.q (o_move rfl) rfl ?_
            refine RunF.gq rfl (o_move rfl) rfl ?_
            refine RunF.gq rfl (o_move rfl) rfl ?_
            refine RunF.gq rfl (o_bin (v := .bool true) rfl rfl (by simp only [binA, tk4]; rw [begins_both, hfin]; simp)) rfl ?_
            refine RunF.q (o_pick_t rfl rfl) rfl ?_
            refine RunF.q (o_assign rfl) rfl ?_
            refine AW.ret ?_
            exact FinQ.ret [] [] (ress_tmp rfl ress_nil) rfl .nil (.cons rfl rfl (PRN.flat (sams_flat _)) (.cons rfl rfl (PRN.flat (sams_flat _)) .nil)) (by repeat' first | exact RN.self rfl | exact RN.top | exact RN.ptr rfl | exact RN.sl rfl | exact RN.slf rfl | apply RN.agg | apply RN.tuple | apply RN.fn | exact RNs.nil | apply RNs.cons | (apply RNs.flat; simp; done))
        · exact Wk.same rfl (.cons rfl (.cons rfl (.cons rfl (.cons rfl (.cons rfl (.cons rfl .nil))))))
      · try simp only [decide_eq_true_eq, decide_eq_false_iff_not, bne_iff_ne, beq_iff_eq, bne_eq_false_iff_eq, beq_eq_false_iff_ne, ne_eq, Bool.not_eq_true', Bool.not_eq_false'] at hb6_3
        refine RunF.gs (b := false) rfl rfl ?_
        refine RunF.gs (b := false) rfl rfl ?_
        refine RunF.gs (b := false) rfl rfl ?_
        refine RunF.q (o_pick_f rfl rfl) rfl ?_
        refine RunF.q (o_assign (v := .bool (begins A C && begins C A)) (by rw [hb6_3]; rfl)) rfl ?_
        refine AW.seq ?_
        refine AW.region (by kernel_rfl) ?_
        refine RunF.q (o_move rfl) rfl ?_
        first | refine RunF.q (o_len tk93 rfl) rfl ?_ | refine RunF.q (o_len_nil tk93 rfl) rfl ?_
        refine RunF.q (o_move rfl) rfl ?_
        first | refine RunF.q (o_len tk93 rfl) rfl ?_ | refine RunF.q (o_len_nil tk93 rfl) rfl ?_
        refine RunF.q (o_eql rfl rfl) rfl ?_
        refine RunF.q (o_assign (v := .bool (sameTo A C 0)) (by rw [sameTo_zero]; rfl)) rfl ?_
        refine AW.seq ?_
        refine AW.seq ?_
        refine AW.region (by kernel_rfl) ?_
        refine RunF.q (o_assign rfl) rfl ?_
        refine AW.block ?_
        refine AW.loop (α := {i : Nat // i ≤ A.length}) (fun x : {i : Nat // i ≤ A.length} => ([(0, .sl (.r 0) 0 A.length 13 false), (1, .sl (.r 1) 0 C.length 13 false), (7, .bool true), (8, .bool (begins A C && begins C A)), (9, .bool (sameTo A C x.1)), (10, .int .i64 x.1)], ⟨[sams A, sams C], []⟩)) (fun x => A.length - x.1) (fun x => ?_) ⟨0, by omega⟩ ?_
        · obtain ⟨i, hx⟩ := x
          try dsimp only at hx
          try dsimp only
          refine AW.seq ?_
          refine AW.seq ?_
          refine AW.region (by kernel_rfl) ?_
          refine RunF.q (o_move rfl) rfl ?_
          refine RunF.q (o_move rfl) rfl ?_
          first | refine RunF.q (o_len tk93 rfl) rfl ?_ | refine RunF.q (o_len_nil tk93 rfl) rfl ?_
          refine RunF.q (o_lss rfl rfl) rfl ?_
          refine RunF.br (o_move rfl) rfl (fun hb9_4 => ?_) (fun hb9_4 => ?_)
          · try simp only [decide_eq_true_eq, decide_eq_false_iff_not, bne_iff_ne, beq_iff_eq, bne_eq_false_iff_eq, beq_eq_false_iff_ne, ne_eq, Bool.not_eq_true', Bool.not_eq_false'] at hb9_4
            refine RunF.gq rfl (o_move rfl) rfl ?_
            refine RunF.q (o_pick_t rfl rfl) rfl ?_
            refine AW.cond rfl (fun hc2 => ?_) (fun hc2 => ?_)
            · try simp only [decide_eq_true_eq, decide_eq_false_iff_not, bne_iff_ne, beq_iff_eq, bne_eq_false_iff_eq, beq_eq_false_iff_ne, ne_eq, Bool.not_eq_true', Bool.not_eq_false'] at hc2
              have hlAC := sameTo_len hc2
              refine AW.skip ?_
              refine AW.seq ?_
              refine AW.block ?_
              refine AW.draws (by kernel_rfl) (by kernel_rfl) ?_
              refine RunV.q (o_move rfl) rfl ?_
              refine RunV.q (o_move rfl) rfl ?_
              refine RunV.q (o_indexAddr (m := i * 13) tk93 ts87 rfl rfl (by omega) (by omega)) rfl ?_
              refine RunV.q (o_load_agg (cs := (A.getD i default).cells) rfl tk87 ts87 rfl rfl (rowsF_le Sam.len (by omega)) (rowsF_at Sam.len (by omega))) rfl ?_
              refine RunV.q (o_move rfl) rfl ?_
              refine RunV.q (o_move rfl) rfl ?_
              refine RunV.q (o_indexAddr (m := i * 13) tk93 ts87 rfl rfl (by omega) (by omega)) rfl ?_
              refine RunV.q (o_load_agg (cs := (C.getD i default).cells) rfl tk87 ts87 rfl rfl (rowsF_le Sam.len (by omega)) (rowsF_at Sam.len (by omega))) rfl ?_
              refine RunV.q (o_eqa (z := decide (A.getD i default = C.getD i default)) rfl rfl tk87 ko87 (by rw [eg87]; rfl) (sam_eq _ _)) rfl ?_
              refine RunV.q (o_assign (v := .bool (sameTo A C (i + 1))) (by rw [sameTo_succ hc2]; rfl)) rfl ?_
              refine And.intro (by kernel_rfl) ?_
              refine AW.region (by kernel_rfl) ?_
              refine RunF.q (o_move rfl) rfl ?_
              refine RunF.q (o_add rfl rfl (by first | exact i64_in _ (by omega) | rfl)) rfl ?_
              refine RunF.q (o_assign rfl) rfl ?_
              exact ⟨⟨i + 1, by omega⟩, Wk.same rfl (.cons rfl (.cons rfl (.cons rfl (.cons rfl (.cons rfl (.cons rfl .nil)))))), by dsimp only; omega⟩
            · try simp only [decide_eq_true_eq, decide_eq_false_iff_not, bne_iff_ne, beq_iff_eq, bne_eq_false_iff_eq, beq_eq_false_iff_ne, ne_eq, Bool.not_eq_true', Bool.not_eq_false'] at hc2
              have hfin : sameTo A C i = decide (A = C) := by first | assumption | exact sameTo_no hc2 hx
              refine AW.exit ?_
              refine AW.seq ?_
              refine AW.region (by kernel_rfl) ?_
              refine RunF.q (o_move rfl) rfl ?_
              refine RunF.q (o_move rfl) rfl ?_
              refine RunF.gq rfl (o_move rfl) rfl ?_
              refine RunF.gq rfl (o_move rfl) rfl ?_
              refine RunF.gq rfl (o_bin (v := .bool true) rfl rfl (by simp only [binA, tk4]; rw [begins_both, hfin]; simp)) rfl ?_
              refine RunF.q (o_pick_t rfl rfl) rfl ?_
              refine RunF.q (o_assign rfl) rfl ?_
              refine AW.ret ?_
              exact FinQ.ret [] [] (ress_tmp rfl ress_nil) rfl .nil (.cons rfl rfl (PRN.flat (sams_flat _)) (.cons rfl rfl (PRN.flat (sams_flat _)) .nil)) (by repeat' first | exact RN.self rfl | exact RN.top | exact RN.ptr rfl | exact RN.sl rfl | exact RN.slf rfl | apply RN.agg | apply RN.tuple | apply RN.fn | exact RNs.nil | apply RNs.cons | (apply RNs.flat; simp; done))
          · try simp only [decide_eq_true_eq, decide_eq_false_iff_not, bne_iff_ne, beq_iff_eq, bne_eq_false_iff_eq, beq_eq_false_iff_ne, ne_eq, Bool.not_eq_true', Bool.not_eq_false'] at hb9_4
            have hfin : sameTo A C i = decide (A = C) := sameTo_at (by omega)
            refine RunF.gs (b := false) rfl rfl ?_
            refine RunF.q (o_pick_f rfl rfl) rfl ?_
            refine AW.cond rfl (fun hc2 => absurd hc2 (by simp)) (fun hc2 => ?_)
            have hfin : sameTo A C i = decide (A = C) := by first | assumption | exact sameTo_no hc2 hx
            refine AW.exit ?_
            refine AW.seq ?_
            refine AW.region (by kernel_rfl) ?_
            refine RunF.q (o_move rfl) rfl ?_
            refine RunF.q (o_move rfl) rfl ?_
            refine RunF.gq rfl (o_move rfl) rfl ?_
            refine RunF.gq rfl (o_move rfl) rfl ?_
            refine RunF.gq rfl (o_bin (v := .bool true) rfl rfl (by simp only [binA, tk4]; rw [begins_both, hfin]; simp)) rfl ?_
            refine RunF.q (o_pick_t rfl rfl) rfl ?_
            refine RunF.q (o_assign rfl) rfl ?_
            refine AW.ret ?_
            exact FinQ.ret [] [] (ress_tmp rfl ress_nil) rfl .nil (.cons rfl rfl (PRN.flat (sams_flat _)) (.cons rfl rfl (PRN.flat (sams_flat _)) .nil)) (by repeat' first | exact RN.self rfl | exact RN.top | exact RN.ptr rfl | exact RN.sl rfl | exact RN.slf rfl | apply RN.agg | apply RN.tuple | apply RN.fn | exact RNs.nil | apply RNs.cons | (apply RNs.flat; simp; done))
        · exact Wk.same rfl (.cons rfl (.cons rfl (.cons rfl (.cons rfl (.cons rfl (.cons rfl .nil))))))
    · try simp only [decide_eq_true_eq, decide_eq_false_iff_not, bne_iff_ne, beq_iff_eq, bne_eq_false_iff_eq, beq_eq_false_iff_ne, ne_eq, Bool.not_eq_true', Bool.not_eq_false'] at hb4_8
      exfalso; omega
  · try simp only [decide_eq_true_eq, decide_eq_false_iff_not, bne_iff_ne, beq_iff_eq, bne_eq_false_iff_eq, beq_eq_false_iff_ne, ne_eq, Bool.not_eq_true', Bool.not_eq_false'] at hb4_2
    exfalso; omega

set_option maxHeartbeats 1000000 in
theorem bookBeg_out (A C : List Sam) (n : Int) (hA : A.length ≤ 9223372036854775807) (hC : C.length ≤ 9223372036854775807) (h : ¬ IntKind.i64.wrap ((A.length : Int) + (C.length : Int)) > 60) (hn : n < 0 ∨ n > C.length) : SoundC Try.prog 21 [.sl (.r 0) 0 A.length 13 false, .sl (.r 1) 0 C.length 13 false, .int .i64 n] ⟨[sams A, sams C], []⟩ { val := .bool true } := by
  refine SoundC.of (N := 84) Try.func21 rfl rfl rfl rfl ?_
  refine AW.seq ?_
  refine AW.region (by kernel_rfl) ?_
  refine RunF.q (o_assign rfl) rfl ?_
  refine AW.seq ?_
  refine AW.region (by kernel_rfl) ?_
  refine RunF.q (o_call (no := 0) (nr := 2) rfl rfl rfl (by (repeat' first | exact cl_nil | exact cL_flat rfl | exact cL_flat (ints_flat _) | apply cL_vs | apply cl_cons | exact cv_flat rfl | apply cv_agg | apply cv_ptr_o | apply cv_sl_o rfl | apply cv_func | exact cO_old rfl | (apply cO_new; (focus rfl); (focus rfl)) | (apply cv_sl_r; (focus rfl); (focus rfl); (focus (simp; done)); (focus (first | exact ints_all _ | rfl))) | (apply cv_ptr_r rfl ?_ rfl rfl) | (simp only [List.nil_append, List.cons_append, List.length_cons, List.length_nil, Nat.zero_add, Nat.reduceAdd, List.set_cons_zero, List.set_cons_succ]; rfl) | rfl)) (by rfl) (by exact shown13_ok) (by rfl) rfl rfl (by first | exact reV_bare _ _ rfl | (simp only [reV, reVs, List.all_cons, List.all_nil, AV.flat, Bool.and_true, Bool.true_and, Bool.false_and, Bool.and_false, Bool.false_eq_true, reduceIte, CS.de, List.getElem?_cons_zero, List.getElem?_cons_succ, List.getElem?_nil, List.length_cons, List.length_nil, Nat.reduceSub, Nat.reduceAdd, Nat.zero_add, Nat.add_zero, Nat.sub_self]; rfl)) rfl) (by rfl) ?_
  refine RunF.q (o_assign rfl) rfl ?_
  refine AW.seq ?_
  refine AW.seq ?_
  refine AW.region (by kernel_rfl) ?_
  refine RunF.q (o_move rfl) rfl ?_
  first | refine RunF.q (o_len tk93 rfl) rfl ?_ | refine RunF.q (o_len_nil tk93 rfl) rfl ?_
  refine RunF.q (o_move rfl) rfl ?_
  first | refine RunF.q (o_len tk93 rfl) rfl ?_ | refine RunF.q (o_len_nil tk93 rfl) rfl ?_
  refine RunF.q (o_add (m := IntKind.i64.wrap ((A.length : Int) + (C.length : Int))) rfl rfl rfl) rfl ?_
  refine RunF.q (o_gtr rfl rfl) rfl ?_
  refine AW.cond rfl (fun hc0 => absurd hc0 (by rw [decide_eq_false h]; simp)) (fun hc0 => ?_)
  refine AW.skip ?_
  refine AW.seq ?_
  refine AW.seq ?_
  refine AW.region (by kernel_rfl) ?_
  refine RunF.q (o_move rfl) rfl ?_
  refine RunF.q (o_geq rfl rfl) rfl ?_
  refine RunF.br (o_move rfl) rfl (fun hb4_2 => ?_) (fun hb4_2 => ?_)
  · try simp only [decide_eq_true_eq, decide_eq_false_iff_not, bne_iff_ne, beq_iff_eq, bne_eq_false_iff_eq, beq_eq_false_iff_ne, ne_eq, Bool.not_eq_true', Bool.not_eq_false'] at hb4_2
    refine RunF.gq rfl (o_move rfl) rfl ?_
    refine RunF.gq rfl (o_move rfl) rfl ?_
    first | refine RunF.gq rfl (o_len tk93 rfl) rfl ?_ | refine RunF.gq rfl (o_len_nil tk93 rfl) rfl ?_
    refine RunF.gq rfl (o_leq rfl rfl) rfl ?_
    refine RunF.q (o_pick_t rfl rfl) rfl ?_
    refine RunF.br (o_move rfl) rfl (fun hb4_8 => ?_) (fun hb4_8 => ?_)
    · try simp only [decide_eq_true_eq, decide_eq_false_iff_not, bne_iff_ne, beq_iff_eq, bne_eq_false_iff_eq, beq_eq_false_iff_ne, ne_eq, Bool.not_eq_true', Bool.not_eq_false'] at hb4_8
      exfalso; omega
    · try simp only [decide_eq_true_eq, decide_eq_false_iff_not, bne_iff_ne, beq_iff_eq, bne_eq_false_iff_eq, beq_eq_false_iff_ne, ne_eq, Bool.not_eq_true', Bool.not_eq_false'] at hb4_8
      refine RunF.gs (b := false) rfl rfl ?_
      refine RunF.gs (b := false) rfl rfl ?_
      refine RunF.gs (b := false) rfl rfl ?_
      refine RunF.gs (b := false) rfl rfl ?_
      refine RunF.gs (b := false) rfl rfl ?_
      refine RunF.gs (b := false) rfl rfl ?_
      refine RunF.gs (b := false) rfl rfl ?_
      refine RunF.gt rfl ?_
      refine RunF.gt rfl ?_
      refine RunF.gt rfl ?_
      refine RunF.gt rfl ?_
      refine RunF.gt rfl ?_
      refine RunF.gt rfl ?_
      refine RunF.gt rfl ?_
      refine RunF.gt rfl ?_
      refine RunF.gt rfl ?_
      refine RunF.gt rfl ?_
      refine RunF.gs (b := false) rfl rfl ?_
      refine RunF.q (o_pick_f rfl rfl) rfl ?_
      refine AW.cond rfl (fun hc1 => absurd hc1 (by first | (intro h; cases h; done) | (intro h; simp at h; omega))) (fun hc1 => ?_)
      refine AW.skip ?_
      refine AW.seq ?_
      refine AW.region (by kernel_rfl) ?_
      refine RunF.q (o_move rfl) rfl ?_
      refine RunF.q (o_move rfl) rfl ?_
      refine RunF.q (o_call (no := 0) (nr := 2) rfl rfl rfl (by (repeat' first | exact cl_nil | exact cL_flat rfl | exact cL_flat (ints_flat _) | exact cL_flat (sams_flat _) | exact cL_flat (tks_flat _) | exact cL_flat (ous_flat _) | exact cL_flat (ves_flat _) | apply cL_vs | apply cl_cons | exact cv_flat rfl | apply cv_agg | apply cv_ptr_o | apply cv_sl_o rfl | apply cv_func | exact cO_old rfl | (apply cO_new; (focus rfl); (focus rfl)) | (apply cv_sl_r; (focus rfl); (focus rfl); (focus (first | (simp; done) | (simp only [sams_length, tks_length, ous_length, ves_length]; omega))); (focus (first | exact ints_all _ | exact rowsF_all Sam.len _ | exact rowsF_all Tk.len _ | exact rowsF_all Ou.len _ | exact rowsF_all Ve.len _ | exact rowsF_win Sam.len _ _ | exact rowsF_win Tk.len _ _ | exact rowsF_from Tk.len _ | rfl))) | (apply cv_ptr_r rfl ?_ rfl rfl) | (simp only [List.nil_append, List.cons_append, List.length_cons, List.length_nil, Nat.zero_add, Nat.reduceAdd, List.set_cons_zero, List.set_cons_succ]; rfl) | rfl)) (by rfl) (by exact begins_is (by omega) rfl rfl rfl) (by rfl) rfl rfl (by first | exact reV_bare _ _ rfl | (simp only [reV, reVs, List.all_cons, List.all_nil, AV.flat, Bool.and_true, Bool.true_and, Bool.false_and, Bool.and_false, Bool.false_eq_true, reduceIte, CS.de, List.getElem?_cons_zero, List.getElem?_cons_succ, List.getElem?_nil, List.length_cons, List.length_nil, Nat.reduceSub, Nat.reduceAdd, Nat.zero_add, Nat.add_zero, Nat.sub_self]; rfl)) rfl) (by rfl) ?_
      refine RunF.br (o_move rfl) rfl (fun hb6_3 => ?_) (fun hb6_3 => ?_)
      · try simp only [decide_eq_true_eq, decide_eq_false_iff_not, bne_iff_ne, beq_iff_eq, bne_eq_false_iff_eq, beq_eq_false_iff_ne, ne_eq, Bool.not_eq_true', Bool.not_eq_false'] at hb6_3
        refine RunF.gq rfl (o_move rfl) rfl ?_
        refine RunF.gq rfl (o_move rfl) rfl ?_
        refine RunF.gq rfl (o_call (no := 0) (nr := 2) rfl rfl rfl (by (repeat' first | exact cl_nil | exact cL_flat rfl | exact cL_flat (ints_flat _) | exact cL_flat (sams_flat _) | exact cL_flat (tks_flat _) | exact cL_flat (ous_flat _) | exact cL_flat (ves_flat _) | apply cL_vs | apply cl_cons | exact cv_flat rfl | apply cv_agg | apply cv_ptr_o | apply cv_sl_o rfl | apply cv_func | exact cO_old rfl | (apply cO_new; (focus rfl); (focus rfl)) | (apply cv_sl_r; (focus rfl); (focus rfl); (focus (first | (simp; done) | (simp only [sams_length, tks_length, ous_length, ves_length]; omega))); (focus (first | exact ints_all _ | exact rowsF_all Sam.len _ | exact rowsF_all Tk.len _ | exact rowsF_all Ou.len _ | exact rowsF_all Ve.len _ | exact rowsF_win Sam.len _ _ | exact rowsF_win Tk.len _ _ | exact rowsF_from Tk.len _ | rfl))) | (apply cv_ptr_r rfl ?_ rfl rfl) | (simp only [List.nil_append, List.cons_append, List.length_cons, List.length_nil, Nat.zero_add, Nat.reduceAdd, List.set_cons_zero, List.set_cons_succ]; rfl) | rfl)) (by rfl) (by exact begins_is (A := C) (C := A) (by omega) rfl rfl rfl) (by rfl) rfl rfl (by first | exact reV_bare _ _ rfl | (simp only [reV, reVs, List.all_cons, List.all_nil, AV.flat, Bool.and_true, Bool.true_and, Bool.false_and, Bool.and_false, Bool.false_eq_true, reduceIte, CS.de, List.getElem?_cons_zero, List.getElem?_cons_succ, List.getElem?_nil, List.length_cons, List.length_nil, Nat.reduceSub, Nat.reduceAdd, Nat.zero_add, Nat.add_zero, Nat.sub_self]; rfl)) rfl) (by rfl) ?_
        refine RunF.q (o_pick_t rfl rfl) rfl ?_
        refine RunF.q (o_assign (v := .bool (begins A C && begins C A)) (by rw [hb6_3]; rfl)) rfl ?_
        refine AW.seq ?_
        refine AW.region (by kernel_rfl) ?_
        refine RunF.q (o_move rfl) rfl ?_
        first | refine RunF.q (o_len tk93 rfl) rfl ?_ | refine RunF.q (o_len_nil tk93 rfl) rfl ?_
        refine RunF.q (o_move rfl) rfl ?_
        first | refine RunF.q (o_len tk93 rfl) rfl ?_ | refine RunF.q (o_len_nil tk93 rfl) rfl ?_
        refine RunF.q (o_eql rfl rfl) rfl ?_
        refine RunF.q (o_assign (v := .bool (sameTo A C 0)) (by rw [sameTo_zero]; rfl)) rfl ?_
        refine AW.seq ?_
        refine AW.seq ?_
        refine AW.region (by kernel_rfl) ?_
        refine RunF.q (o_assign rfl) rfl ?_
        refine AW.block ?_
        refine AW.loop (α := {i : Nat // i ≤ A.length}) (fun x : {i : Nat // i ≤ A.length} => ([(0, .sl (.r 0) 0 A.length 13 false), (1, .sl (.r 1) 0 C.length 13 false), (7, .bool true), (8, .bool (begins A C && begins C A)), (9, .bool (sameTo A C x.1)), (10, .int .i64 x.1)], ⟨[sams A, sams C], []⟩)) (fun x => A.length - x.1) (fun x => ?_) ⟨0, by omega⟩ ?_
        · obtain ⟨i, hx⟩ := x
          try dsimp only at hx
          try dsimp only
          refine AW.seq ?_
          refine AW.seq ?_
          refine AW.region (by kernel_rfl) ?_
          refine RunF.q (o_move rfl) rfl ?_
          refine RunF.q (o_move rfl) rfl ?_
          first | refine RunF.q (o_len tk93 rfl) rfl ?_ | refine RunF.q (o_len_nil tk93 rfl) rfl ?_
          refine RunF.q (o_lss rfl rfl) rfl ?_
          refine RunF.br (o_move rfl) rfl (fun hb9_4 => ?_) (fun hb9_4 => ?_)
          · try simp only [decide_eq_true_eq, decide_eq_false_iff_not, bne_iff_ne, beq_iff_eq, bne_eq_false_iff_eq, beq_eq_false_iff_ne, ne_eq, Bool.not_eq_true', Bool.not_eq_false'] at hb9_4
            refine RunF.gq rfl (o_move rfl) rfl ?_
            refine RunF.q (o_pick_t rfl rfl) rfl ?_
            refine AW.cond rfl (fun hc2 => ?_) (fun hc2 => ?_)
            · try simp only [decide_eq_true_eq, decide_eq_false_iff_not, bne_iff_ne, beq_iff_eq, bne_eq_false_iff_eq, beq_eq_false_iff_ne, ne_eq, Bool.not_eq_true', Bool.not_eq_false'] at hc2
              have hlAC := sameTo_len hc2
              refine AW.skip ?_
              refine AW.seq ?_
              refine AW.block ?_
              refine AW.draws (by kernel_rfl) (by kernel_rfl) ?_
              refine RunV.q (o_move rfl) rfl ?_
              refine RunV.q (o_move rfl) rfl ?_
              refine RunV.q (o_indexAddr (m := i * 13) tk93 ts87 rfl rfl (by omega) (by omega)) rfl ?_
              refine RunV.q (o_load_agg (cs := (A.getD i default).cells) rfl tk87 ts87 rfl rfl (rowsF_le Sam.len (by omega)) (rowsF_at Sam.len (by omega))) rfl ?_
              refine RunV.q (o_move rfl) rfl ?_
              refine RunV.q (o_move rfl) rfl ?_
              refine RunV.q (o_indexAddr (m := i * 13) tk93 ts87 rfl rfl (by omega) (by omega)) rfl ?_
              refine RunV.q (o_load_agg (cs := (C.getD i default).cells) rfl tk87 ts87 rfl rfl (rowsF_le Sam.len (by omega)) (rowsF_at Sam.len (by omega))) rfl ?_
              refine RunV.q (o_eqa (z := decide (A.getD i default = C.getD i default)) rfl rfl tk87 ko87 (by rw [eg87]; rfl) (sam_eq _ _)) rfl ?_
              refine RunV.q (o_assign (v := .bool (sameTo A C (i + 1))) (by rw [sameTo_succ hc2]; rfl)) rfl ?_
              refine And.intro (by kernel_rfl) ?_
              refine AW.region (by kernel_rfl) ?_
              refine RunF.q (o_move rfl) rfl ?_
              refine RunF.q (o_add rfl rfl (by first | exact i64_in _ (by omega) | rfl)) rfl ?_
              refine RunF.q (o_assign rfl) rfl ?_
              exact ⟨⟨i + 1, by omega⟩, Wk.same rfl (.cons rfl (.cons rfl (.cons rfl (.cons rfl (.cons rfl (.cons rfl .nil)))))), by dsimp only; omega⟩
            · try simp only [decide_eq_true_eq, decide_eq_false_iff_not, bne_iff_ne, beq_iff_eq, bne_eq_false_iff_eq, beq_eq_false_iff_ne, ne_eq, Bool.not_eq_true', Bool.not_eq_false'] at hc2
              have hfin : sameTo A C i = decide (A = C) := by first | assumption | exact sameTo_no hc2 hx
              refine AW.exit ?_
              refine AW.seq ?_
              refine AW.region (by kernel_rfl) ?_
              refine RunF.q (o_move rfl) rfl ?_
              refine RunF.q (o_move rfl) rfl ?_
              refine RunF.gq rfl (o_move rfl) rfl ?_
              refine RunF.gq rfl (o_move rfl) rfl ?_
              refine RunF.gq rfl (o_bin (v := .bool true) rfl rfl (by simp only [binA, tk4]; rw [begins_both, hfin]; simp)) rfl ?_
              refine RunF.q (o_pick_t rfl rfl) rfl ?_
              refine RunF.q (o_assign rfl) rfl ?_
              refine AW.ret ?_
              exact FinQ.ret [] [] (ress_tmp rfl ress_nil) rfl .nil (.cons rfl rfl (PRN.flat (sams_flat _)) (.cons rfl rfl (PRN.flat (sams_flat _)) .nil)) (by repeat' first | exact RN.self rfl | exact RN.top | exact RN.ptr rfl | exact RN.sl rfl | exact RN.slf rfl | apply RN.agg | apply RN.tuple | apply RN.fn | exact RNs.nil | apply RNs.cons | (apply RNs.flat; simp; done))
          · try simp only [decide_eq_true_eq, decide_eq_false_iff_not, bne_iff_ne, beq_iff_eq, bne_eq_false_iff_eq, beq_eq_false_iff_ne, ne_eq, Bool.not_eq_true', Bool.not_eq_false'] at hb9_4
            have hfin : sameTo A C i = decide (A = C) := sameTo_at (by omega)
            refine RunF.gs (b := false) rfl rfl ?_
            refine RunF.q (o_pick_f rfl rfl) rfl ?_
            refine AW.cond rfl (fun hc2 => absurd hc2 (by simp)) (fun hc2 => ?_)
            have hfin : sameTo A C i = decide (A = C) := by first | assumption | exact sameTo_no hc2 hx
            refine AW.exit ?_
            refine AW.seq ?_
            refine AW.region (by kernel_rfl) ?_
            refine RunF.q (o_move rfl) rfl ?_
            refine RunF.q (o_move rfl) rfl ?_
            refine RunF.gq rfl (o_move rfl) rfl ?_
            refine RunF.gq rfl (o_move rfl) rfl ?_
            refine RunF.gq rfl (o_bin (v := .bool true) rfl rfl (by simp only [binA, tk4]; rw [begins_both, hfin]; simp)) rfl ?_
            refine RunF.q (o_pick_t rfl rfl) rfl ?_
            refine RunF.q (o_assign rfl) rfl ?_
            refine AW.ret ?_
            exact FinQ.ret [] [] (ress_tmp rfl ress_nil) rfl .nil (.cons rfl rfl (PRN.flat (sams_flat _)) (.cons rfl rfl (PRN.flat (sams_flat _)) .nil)) (by repeat' first | exact RN.self rfl | exact RN.top | exact RN.ptr rfl | exact RN.sl rfl | exact RN.slf rfl | apply RN.agg | apply RN.tuple | apply RN.fn | exact RNs.nil | apply RNs.cons | (apply RNs.flat; simp; done))
        · exact Wk.same rfl (.cons rfl (.cons rfl (.cons rfl (.cons rfl (.cons rfl (.cons rfl .nil))))))
      · try simp only [decide_eq_true_eq, decide_eq_false_iff_not, bne_iff_ne, beq_iff_eq, bne_eq_false_iff_eq, beq_eq_false_iff_ne, ne_eq, Bool.not_eq_true', Bool.not_eq_false'] at hb6_3
        refine RunF.gs (b := false) rfl rfl ?_
        refine RunF.gs (b := false) rfl rfl ?_
        refine RunF.gs (b := false) rfl rfl ?_
        refine RunF.q (o_pick_f rfl rfl) rfl ?_
        refine RunF.q (o_assign (v := .bool (begins A C && begins C A)) (by rw [hb6_3]; rfl)) rfl ?_
        refine AW.seq ?_
        refine AW.region (by kernel_rfl) ?_
        refine RunF.q (o_move rfl) rfl ?_
        first | refine RunF.q (o_len tk93 rfl) rfl ?_ | refine RunF.q (o_len_nil tk93 rfl) rfl ?_
        refine RunF.q (o_move rfl) rfl ?_
        first | refine RunF.q (o_len tk93 rfl) rfl ?_ | refine RunF.q (o_len_nil tk93 rfl) rfl ?_
        refine RunF.q (o_eql rfl rfl) rfl ?_
        refine RunF.q (o_assign (v := .bool (sameTo A C 0)) (by rw [sameTo_zero]; rfl)) rfl ?_
        refine AW.seq ?_
        refine AW.seq ?_
        refine AW.region (by kernel_rfl) ?_
        refine RunF.q (o_assign rfl) rfl ?_
        refine AW.block ?_
        refine AW.loop (α := {i : Nat // i ≤ A.length}) (fun x : {i : Nat // i ≤ A.length} => ([(0, .sl (.r 0) 0 A.length 13 false), (1, .sl (.r 1) 0 C.length 13 false), (7, .bool true), (8, .bool (begins A C && begins C A)), (9, .bool (sameTo A C x.1)), (10, .int .i64 x.1)], ⟨[sams A, sams C], []⟩)) (fun x => A.length - x.1) (fun x => ?_) ⟨0, by omega⟩ ?_
        · obtain ⟨i, hx⟩ := x
          try dsimp only at hx
          try dsimp only
          refine AW.seq ?_
          refine AW.seq ?_
          refine AW.region (by kernel_rfl) ?_
          refine RunF.q (o_move rfl) rfl ?_
          refine RunF.q (o_move rfl) rfl ?_
          first | refine RunF.q (o_len tk93 rfl) rfl ?_ | refine RunF.q (o_len_nil tk93 rfl) rfl ?_
          refine RunF.q (o_lss rfl rfl) rfl ?_
          refine RunF.br (o_move rfl) rfl (fun hb9_4 => ?_) (fun hb9_4 => ?_)
          · try simp only [decide_eq_true_eq, decide_eq_false_iff_not, bne_iff_ne, beq_iff_eq, bne_eq_false_iff_eq, beq_eq_false_iff_ne, ne_eq, Bool.not_eq_true', Bool.not_eq_false'] at hb9_4
            refine RunF.gq rfl (o_move rfl) rfl ?_
            refine RunF.q (o_pick_t rfl rfl) rfl ?_
            refine AW.cond rfl (fun hc2 => ?_) (fun hc2 => ?_)
            · try simp only [decide_eq_true_eq, decide_eq_false_iff_not, bne_iff_ne, beq_iff_eq, bne_eq_false_iff_eq, beq_eq_false_iff_ne, ne_eq, Bool.not_eq_true', Bool.not_eq_false'] at hc2
              have hlAC := sameTo_len hc2
              refine AW.skip ?_
              refine AW.seq ?_
              refine AW.block ?_
              refine AW.draws (by kernel_rfl) (by kernel_rfl) ?_
              refine RunV.q (o_move rfl) rfl ?_
              refine RunV.q (o_move rfl) rfl ?_
              refine RunV.q (o_indexAddr (m := i * 13) tk93 ts87 rfl rfl (by omega) (by omega)) rfl ?_
              refine RunV.q (o_load_agg (cs := (A.getD i default).cells) rfl tk87 ts87 rfl rfl (rowsF_le Sam.len (by omega)) (rowsF_at Sam.len (by omega))) rfl ?_
              refine RunV.q (o_move rfl) rfl ?_
              refine RunV.q (o_move rfl) rfl ?_
              refine RunV.q (o_indexAddr (m := i * 13) tk93 ts87 rfl rfl (by omega) (by omega)) rfl ?_
              refine RunV.q (o_load_agg (cs := (C.getD i default).cells) rfl tk87 ts87 rfl rfl (rowsF_le Sam.len (by omega)) (rowsF_at Sam.len (by omega))) rfl ?_
              refine RunV.q (o_eqa (z := decide (A.getD i default = C.getD i default)) rfl rfl tk87 ko87 (by rw [eg87]; rfl) (sam_eq _ _)) rfl ?_
              refine RunV.q (o_assign (v := .bool (sameTo A C (i + 1))) (by rw [sameTo_succ hc2]; rfl)) rfl ?_
              refine And.intro (by kernel_rfl) ?_
              refine AW.region (by kernel_rfl) ?_
              refine RunF.q (o_move rfl) rfl ?_
              refine RunF.q (o_add rfl rfl (by first | exact i64_in _ (by omega) | rfl)) rfl ?_
              refine RunF.q (o_assign rfl) rfl ?_
              exact ⟨⟨i + 1, by omega⟩, Wk.same rfl (.cons rfl (.cons rfl (.cons rfl (.cons rfl (.cons rfl (.cons rfl .nil)))))), by dsimp only; omega⟩
            · try simp only [decide_eq_true_eq, decide_eq_false_iff_not, bne_iff_ne, beq_iff_eq, bne_eq_false_iff_eq, beq_eq_false_iff_ne, ne_eq, Bool.not_eq_true', Bool.not_eq_false'] at hc2
              have hfin : sameTo A C i = decide (A = C) := by first | assumption | exact sameTo_no hc2 hx
              refine AW.exit ?_
              refine AW.seq ?_
              refine AW.region (by kernel_rfl) ?_
              refine RunF.q (o_move rfl) rfl ?_
              refine RunF.q (o_move rfl) rfl ?_
              refine RunF.gq rfl (o_move rfl) rfl ?_
              refine RunF.gq rfl (o_move rfl) rfl ?_
              refine RunF.gq rfl (o_bin (v := .bool true) rfl rfl (by simp only [binA, tk4]; rw [begins_both, hfin]; simp)) rfl ?_
              refine RunF.q (o_pick_t rfl rfl) rfl ?_
              refine RunF.q (o_assign rfl) rfl ?_
              refine AW.ret ?_
              exact FinQ.ret [] [] (ress_tmp rfl ress_nil) rfl .nil (.cons rfl rfl (PRN.flat (sams_flat _)) (.cons rfl rfl (PRN.flat (sams_flat _)) .nil)) (by repeat' first | exact RN.self rfl | exact RN.top | exact RN.ptr rfl | exact RN.sl rfl | exact RN.slf rfl | apply RN.agg | apply RN.tuple | apply RN.fn | exact RNs.nil | apply RNs.cons | (apply RNs.flat; simp; done))
          · try simp only [decide_eq_true_eq, decide_eq_false_iff_not, bne_iff_ne, beq_iff_eq, bne_eq_false_iff_eq, beq_eq_false_iff_ne, ne_eq, Bool.not_eq_true', Bool.not_eq_false'] at hb9_4
            have hfin : sameTo A C i = decide (A = C) := sameTo_at (by omega)
            refine RunF.gs (b := false) rfl rfl ?_
            refine RunF.q (o_pick_f rfl rfl) rfl ?_
            refine AW.cond rfl (fun hc2 => absurd hc2 (by simp)) (fun hc2 => ?_)
            have hfin : sameTo A C i = decide (A = C) := by first | assumption | exact sameTo_no hc2 hx
            refine AW.exit ?_
            refine AW.seq ?_
            refine AW.region (by kernel_rfl) ?_
            refine RunF.q (o_move rfl) rfl ?_
            refine RunF.q (o_move rfl) rfl ?_
            refine RunF.gq rfl (o_move rfl) rfl ?_
            refine RunF.gq rfl (o_move rfl) rfl ?_
            refine RunF.gq rfl (o_bin (v := .bool true) rfl rfl (by simp only [binA, tk4]; rw [begins_both, hfin]; simp)) rfl ?_
            refine RunF.q (o_pick_t rfl rfl) rfl ?_
            refine RunF.q (o_assign rfl) rfl ?_
            refine AW.ret ?_
            exact FinQ.ret [] [] (ress_tmp rfl ress_nil) rfl .nil (.cons rfl rfl (PRN.flat (sams_flat _)) (.cons rfl rfl (PRN.flat (sams_flat _)) .nil)) (by repeat' first | exact RN.self rfl | exact RN.top | exact RN.ptr rfl | exact RN.sl rfl | exact RN.slf rfl | apply RN.agg | apply RN.tuple | apply RN.fn | exact RNs.nil | apply RNs.cons | (apply RNs.flat; simp; done))
        · exact Wk.same rfl (.cons rfl (.cons rfl (.cons rfl (.cons rfl (.cons rfl (.cons rfl .nil))))))
  · try simp only [decide_eq_true_eq, decide_eq_false_iff_not, bne_iff_ne, beq_iff_eq, bne_eq_false_iff_eq, beq_eq_false_iff_ne, ne_eq, Bool.not_eq_true', Bool.not_eq_false'] at hb4_2
    refine RunF.gs (b := false) rfl rfl ?_
    refine RunF.gs (b := false) rfl rfl ?_
    refine RunF.gs (b := false) rfl rfl ?_
    refine RunF.gs (b := false) rfl rfl ?_
    refine RunF.q (o_pick_f rfl rfl) rfl ?_
    refine RunF.q (o_move rfl) rfl ?_
    refine RunF.gs (b := false) rfl rfl ?_
    refine RunF.gs (b := false) rfl rfl ?_
    refine RunF.gs (b := false) rfl rfl ?_
    refine RunF.gs (b := false) rfl rfl ?_
    refine RunF.gs (b := false) rfl rfl ?_
    refine RunF.gs (b := false) rfl rfl ?_
    refine RunF.gs (b := false) rfl rfl ?_
    refine RunF.gt rfl ?_
    refine RunF.gt rfl ?_
    refine RunF.gt rfl ?_
    refine RunF.gt rfl ?_
    refine RunF.gt rfl ?_
    refine RunF.gt rfl ?_
    refine RunF.gt rfl ?_
    refine RunF.gt rfl ?_
    refine RunF.gt rfl ?_
    refine RunF.gt rfl ?_
    refine RunF.gs (b := false) rfl rfl ?_
    refine RunF.q (o_pick_f rfl rfl) rfl ?_
    refine AW.cond rfl (fun hc1 => absurd hc1 (by first | (intro h; cases h; done) | (intro h; simp at h; omega))) (fun hc1 => ?_)
    refine AW.skip ?_
    refine AW.seq ?_
    refine AW.region (by kernel_rfl) ?_
    refine RunF.q (o_move rfl) rfl ?_
    refine RunF.q (o_move rfl) rfl ?_
    refine RunF.q (o_call (no := 0) (nr := 2) rfl rfl rfl (by (repeat' first | exact cl_nil | exact cL_flat rfl | exact cL_flat (ints_flat _) | exact cL_flat (sams_flat _) | exact cL_flat (tks_flat _) | exact cL_flat (ous_flat _) | exact cL_flat (ves_flat _) | apply cL_vs | apply cl_cons | exact cv_flat rfl | apply cv_agg | apply cv_ptr_o | apply cv_sl_o rfl | apply cv_func | exact cO_old rfl | (apply cO_new; (focus rfl); (focus rfl)) | (apply cv_sl_r; (focus rfl); (focus rfl); (focus (first | (simp; done) | (simp only [sams_length, tks_length, ous_length, ves_length]; omega))); (focus (first | exact ints_all _ | exact rowsF_all Sam.len _ | exact rowsF_all Tk.len _ | exact rowsF_all Ou.len _ | exact rowsF_all Ve.len _ | exact rowsF_win Sam.len _ _ | exact rowsF_win Tk.len _ _ | exact rowsF_from Tk.len _ | rfl))) | (apply cv_ptr_r rfl ?_ rfl rfl) | (simp only [List.nil_append, List.cons_append, List.length_cons, List.length_nil, Nat.zero_add, Nat.reduceAdd, List.set_cons_zero, List.set_cons_succ]; rfl) | rfl)) (by rfl) (by exact begins_is (by omega) rfl rfl rfl) (by rfl) rfl rfl (by first | exact reV_bare _ _ rfl | (simp only [reV, reVs, List.all_cons, List.all_nil, AV.flat, Bool.and_true, Bool.true_and, Bool.false_and, Bool.and_false, Bool.false_eq_true, reduceIte, CS.de, List.getElem?_cons_zero, List.getElem?_cons_succ, List.getElem?_nil, List.length_cons, List.length_nil, Nat.reduceSub, Nat.reduceAdd, Nat.zero_add, Nat.add_zero, Nat.sub_self]; rfl)) rfl) (by rfl) ?_
    refine RunF.br (o_move rfl) rfl (fun hb6_3 => ?_) (fun hb6_3 => ?_)
    · try simp only [decide_eq_true_eq, decide_eq_false_iff_not, bne_iff_ne, beq_iff_eq, bne_eq_false_iff_eq, beq_eq_false_iff_ne, ne_eq, Bool.not_eq_true', Bool.not_eq_false'] at hb6_3
      refine RunF.gq rfl (o_move rfl) rfl ?_
      refine RunF.gq rfl (o_move rfl) rfl ?_
      refine RunF.gq rfl (o_call (no := 0) (nr := 2) rfl rfl rfl (by (repeat' first | exact cl_nil | exact cL_flat rfl | exact cL_flat (ints_flat _) | exact cL_flat (sams_flat _) | exact cL_flat (tks_flat _) | exact cL_flat (ous_flat _) | exact cL_flat (ves_flat _) | apply cL_vs | apply cl_cons | exact cv_flat rfl | apply cv_agg | apply cv_ptr_o | apply cv_sl_o rfl | apply cv_func | exact cO_old rfl | (apply cO_new; (focus rfl); (focus rfl)) | (apply cv_sl_r; (focus rfl); (focus rfl); (focus (first | (simp; done) | (simp only [sams_length, tks_length, ous_length, ves_length]; omega))); (focus (first | exact ints_all _ | exact rowsF_all Sam.len _ | exact rowsF_all Tk.len _ | exact rowsF_all Ou.len _ | exact rowsF_all Ve.len _ | exact rowsF_win Sam.len _ _ | exact rowsF_win Tk.len _ _ | exact rowsF_from Tk.len _ | rfl))) | (apply cv_ptr_r rfl ?_ rfl rfl) | (simp only [List.nil_append, List.cons_append, List.length_cons, List.length_nil, Nat.zero_add, Nat.reduceAdd, List.set_cons_zero, List.set_cons_succ]; rfl) | rfl)) (by rfl) (by exact begins_is (A := C) (C := A) (by omega) rfl rfl rfl) (by rfl) rfl rfl (by first | exact reV_bare _ _ rfl | (simp only [reV, reVs, List.all_cons, List.all_nil, AV.flat, Bool.and_true, Bool.true_and, Bool.false_and, Bool.and_false, Bool.false_eq_true, reduceIte, CS.de, List.getElem?_cons_zero, List.getElem?_cons_succ, List.getElem?_nil, List.length_cons, List.length_nil, Nat.reduceSub, Nat.reduceAdd, Nat.zero_add, Nat.add_zero, Nat.sub_self]; rfl)) rfl) (by rfl) ?_
      refine RunF.q (o_pick_t rfl rfl) rfl ?_
      refine RunF.q (o_assign (v := .bool (begins A C && begins C A)) (by rw [hb6_3]; rfl)) rfl ?_
      refine AW.seq ?_
      refine AW.region (by kernel_rfl) ?_
      refine RunF.q (o_move rfl) rfl ?_
      first | refine RunF.q (o_len tk93 rfl) rfl ?_ | refine RunF.q (o_len_nil tk93 rfl) rfl ?_
      refine RunF.q (o_move rfl) rfl ?_
      first | refine RunF.q (o_len tk93 rfl) rfl ?_ | refine RunF.q (o_len_nil tk93 rfl) rfl ?_
      refine RunF.q (o_eql rfl rfl) rfl ?_
      refine RunF.q (o_assign (v := .bool (sameTo A C 0)) (by rw [sameTo_zero]; rfl)) rfl ?_
      refine AW.seq ?_
      refine AW.seq ?_
      refine AW.region (by kernel_rfl) ?_
      refine RunF.q (o_assign rfl) rfl ?_
      refine AW.block ?_
      refine AW.loop (α := {i : Nat // i ≤ A.length}) (fun x : {i : Nat // i ≤ A.length} => ([(0, .sl (.r 0) 0 A.length 13 false), (1, .sl (.r 1) 0 C.length 13 false), (7, .bool true), (8, .bool (begins A C && begins C A)), (9, .bool (sameTo A C x.1)), (10, .int .i64 x.1)], ⟨[sams A, sams C], []⟩)) (fun x => A.length - x.1) (fun x => ?_) ⟨0, by omega⟩ ?_
      · obtain ⟨i, hx⟩ := x
        try dsimp only at hx
        try dsimp only
        refine AW.seq ?_
        refine AW.seq ?_
        refine AW.region (by kernel_rfl) ?_
        refine RunF.q (o_move rfl) rfl ?_
        refine RunF.q (o_move rfl) rfl ?_
        first | refine RunF.q (o_len tk93 rfl) rfl ?_ | refine RunF.q (o_len_nil tk93 rfl) rfl ?_
        refine RunF.q (o_lss rfl rfl) rfl ?_
        refine RunF.br (o_move rfl) rfl (fun hb9_4 => ?_) (fun hb9_4 => ?_)
        · try simp only [decide_eq_true_eq, decide_eq_false_iff_not, bne_iff_ne, beq_iff_eq, bne_eq_false_iff_eq, beq_eq_false_iff_ne, ne_eq, Bool.not_eq_true', Bool.not_eq_false'] at hb9_4
          refine RunF.gq rfl (o_move rfl) rfl ?_
          refine RunF.q (o_pick_t rfl rfl) rfl ?_
          refine AW.cond rfl (fun hc2 => ?_) (fun hc2 => ?_)
          · try simp only [decide_eq_true_eq, decide_eq_false_iff_not, bne_iff_ne, beq_iff_eq, bne_eq_false_iff_eq, beq_eq_false_iff_ne, ne_eq, Bool.not_eq_true', Bool.not_eq_false'] at hc2
            have hlAC := sameTo_len hc2
            refine AW.skip ?_
            refine AW.seq ?_
            refine AW.block ?_
            refine AW.draws (by kernel_rfl) (by kernel_rfl) ?_
            refine RunV.q (o_move rfl) rfl ?_
            refine RunV.q (o_move rfl) rfl ?_
            refine RunV.q (o_indexAddr (m := i * 13) tk93 ts87 rfl rfl (by omega) (by omega)) rfl ?_
            refine RunV.q (o_load_agg (cs := (A.getD i default).cells) rfl tk87 ts87 rfl rfl (rowsF_le Sam.len (by omega)) (rowsF_at Sam.len (by omega))) rfl ?_
            refine RunV.q (o_move rfl) rfl ?_
            refine RunV.q (o_move rfl) rfl ?_
            refine RunV.q (o_indexAddr (m := i * 13) tk93 ts87 rfl rfl (by omega) (by omega)) rfl ?_
            refine RunV.q (o_load_agg (cs := (C.getD i default).cells) rfl tk87 ts87 rfl rfl (rowsF_le Sam.len (by omega)) (rowsF_at Sam.len (by omega))) rfl ?_
            refine RunV.q (o_eqa (z := decide (A.getD i default = C.getD i default)) rfl rfl tk87 ko87 (by rw [eg87]; rfl) (sam_eq _ _)) rfl ?_
            refine RunV.q (o_assign (v := .bool (sameTo A C (i + 1))) (by rw [sameTo_succ hc2]; rfl)) rfl ?_
            refine And.intro (by kernel_rfl) ?_
            refine AW.region (by kernel_rfl) ?_
            refine RunF.q (o_move rfl) rfl ?_
            refine RunF.q (o_add rfl rfl (by first | exact i64_in _ (by omega) | rfl)) rfl ?_
            refine RunF.q (o_assign rfl) rfl ?_
            exact ⟨⟨i + 1, by omega⟩, Wk.same rfl (.cons rfl (.cons rfl (.cons rfl (.cons rfl (.cons rfl (.cons rfl .nil)))))), by dsimp only; omega⟩
          · try simp only [decide_eq_true_eq, decide_eq_false_iff_not, bne_iff_ne, beq_iff_eq, bne_eq_false_iff_eq, beq_eq_false_iff_ne, ne_eq, Bool.not_eq_true', Bool.not_eq_false'] at hc2
            have hfin : sameTo A C i = decide (A = C) := by first | assumption | exact sameTo_no hc2 hx
            refine AW.exit ?_
            refine AW.seq ?_
            refine AW.region (by kernel_rfl) ?_
            refine RunF.q (o_move rfl) rfl ?_
            refine RunF.q (o_move rfl) rfl ?_
            refine RunF.gq rfl (o_move rfl) rfl ?_
            refine RunF.gq rfl (o_move rfl) rfl ?_
            refine RunF.gq rfl (o_bin (v := .bool true) rfl rfl (by simp only [binA, tk4]; rw [begins_both, hfin]; simp)) rfl ?_
            refine RunF.q (o_pick_t rfl rfl) rfl ?_
            refine RunF.q (o_assign rfl) rfl ?_
            refine AW.ret ?_
            exact FinQ.ret [] [] (ress_tmp rfl ress_nil) rfl .nil (.cons rfl rfl (PRN.flat (sams_flat _)) (.cons rfl rfl (PRN.flat (sams_flat _)) .nil)) (by repeat' first | exact RN.self rfl | exact RN.top | exact RN.ptr rfl | exact RN.sl rfl | exact RN.slf rfl | apply RN.agg | apply RN.tuple | apply RN.fn | exact RNs.nil | apply RNs.cons | (apply RNs.flat; simp; done))
        · try simp only [decide_eq_true_eq, decide_eq_false_iff_not, bne_iff_ne, beq_iff_eq, bne_eq_false_iff_eq, beq_eq_false_iff_ne, ne_eq, Bool.not_eq_true', Bool.not_eq_false'] at hb9_4
          have hfin : sameTo A C i = decide (A = C) := sameTo_at (by omega)
          refine RunF.gs (b := false) rfl rfl ?_
          refine RunF.q (o_pick_f rfl rfl) rfl ?_
          refine AW.cond rfl (fun hc2 => absurd hc2 (by simp)) (fun hc2 => ?_)
          have hfin : sameTo A C i = decide (A = C) := by first | assumption | exact sameTo_no hc2 hx
          refine AW.exit ?_
          refine AW.seq ?_
          refine AW.region (by kernel_rfl) ?_
          refine RunF.q (o_move rfl) rfl ?_
          refine RunF.q (o_move rfl) rfl ?_
          refine RunF.gq rfl (o_move rfl) rfl ?_
          refine RunF.gq rfl (o_move rfl) rfl ?_
          refine RunF.gq rfl (o_bin (v := .bool true) rfl rfl (by simp only [binA, tk4]; rw [begins_both, hfin]; simp)) rfl ?_
          refine RunF.q (o_pick_t rfl rfl) rfl ?_
          refine RunF.q (o_assign rfl) rfl ?_
          refine AW.ret ?_
          exact FinQ.ret [] [] (ress_tmp rfl ress_nil) rfl .nil (.cons rfl rfl (PRN.flat (sams_flat _)) (.cons rfl rfl (PRN.flat (sams_flat _)) .nil)) (by repeat' first | exact RN.self rfl | exact RN.top | exact RN.ptr rfl | exact RN.sl rfl | exact RN.slf rfl | apply RN.agg | apply RN.tuple | apply RN.fn | exact RNs.nil | apply RNs.cons | (apply RNs.flat; simp; done))
      · exact Wk.same rfl (.cons rfl (.cons rfl (.cons rfl (.cons rfl (.cons rfl (.cons rfl .nil))))))
    · try simp only [decide_eq_true_eq, decide_eq_false_iff_not, bne_iff_ne, beq_iff_eq, bne_eq_false_iff_eq, beq_eq_false_iff_ne, ne_eq, Bool.not_eq_true', Bool.not_eq_false'] at hb6_3
      refine RunF.gs (b := false) rfl rfl ?_
      refine RunF.gs (b := false) rfl rfl ?_
      refine RunF.gs (b := false) rfl rfl ?_
      refine RunF.q (o_pick_f rfl rfl) rfl ?_
      refine RunF.q (o_assign (v := .bool (begins A C && begins C A)) (by rw [hb6_3]; rfl)) rfl ?_
      refine AW.seq ?_
      refine AW.region (by kernel_rfl) ?_
      refine RunF.q (o_move rfl) rfl ?_
      first | refine RunF.q (o_len tk93 rfl) rfl ?_ | refine RunF.q (o_len_nil tk93 rfl) rfl ?_
      refine RunF.q (o_move rfl) rfl ?_
      first | refine RunF.q (o_len tk93 rfl) rfl ?_ | refine RunF.q (o_len_nil tk93 rfl) rfl ?_
      refine RunF.q (o_eql rfl rfl) rfl ?_
      refine RunF.q (o_assign (v := .bool (sameTo A C 0)) (by rw [sameTo_zero]; rfl)) rfl ?_
      refine AW.seq ?_
      refine AW.seq ?_
      refine AW.region (by kernel_rfl) ?_
      refine RunF.q (o_assign rfl) rfl ?_
      refine AW.block ?_
      refine AW.loop (α := {i : Nat // i ≤ A.length}) (fun x : {i : Nat // i ≤ A.length} => ([(0, .sl (.r 0) 0 A.length 13 false), (1, .sl (.r 1) 0 C.length 13 false), (7, .bool true), (8, .bool (begins A C && begins C A)), (9, .bool (sameTo A C x.1)), (10, .int .i64 x.1)], ⟨[sams A, sams C], []⟩)) (fun x => A.length - x.1) (fun x => ?_) ⟨0, by omega⟩ ?_
      · obtain ⟨i, hx⟩ := x
        try dsimp only at hx
        try dsimp only
        refine AW.seq ?_
        refine AW.seq ?_
        refine AW.region (by kernel_rfl) ?_
        refine RunF.q (o_move rfl) rfl ?_
        refine RunF.q (o_move rfl) rfl ?_
        first | refine RunF.q (o_len tk93 rfl) rfl ?_ | refine RunF.q (o_len_nil tk93 rfl) rfl ?_
        refine RunF.q (o_lss rfl rfl) rfl ?_
        refine RunF.br (o_move rfl) rfl (fun hb9_4 => ?_) (fun hb9_4 => ?_)
        · try simp only [decide_eq_true_eq, decide_eq_false_iff_not, bne_iff_ne, beq_iff_eq, bne_eq_false_iff_eq, beq_eq_false_iff_ne, ne_eq, Bool.not_eq_true', Bool.not_eq_false'] at hb9_4
          refine RunF.gq rfl (o_move rfl) rfl ?_
          refine RunF.q (o_pick_t rfl rfl) rfl ?_
          refine AW.cond rfl (fun hc2 => ?_) (fun hc2 => ?_)
          · try simp only [decide_eq_true_eq, decide_eq_false_iff_not, bne_iff_ne, beq_iff_eq, bne_eq_false_iff_eq, beq_eq_false_iff_ne, ne_eq, Bool.not_eq_true', Bool.not_eq_false'] at hc2
            have hlAC := sameTo_len hc2
            refine AW.skip ?_
            refine AW.seq ?_
            refine AW.block ?_
            refine AW.draws (by kernel_rfl) (by kernel_rfl) ?_
            refine RunV.q (o_move rfl) rfl ?_
            refine RunV.q (o_move rfl) rfl ?_
            refine RunV.q (o_indexAddr (m := i * 13) tk93 ts87 rfl rfl (by omega) (by omega)) rfl ?_
            refine RunV.q (o_load_agg (cs := (A.getD i default).cells) rfl tk87 ts87 rfl rfl (rowsF_le Sam.len (by omega)) (rowsF_at Sam.len (by omega))) rfl ?_
            refine RunV.q (o_move rfl) rfl ?_
            refine RunV.q (o_move rfl) rfl ?_
            refine RunV.q (o_indexAddr (m := i * 13) tk93 ts87 rfl rfl (by omega) (by omega)) rfl ?_
            refine RunV.q (o_load_agg (cs := (C.getD i default).cells) rfl tk87 ts87 rfl rfl (rowsF_le Sam.len (by omega)) (rowsF_at Sam.len (by omega))) rfl ?_
            refine RunV.q (o_eqa (z := decide (A.getD i default = C.getD i default)) rfl rfl tk87 ko87 (by rw [eg87]; rfl) (sam_eq _ _)) rfl ?_
            refine RunV.q (o_assign (v := .bool (sameTo A C (i + 1))) (by rw [sameTo_succ hc2]; rfl)) rfl ?_
            refine And.intro (by kernel_rfl) ?_
            refine AW.region (by kernel_rfl) ?_
            refine RunF.q (o_move rfl) rfl ?_
            refine RunF.q (o_add rfl rfl (by first | exact i64_in _ (by omega) | rfl)) rfl ?_
            refine RunF.q (o_assign rfl) rfl ?_
            exact ⟨⟨i + 1, by omega⟩, Wk.same rfl (.cons rfl (.cons rfl (.cons rfl (.cons rfl (.cons rfl (.cons rfl .nil)))))), by dsimp only; omega⟩
          · try simp only [decide_eq_true_eq, decide_eq_false_iff_not, bne_iff_ne, beq_iff_eq, bne_eq_false_iff_eq, beq_eq_false_iff_ne, ne_eq, Bool.not_eq_true', Bool.not_eq_false'] at hc2
            have hfin : sameTo A C i = decide (A = C) := by first | assumption | exact sameTo_no hc2 hx
            refine AW.exit ?_
            refine AW.seq ?_
            refine AW.region (by kernel_rfl) ?_
            refine RunF.q (o_move rfl) rfl ?_
            refine RunF.q (o_move rfl) rfl ?_
            refine RunF.gq rfl (o_move rfl) rfl ?_
            refine RunF.gq rfl (o_move rfl) rfl ?_
            refine RunF.gq rfl (o_bin (v := .bool true) rfl rfl (by simp only [binA, tk4]; rw [begins_both, hfin]; simp)) rfl ?_
            refine RunF.q (o_pick_t rfl rfl) rfl ?_
            refine RunF.q (o_assign rfl) rfl ?_
            refine AW.ret ?_
            exact FinQ.ret [] [] (ress_tmp rfl ress_nil) rfl .nil (.cons rfl rfl (PRN.flat (sams_flat _)) (.cons rfl rfl (PRN.flat (sams_flat _)) .nil)) (by repeat' first | exact RN.self rfl | exact RN.top | exact RN.ptr rfl | exact RN.sl rfl | exact RN.slf rfl | apply RN.agg | apply RN.tuple | apply RN.fn | exact RNs.nil | apply RNs.cons | (apply RNs.flat; simp; done))
        · try simp only [decide_eq_true_eq, decide_eq_false_iff_not, bne_iff_ne, beq_iff_eq, bne_eq_false_iff_eq, beq_eq_false_iff_ne, ne_eq, Bool.not_eq_true', Bool.not_eq_false'] at hb9_4
          have hfin : sameTo A C i = decide (A = C) := sameTo_at (by omega)
          refine RunF.gs (b := false) rfl rfl ?_
          refine RunF.q (o_pick_f rfl rfl) rfl ?_
          refine AW.cond rfl (fun hc2 => absurd hc2 (by simp)) (fun hc2 => ?_)
          have hfin : sameTo A C i = decide (A = C) := by first | assumption | exact sameTo_no hc2 hx
          refine AW.exit ?_
          refine AW.seq ?_
          refine AW.region (by kernel_rfl) ?_
          refine RunF.q (o_move rfl) rfl ?_
          refine RunF.q (o_move rfl) rfl ?_
          refine RunF.gq rfl (o_move rfl) rfl ?_
          refine RunF.gq rfl (o_move rfl) rfl ?_
          refine RunF.gq rfl (o_bin (v := .bool true) rfl rfl (by simp only [binA, tk4]; rw [begins_both, hfin]; simp)) rfl ?_
          refine RunF.q (o_pick_t rfl rfl) rfl ?_
          refine RunF.q (o_assign rfl) rfl ?_
          refine AW.ret ?_
          exact FinQ.ret [] [] (ress_tmp rfl ress_nil) rfl .nil (.cons rfl rfl (PRN.flat (sams_flat _)) (.cons rfl rfl (PRN.flat (sams_flat _)) .nil)) (by repeat' first | exact RN.self rfl | exact RN.top | exact RN.ptr rfl | exact RN.sl rfl | exact RN.slf rfl | apply RN.agg | apply RN.tuple | apply RN.fn | exact RNs.nil | apply RNs.cons | (apply RNs.flat; simp; done))
      · exact Wk.same rfl (.cons rfl (.cons rfl (.cons rfl (.cons rfl (.cons rfl (.cons rfl .nil))))))

end Go.Proofs.Ytnkijhpikeokfaa

/- Rows of the statements on logs: BookRises and BookParts, by their contracts. -/
namespace Go.Proofs.Ytnkijhpikeokfaa
open Go Go.Sym Go.IntWalk

theorem up_trans {a b c : Tk} (h1 : up a b = true) (h2 : up b c = true) : up a c = true := by
  unfold up at *
  simp only [Bool.or_eq_true, Bool.and_eq_true, decide_eq_true_eq] at *
  omega
theorem rises_pw {L : List Tk} (h : rises L = true) : L.Pairwise (fun a b => up a b = true) := by
  induction L with
  | nil => exact List.Pairwise.nil
  | cons a L ih =>
    have hr := rises_iff.1 h
    have ht : rises L = true := by
      rw [rises_iff]; intro i hi h0
      have := hr (i + 1) (by simp; omega) (by omega)
      obtain ⟨k, rfl⟩ : ∃ k, i = k + 1 := ⟨i - 1, by omega⟩
      simpa [List.getD_eq_getElem?_getD] using this
    have hp := ih ht
    refine List.Pairwise.cons (fun b hb => ?_) hp
    cases L with
    | nil => simp at hb
    | cons c L =>
      have h1 : up a c = true := by have := hr 1 (by simp) (by omega); simpa [List.getD_eq_getElem?_getD] using this
      rcases List.mem_cons.1 hb with rfl | hb
      · exact h1
      · exact up_trans h1 ((List.pairwise_cons.1 hp).1 b hb)
theorem pw_at {α : Type} [Inhabited α] {R : α → α → Prop} {L : List α} (h : L.Pairwise R) {i j : Nat} (hij : i < j) (hj : j < L.length) : R (L.getD i default) (L.getD j default) := by
  rw [List.getD_eq_getElem?_getD, List.getD_eq_getElem?_getD, List.getElem?_eq_getElem hj, List.getElem?_eq_getElem (by omega : i < L.length)]
  exact List.pairwise_iff_getElem.1 h i j (by omega) hj hij
theorem ofL_up {L : List Tk} {gen : Int} (h : rises L = true) : (ofL L gen).Pairwise (fun a b => a.k < b.k) := by
  unfold ofL
  rw [List.pairwise_map]
  have hp := (rises_pw h).filter (fun t => decide (t.g = gen))
  refine List.Pairwise.imp_of_mem (fun {a b} ha hb hab => ?_) hp
  have e1 : a.g = gen := of_decide_eq_true (List.mem_filter.1 ha).2
  have e2 : b.g = gen := of_decide_eq_true (List.mem_filter.1 hb).2
  unfold up at hab
  simp only [Bool.or_eq_true, Bool.and_eq_true, decide_eq_true_eq] at hab
  simp only [Tk.out]; omega
theorem rises_take {L : List Tk} (h : rises L = true) (m : Nat) : rises (L.take m) = true := by
  rw [rises_iff] at *
  intro i hi h0
  rw [List.length_take] at hi
  have := h i (by omega) h0
  rw [List.getD_eq_getElem?_getD, List.getD_eq_getElem?_getD] at *
  rwa [List.getElem?_take_of_lt (by omega), List.getElem?_take_of_lt (by omega)]
theorem rises_drop {L : List Tk} (h : rises L = true) : rises (L.drop 1) = true := by
  rw [rises_iff] at *
  intro i hi h0
  rw [List.length_drop] at hi
  have := h (i + 1) (by omega) (by omega)
  rw [List.getD_eq_getElem?_getD, List.getD_eq_getElem?_getD] at *
  rw [List.getElem?_drop, List.getElem?_drop]
  rw [show 1 + (i - 1) = i + 1 - 1 by omega, show 1 + i = i + 1 by omega]; exact this
theorem rises_more {L : List Tk} (h0 : 0 < L.length) (t : Tk) (hg : t.g = (L.getD (L.length - 1) default).g) (hk : t.k = (L.getD (L.length - 1) default).k) : rises (L ++ [t]) = false := by
  have h1 : (L ++ [t]).getD (L.length - 1) default = L.getD (L.length - 1) default := by
    rw [List.getD_eq_getElem?_getD, List.getD_eq_getElem?_getD, List.getElem?_append_left (by omega)]
  have h2 : (L ++ [t]).getD L.length default = t := by
    rw [List.getD_eq_getElem?_getD, List.getElem?_append_right (Nat.le_refl _)]; simp
  refine rises_no (i := L.length) (by simp) h0 ?_
  rw [h1, h2]
  exact up_no (.inr ⟨by omega, by omega⟩)
theorem tks_snoc (L : List Tk) (t : Tk) : tks (L ++ [t]) = tks L ++ t.cells := by simp [rowsF]
theorem ous_k {L : List Ou} {i : Nat} (hi : i < L.length) : (ous L)[i * 4]? = some (.int .i64 (L.getD i default).k) := (rowsF_get Ou.len (j := 0) hi (by decide)).trans rfl
theorem rows_scalar (L : List Tk) : (tks L).all AV.scalar = true := rowsF_scalar (fun _ => rfl) L

/-! those of a generation, one by one -/
theorem ofL_split (L : List Tk) (gen : Int) (i : Nat) : ∃ R, ofL L gen = ofL (L.take i) gen ++ R := by
  refine ⟨ofL (L.drop i) gen, ?_⟩
  unfold ofL
  rw [← List.map_append, ← List.filter_append, List.take_append_drop]
theorem ofL_nth {L : List Tk} {gen : Int} {i : Nat} (hi : i < L.length) (h : (L.getD i default).g = gen) : (ofL (L.take i) gen).length < (ofL L gen).length ∧ (ofL L gen).getD (ofL (L.take i) gen).length default = (L.getD i default).out := by
  obtain ⟨R, hR⟩ := ofL_split L gen (i + 1)
  rw [hR, ofL_step hi, if_pos h]
  refine ⟨by simp, ?_⟩
  rw [List.getD_eq_getElem?_getD, List.append_assoc, List.getElem?_append_right (Nat.le_refl _)]
  simp
theorem ofL_cnt {L : List Tk} {gen : Int} {i : Nat} (hi : i < L.length) (h : (L.getD i default).g = gen) : (ofL (L.take (i + 1)) gen).length = (ofL (L.take i) gen).length + 1 := by
  rw [ofL_step hi, if_pos h]; simp
theorem ofL_skip {L : List Tk} {gen : Int} {i : Nat} (hi : i < L.length) (h : ¬ (L.getD i default).g = gen) : (ofL (L.take (i + 1)) gen).length = (ofL (L.take i) gen).length := by
  rw [ofL_step hi, if_neg h]; simp
theorem snoc_all (L : List Tk) (t : Tk) : ((tks L ++ t.cells).drop 0).take ((L.length + 1) * 5) = tks (L ++ [t]) := by
  rw [← tks_snoc, show L.length + 1 = (L ++ [t]).length from by simp]; exact rowsF_all Tk.len _

set_option maxHeartbeats 1000000 in
theorem bookRis_no (L : List Tk) (gen : Int) (h : ¬ L.length ≤ 50) : SoundC Try.prog 19 [.sl (.r 0) 0 L.length 5 false, .int .i64 gen] ⟨[tks L], []⟩ { val := .bool true } := by
  refine SoundC.of (N := 82) Try.func19 rfl rfl rfl rfl ?_
  refine AW.seq ?_
  refine AW.region (by kernel_rfl) ?_
  refine RunF.q (o_assign rfl) rfl ?_
  refine AW.seq ?_
  refine AW.region (by kernel_rfl) ?_
  refine RunF.q (o_call (no := 0) (nr := 1) rfl rfl rfl (by (repeat' first | exact cl_nil | exact cL_flat rfl | exact cL_flat (ints_flat _) | apply cL_vs | apply cl_cons | exact cv_flat rfl | apply cv_agg | apply cv_ptr_o | apply cv_sl_o rfl | apply cv_func | exact cO_old rfl | (apply cO_new; (focus rfl); (focus rfl)) | (apply cv_sl_r; (focus rfl); (focus rfl); (focus (simp; done)); (focus (first | exact ints_all _ | rfl))) | (apply cv_ptr_r rfl ?_ rfl rfl) | (simp only [List.nil_append, List.cons_append, List.length_cons, List.length_nil, Nat.zero_add, Nat.reduceAdd, List.set_cons_zero, List.set_cons_succ]; rfl) | rfl)) (by rfl) (by exact shown13_ok) (by rfl) rfl rfl (by first | exact reV_bare _ _ rfl | (simp only [reV, reVs, List.all_cons, List.all_nil, AV.flat, Bool.and_true, Bool.true_and, Bool.false_and, Bool.and_false, Bool.false_eq_true, reduceIte, CS.de, List.getElem?_cons_zero, List.getElem?_cons_succ, List.getElem?_nil, List.length_cons, List.length_nil, Nat.reduceSub, Nat.reduceAdd, Nat.zero_add, Nat.add_zero, Nat.sub_self]; rfl)) rfl) (by rfl) ?_
  refine RunF.q (o_assign rfl) rfl ?_
  refine AW.seq ?_
  refine AW.seq ?_
  refine AW.region (by kernel_rfl) ?_
  refine RunF.q (o_move rfl) rfl ?_
  first | refine RunF.q (o_len tk94 rfl) rfl ?_ | refine RunF.q (o_len_nil tk94 rfl) rfl ?_
  refine RunF.q (o_bin (v := .bool true) rfl rfl (by simp only [binA]; rw [decide_eq_true (by omega)]; rfl)) rfl ?_
  refine RunF.q (o_move rfl) rfl ?_
  refine RunF.gs (b := true) rfl rfl ?_
  refine RunF.gs (b := true) rfl rfl ?_
  refine RunF.gs (b := true) rfl rfl ?_
  refine RunF.q (o_pick_t rfl rfl) rfl ?_
  refine AW.cond rfl (fun hc0 => ?_) (fun hc0 => absurd hc0 (by simp))
  refine AW.seq ?_
  refine AW.region (by kernel_rfl) ?_
  refine RunF.q (o_move rfl) rfl ?_
  refine RunF.q (o_assign rfl) rfl ?_
  refine AW.ret ?_
  exact FinQ.ret [] [] (ress_tmp rfl ress_nil) rfl .nil (.cons rfl rfl (PRN.flat (tks_flat _)) .nil) (by repeat' first | exact RN.self rfl | exact RN.top | exact RN.ptr rfl | exact RN.sl rfl | exact RN.slf rfl | apply RN.agg | apply RN.tuple | apply RN.fn | exact RNs.nil | apply RNs.cons | (apply RNs.flat; simp; done))

set_option maxHeartbeats 1000000 in
theorem bookRis_not (L : List Tk) (gen : Int) (h : L.length ≤ 50) (hr : rises L = false) : SoundC Try.prog 19 [.sl (.r 0) 0 L.length 5 false, .int .i64 gen] ⟨[tks L], []⟩ { val := .bool true } := by
  refine SoundC.of (N := 82) Try.func19 rfl rfl rfl rfl ?_
  refine AW.seq ?_
  refine AW.region (by kernel_rfl) ?_
  refine RunF.q (o_assign rfl) rfl ?_
  refine AW.seq ?_
  refine AW.region (by kernel_rfl) ?_
  refine RunF.q (o_call (no := 0) (nr := 1) rfl rfl rfl (by (repeat' first | exact cl_nil | exact cL_flat rfl | exact cL_flat (ints_flat _) | apply cL_vs | apply cl_cons | exact cv_flat rfl | apply cv_agg | apply cv_ptr_o | apply cv_sl_o rfl | apply cv_func | exact cO_old rfl | (apply cO_new; (focus rfl); (focus rfl)) | (apply cv_sl_r; (focus rfl); (focus rfl); (focus (simp; done)); (focus (first | exact ints_all _ | rfl))) | (apply cv_ptr_r rfl ?_ rfl rfl) | (simp only [List.nil_append, List.cons_append, List.length_cons, List.length_nil, Nat.zero_add, Nat.reduceAdd, List.set_cons_zero, List.set_cons_succ]; rfl) | rfl)) (by rfl) (by exact shown13_ok) (by rfl) rfl rfl (by first | exact reV_bare _ _ rfl | (simp only [reV, reVs, List.all_cons, List.all_nil, AV.flat, Bool.and_true, Bool.true_and, Bool.false_and, Bool.and_false, Bool.false_eq_true, reduceIte, CS.de, List.getElem?_cons_zero, List.getElem?_cons_succ, List.getElem?_nil, List.length_cons, List.length_nil, Nat.reduceSub, Nat.reduceAdd, Nat.zero_add, Nat.add_zero, Nat.sub_self]; rfl)) rfl) (by rfl) ?_
  refine RunF.q (o_assign rfl) rfl ?_
  refine AW.seq ?_
  refine AW.seq ?_
  refine AW.region (by kernel_rfl) ?_
  refine RunF.q (o_move rfl) rfl ?_
  first | refine RunF.q (o_len tk94 rfl) rfl ?_ | refine RunF.q (o_len_nil tk94 rfl) rfl ?_
  refine RunF.q (o_bin (v := .bool false) rfl rfl (by simp only [binA]; rw [decide_eq_false (by omega)]; rfl)) rfl ?_
  refine RunF.q (o_move rfl) rfl ?_
  refine RunF.gq rfl (o_move rfl) rfl ?_
  refine RunF.gq rfl (o_call (no := 0) (nr := 1) rfl rfl rfl (by (repeat' first | exact cl_nil | exact cL_flat rfl | exact cL_flat (ints_flat _) | exact cL_flat (sams_flat _) | exact cL_flat (tks_flat _) | exact cL_flat (ous_flat _) | exact cL_flat (ves_flat _) | apply cL_vs | apply cl_cons | exact cv_flat rfl | apply cv_agg | apply cv_ptr_o | apply cv_sl_o rfl | apply cv_func | exact cO_old rfl | (apply cO_new; (focus rfl); (focus rfl)) | (apply cv_sl_r; (focus rfl); (focus rfl); (focus (first | (simp; done) | (simp only [sams_length, tks_length, ous_length, ves_length]; omega))); (focus (first | exact ints_all _ | exact rowsF_all Sam.len _ | exact rowsF_all Tk.len _ | exact rowsF_all Ou.len _ | exact rowsF_all Ve.len _ | exact rowsF_win Sam.len _ _ | exact rowsF_win Tk.len _ _ | exact rowsF_from Tk.len _ | rfl))) | (apply cv_ptr_r rfl ?_ rfl rfl) | (simp only [List.nil_append, List.cons_append, List.length_cons, List.length_nil, Nat.zero_add, Nat.reduceAdd, List.set_cons_zero, List.set_cons_succ]; rfl) | rfl)) (by rfl) (by exact rises_is (by omega) rfl hr) (by rfl) rfl rfl (by first | exact reV_bare _ _ rfl | (simp only [reV, reVs, List.all_cons, List.all_nil, AV.flat, Bool.and_true, Bool.true_and, Bool.false_and, Bool.and_false, Bool.false_eq_true, reduceIte, CS.de, List.getElem?_cons_zero, List.getElem?_cons_succ, List.getElem?_nil, List.length_cons, List.length_nil, Nat.reduceSub, Nat.reduceAdd, Nat.zero_add, Nat.add_zero, Nat.sub_self]; rfl)) rfl) (by rfl) ?_
  refine RunF.gq rfl (o_not rfl) rfl ?_
  refine RunF.q (o_pick_f rfl rfl) rfl ?_
  refine AW.cond rfl (fun hc0 => ?_) (fun hc0 => absurd hc0 (by simp))
  refine AW.seq ?_
  refine AW.region (by kernel_rfl) ?_
  refine RunF.q (o_move rfl) rfl ?_
  refine RunF.q (o_assign rfl) rfl ?_
  refine AW.ret ?_
  exact FinQ.ret [] [] (ress_tmp rfl ress_nil) rfl .nil (.cons rfl rfl (PRN.flat (tks_flat _)) .nil) (by repeat' first | exact RN.self rfl | exact RN.top | exact RN.ptr rfl | exact RN.sl rfl | exact RN.slf rfl | apply RN.agg | apply RN.tuple | apply RN.fn | exact RNs.nil | apply RNs.cons | (apply RNs.flat; simp; done))

set_option maxHeartbeats 1000000 in
theorem bookRis_nil (L : List Tk) (gen : Int) (h : L.length ≤ 50) (hr : rises L = true) (hO : ofL L gen = []) : SoundC Try.prog 19 [.sl (.r 0) 0 L.length 5 false, .int .i64 gen] ⟨[tks L], []⟩ { val := .bool true } := by
  refine SoundC.of (N := 82) Try.func19 rfl rfl rfl rfl ?_
  refine AW.seq ?_
  refine AW.region (by kernel_rfl) ?_
  refine RunF.q (o_assign rfl) rfl ?_
  refine AW.seq ?_
  refine AW.region (by kernel_rfl) ?_
  refine RunF.q (o_call (no := 0) (nr := 1) rfl rfl rfl (by (repeat' first | exact cl_nil | exact cL_flat rfl | exact cL_flat (ints_flat _) | apply cL_vs | apply cl_cons | exact cv_flat rfl | apply cv_agg | apply cv_ptr_o | apply cv_sl_o rfl | apply cv_func | exact cO_old rfl | (apply cO_new; (focus rfl); (focus rfl)) | (apply cv_sl_r; (focus rfl); (focus rfl); (focus (simp; done)); (focus (first | exact ints_all _ | rfl))) | (apply cv_ptr_r rfl ?_ rfl rfl) | (simp only [List.nil_append, List.cons_append, List.length_cons, List.length_nil, Nat.zero_add, Nat.reduceAdd, List.set_cons_zero, List.set_cons_succ]; rfl) | rfl)) (by rfl) (by exact shown13_ok) (by rfl) rfl rfl (by first | exact reV_bare _ _ rfl | (simp only [reV, reVs, List.all_cons, List.all_nil, AV.flat, Bool.and_true, Bool.true_and, Bool.false_and, Bool.and_false, Bool.false_eq_true, reduceIte, CS.de, List.getElem?_cons_zero, List.getElem?_cons_succ, List.getElem?_nil, List.length_cons, List.length_nil, Nat.reduceSub, Nat.reduceAdd, Nat.zero_add, Nat.add_zero, Nat.sub_self]; rfl)) rfl) (by rfl) ?_
  refine RunF.q (o_assign rfl) rfl ?_
  refine AW.seq ?_
  refine AW.seq ?_
  refine AW.region (by kernel_rfl) ?_
  refine RunF.q (o_move rfl) rfl ?_
  first | refine RunF.q (o_len tk94 rfl) rfl ?_ | refine RunF.q (o_len_nil tk94 rfl) rfl ?_
  refine RunF.q (o_bin (v := .bool false) rfl rfl (by simp only [binA]; rw [decide_eq_false (by omega)]; rfl)) rfl ?_
  refine RunF.q (o_move rfl) rfl ?_
  refine RunF.gq rfl (o_move rfl) rfl ?_
  refine RunF.gq rfl (o_call (no := 0) (nr := 1) rfl rfl rfl (by (repeat' first | exact cl_nil | exact cL_flat rfl | exact cL_flat (ints_flat _) | exact cL_flat (sams_flat _) | exact cL_flat (tks_flat _) | exact cL_flat (ous_flat _) | exact cL_flat (ves_flat _) | apply cL_vs | apply cl_cons | exact cv_flat rfl | apply cv_agg | apply cv_ptr_o | apply cv_sl_o rfl | apply cv_func | exact cO_old rfl | (apply cO_new; (focus rfl); (focus rfl)) | (apply cv_sl_r; (focus rfl); (focus rfl); (focus (first | (simp; done) | (simp only [sams_length, tks_length, ous_length, ves_length]; omega))); (focus (first | exact ints_all _ | exact rowsF_all Sam.len _ | exact rowsF_all Tk.len _ | exact rowsF_all Ou.len _ | exact rowsF_all Ve.len _ | exact rowsF_win Sam.len _ _ | exact rowsF_win Tk.len _ _ | exact rowsF_from Tk.len _ | rfl))) | (apply cv_ptr_r rfl ?_ rfl rfl) | (simp only [List.nil_append, List.cons_append, List.length_cons, List.length_nil, Nat.zero_add, Nat.reduceAdd, List.set_cons_zero, List.set_cons_succ]; rfl) | rfl)) (by rfl) (by exact rises_is (by omega) rfl hr) (by rfl) rfl rfl (by first | exact reV_bare _ _ rfl | (simp only [reV, reVs, List.all_cons, List.all_nil, AV.flat, Bool.and_true, Bool.true_and, Bool.false_and, Bool.and_false, Bool.false_eq_true, reduceIte, CS.de, List.getElem?_cons_zero, List.getElem?_cons_succ, List.getElem?_nil, List.length_cons, List.length_nil, Nat.reduceSub, Nat.reduceAdd, Nat.zero_add, Nat.add_zero, Nat.sub_self]; rfl)) rfl) (by rfl) ?_
  refine RunF.gq rfl (o_not rfl) rfl ?_
  refine RunF.q (o_pick_f rfl rfl) rfl ?_
  refine AW.cond rfl (fun hc0 => absurd hc0 (by simp)) (fun hc0 => ?_)
  refine AW.skip ?_
  refine AW.seq ?_
  refine AW.region (by kernel_rfl) ?_
  refine RunF.q (o_move rfl) rfl ?_
  refine RunF.q (o_move rfl) rfl ?_
  refine RunF.q (o_call (no := 0) (nr := 1) rfl rfl rfl (by (repeat' first | exact cl_nil | exact cL_flat rfl | exact cL_flat (ints_flat _) | exact cL_flat (sams_flat _) | exact cL_flat (tks_flat _) | exact cL_flat (ous_flat _) | exact cL_flat (ves_flat _) | apply cL_vs | apply cl_cons | exact cv_flat rfl | apply cv_agg | apply cv_ptr_o | apply cv_sl_o rfl | apply cv_func | exact cO_old rfl | (apply cO_new; (focus rfl); (focus rfl)) | (apply cv_sl_r; (focus rfl); (focus rfl); (focus (first | (simp; done) | (simp only [sams_length, tks_length, ous_length, ves_length]; omega))); (focus (first | exact ints_all _ | exact rowsF_all Sam.len _ | exact rowsF_all Tk.len _ | exact rowsF_all Ou.len _ | exact rowsF_all Ve.len _ | exact rowsF_win Sam.len _ _ | exact rowsF_win Tk.len _ _ | exact rowsF_from Tk.len _ | rfl))) | (apply cv_ptr_r rfl ?_ rfl rfl) | (simp only [List.nil_append, List.cons_append, List.length_cons, List.length_nil, Nat.zero_add, Nat.reduceAdd, List.set_cons_zero, List.set_cons_succ]; rfl) | rfl)) (by rfl) (by exact ofL_nil L false gen (by omega) hO) (by rfl) rfl rfl (by first | exact reV_bare _ _ rfl | (simp only [reV, reVs, List.all_cons, List.all_nil, AV.flat, Bool.and_true, Bool.true_and, Bool.false_and, Bool.and_false, Bool.false_eq_true, reduceIte, CS.de, List.getElem?_cons_zero, List.getElem?_cons_succ, List.getElem?_nil, List.length_cons, List.length_nil, Nat.reduceSub, Nat.reduceAdd, Nat.zero_add, Nat.add_zero, Nat.sub_self]; rfl)) rfl) (by rfl) ?_
  refine RunF.q (o_assign rfl) rfl ?_
  refine AW.seq ?_
  refine AW.seq ?_
  refine AW.region (by kernel_rfl) ?_
  refine RunF.q (o_assign rfl) rfl ?_
  refine AW.block ?_
  refine AW.loop (α := Unit) (fun x : Unit => ([(0, .sl (.r 0) 0 L.length 5 false), (5, .bool true), (6, .nilsl), (7, .int .i64 1)], ⟨[tks L], []⟩)) (fun x => 0) (fun x => ?_) () ?_
  · skip
    refine AW.seq ?_
    refine AW.seq ?_
    refine AW.region (by kernel_rfl) ?_
    refine RunF.q (o_move rfl) rfl ?_
    refine RunF.q (o_move rfl) rfl ?_
    first | refine RunF.q (o_len tk100 rfl) rfl ?_ | refine RunF.q (o_len_nil tk100 rfl) rfl ?_
    refine RunF.q (o_lss rfl rfl) rfl ?_
    refine AW.cond rfl (fun hc1 => absurd hc1 (by simp)) (fun hc1 => ?_)
    refine AW.exit ?_
    refine AW.seq ?_
    refine AW.region (by kernel_rfl) ?_
    refine RunF.q (o_move rfl) rfl ?_
    first | refine RunF.q (o_len tk94 rfl) rfl ?_ | refine RunF.q (o_len_nil tk94 rfl) rfl ?_
    refine RunF.q (o_assign rfl) rfl ?_
    refine AW.seq ?_
    refine AW.seq ?_
    refine AW.region (by kernel_rfl) ?_
    refine RunF.q (o_move rfl) rfl ?_
    refine RunF.q (o_eql rfl rfl) rfl ?_
    refine AW.cond rfl (fun hc3 => ?_) (fun hc3 => ?_)
    · try simp only [decide_eq_true_eq, decide_eq_false_iff_not, bne_iff_ne, beq_iff_eq, bne_eq_false_iff_eq, beq_eq_false_iff_ne, ne_eq, Bool.not_eq_true', Bool.not_eq_false'] at hc3
      refine AW.seq ?_
      refine AW.region (by kernel_rfl) ?_
      refine RunF.q (o_move rfl) rfl ?_
      refine RunF.q (o_assign rfl) rfl ?_
      refine AW.ret ?_
      exact FinQ.ret [] [] (ress_tmp rfl ress_nil) rfl .nil (.cons rfl rfl (PRN.flat (tks_flat _)) .nil) (by repeat' first | exact RN.self rfl | exact RN.top | exact RN.ptr rfl | exact RN.sl rfl | exact RN.slf rfl | apply RN.agg | apply RN.tuple | apply RN.fn | exact RNs.nil | apply RNs.cons | (apply RNs.flat; simp; done))
    · try simp only [decide_eq_true_eq, decide_eq_false_iff_not, bne_iff_ne, beq_iff_eq, bne_eq_false_iff_eq, beq_eq_false_iff_ne, ne_eq, Bool.not_eq_true', Bool.not_eq_false'] at hc3
      have hl0 : 0 < L.length := by omega
      refine AW.skip ?_
      refine AW.seq ?_
      refine AW.draws (by kernel_rfl) (by kernel_rfl) ?_
      refine RunV.w (o_buildSlice (nm := 0) tk94 ts114 tz114 rfl rfl rfl rfl) (by simp only [H.app, appO, patchAll, patch, List.map_cons, List.map_nil, List.append_nil, List.nil_append, List.cons_append, List.set_cons_zero, List.set_cons_succ, Option.map_some, Option.map_none, List.contains_cons, List.contains_nil, Nat.reduceAdd, Nat.reduceEqDiff, Nat.reduceBEq, Bool.or_false, Bool.false_eq_true, reduceIte, Nat.zero_add]; rfl) ?_
      refine RunV.q (o_move rfl) rfl ?_
      refine RunV.w (o_append_full (nm := 1) (l1 := tks L) (l2 := []) (mn := L.length) tk94 tk94 ts114 tb114 tz114 rfl rfl rfl rfl rfl (by refine ⟨by omega, ?_, Nat.le_refl _, by omega, by omega⟩; rw [tks_length]; omega) (rowsF_all Tk.len L) rfl (rows_scalar L) rfl (Nat.zero_add _)) (by simp only [H.app, appO, patchAll, patch, List.map_cons, List.map_nil, List.append_nil, List.nil_append, List.cons_append, List.set_cons_zero, List.set_cons_succ, Option.map_some, Option.map_none, List.contains_cons, List.contains_nil, Nat.reduceAdd, Nat.reduceEqDiff, Nat.reduceBEq, Bool.or_false, Bool.false_eq_true, reduceIte, Nat.zero_add]; rfl) ?_
      refine RunV.q (o_move rfl) rfl ?_
      refine RunV.q (o_move rfl) rfl ?_
      refine RunV.q (o_sub rfl rfl (by first | exact i64_in _ (by omega) | rfl)) rfl ?_
      refine RunV.q (o_indexAddr (m := (L.length - 1) * 5) tk94 ts114 rfl rfl (by omega) (by omega)) rfl ?_
      refine RunV.q (o_fieldAddr rfl tk114 rfl ts2 rfl) rfl ?_
      refine RunV.q (o_load rfl tk2 ts2 rfl rfl (tks_g (i := L.length - 1) (by omega))) rfl ?_
      refine RunV.q (o_move rfl) rfl ?_
      refine RunV.q (o_move rfl) rfl ?_
      refine RunV.q (o_sub rfl rfl (by first | exact i64_in _ (by omega) | rfl)) rfl ?_
      refine RunV.q (o_indexAddr (m := (L.length - 1) * 5) tk94 ts114 rfl rfl (by omega) (by omega)) rfl ?_
      refine RunV.q (o_fieldAddr rfl tk114 rfl ts2 rfl) rfl ?_
      refine RunV.q (o_load rfl tk2 ts2 rfl rfl (tks_k (i := L.length - 1) (by omega))) rfl ?_
      refine RunV.q (o_build tk114 tz114 pl114 rfl rfl) rfl ?_
      refine RunV.w (o_buildSlice (nm := 2) tk94 ts114 tz114 rfl rfl rfl rfl) (by simp only [H.app, appO, patchAll, patch, List.map_cons, List.map_nil, List.append_nil, List.nil_append, List.cons_append, List.set_cons_zero, List.set_cons_succ, Option.map_some, Option.map_none, List.contains_cons, List.contains_nil, Nat.reduceAdd, Nat.reduceEqDiff, Nat.reduceBEq, Bool.or_false, Bool.false_eq_true, reduceIte, Nat.zero_add]; rfl) ?_
      refine RunV.w (o_append_own (nm := 3) (l1 := (⟨(L.getD (L.length - 1) default).g, (L.getD (L.length - 1) default).k, 0, 0, 0⟩ : Tk).cells) (l2 := tks L) (mn := L.length + 1) tk94 tk94 ts114 tb114 tz114 rfl rfl rfl rfl rfl (by refine ⟨by decide, Nat.le_refl 5, ?_, by omega, by omega⟩; rw [tks_length]; omega) rfl (rowsF_all Tk.len L) rfl rfl rfl) (by simp only [H.app, appO, patchAll, patch, List.map_cons, List.map_nil, List.append_nil, List.nil_append, List.cons_append, List.set_cons_zero, List.set_cons_succ, Option.map_some, Option.map_none, List.contains_cons, List.contains_nil, Nat.reduceAdd, Nat.reduceEqDiff, Nat.reduceBEq, Bool.or_false, Bool.false_eq_true, reduceIte, Nat.zero_add]; rfl) ?_
      refine RunV.q (o_assign rfl) rfl ?_
      refine And.intro (by kernel_rfl) ?_
      refine AW.seq ?_
      refine AW.region (by kernel_rfl) ?_
      refine RunF.q (o_move rfl) rfl ?_
      refine RunF.q (o_move rfl) rfl ?_
      refine RunF.gq rfl (o_move rfl) rfl ?_
      refine RunF.gq rfl (o_move rfl) rfl ?_
      refine RunF.gq rfl (o_sub rfl rfl (by first | exact i64_in _ (by omega) | rfl)) rfl ?_
      refine RunF.gq rfl (o_slice_sl (m := 0) (r := L.length - 1) tk94 ts114 rfl rfl rfl rfl (by omega) rfl rfl (by simp) (by omega) rfl) rfl ?_
      refine RunF.gq rfl (o_call (no := 4) (nr := 1) rfl rfl rfl (by (repeat' first | exact cl_nil | exact cL_flat rfl | exact cL_flat (ints_flat _) | exact cL_flat (sams_flat _) | exact cL_flat (tks_flat _) | exact cL_flat (ous_flat _) | exact cL_flat (ves_flat _) | apply cL_vs | apply cl_cons | exact cv_flat rfl | apply cv_agg | apply cv_ptr_o | apply cv_sl_o rfl | apply cv_func | exact cO_old rfl | (apply cO_new; (focus rfl); (focus rfl)) | (apply cv_sl_r; (focus rfl); (focus rfl); (focus (first | (simp; done) | (simp only [sams_length, tks_length, ous_length, ves_length]; omega))); (focus (first | exact ints_all _ | exact rowsF_all Sam.len _ | exact rowsF_all Tk.len _ | exact rowsF_all Ou.len _ | exact rowsF_all Ve.len _ | exact rowsF_win Sam.len _ _ | exact rowsF_win Tk.len _ _ | exact rowsF_from Tk.len _ | rfl))) | (apply cv_ptr_r rfl ?_ rfl rfl) | (simp only [List.nil_append, List.cons_append, List.length_cons, List.length_nil, Nat.zero_add, Nat.reduceAdd, List.set_cons_zero, List.set_cons_succ]; rfl) | rfl)) (by rfl) (by exact rises_is (z := true) (L := L.take (L.length - 1)) (by rw [List.length_take]; omega) (by rw [List.length_take]; omega) (rises_take hr _)) (by rfl) rfl rfl (by first | exact reV_bare _ _ rfl | (simp only [reV, reVs, List.all_cons, List.all_nil, AV.flat, Bool.and_true, Bool.true_and, Bool.false_and, Bool.and_false, Bool.false_eq_true, reduceIte, CS.de, List.getElem?_cons_zero, List.getElem?_cons_succ, List.getElem?_nil, List.length_cons, List.length_nil, Nat.reduceSub, Nat.reduceAdd, Nat.zero_add, Nat.add_zero, Nat.sub_self]; rfl)) rfl) (by rfl) ?_
      refine RunF.q (o_pick_t rfl rfl) rfl ?_
      refine RunF.q (o_move rfl) rfl ?_
      refine RunF.gq rfl (o_move rfl) rfl ?_
      refine RunF.gq rfl (o_slice_sl (m := 5) (r := L.length - 1) tk94 ts114 rfl rfl rfl rfl (by omega) rfl rfl rfl (by omega) rfl) rfl ?_
      refine RunF.gq rfl (o_call (no := 4) (nr := 1) rfl rfl rfl (by (repeat' first | exact cl_nil | exact cL_flat rfl | exact cL_flat (ints_flat _) | exact cL_flat (sams_flat _) | exact cL_flat (tks_flat _) | exact cL_flat (ous_flat _) | exact cL_flat (ves_flat _) | apply cL_vs | apply cl_cons | exact cv_flat rfl | apply cv_agg | apply cv_ptr_o | apply cv_sl_o rfl | apply cv_func | exact cO_old rfl | (apply cO_new; (focus rfl); (focus rfl)) | (apply cv_sl_r; (focus rfl); (focus rfl); (focus (first | (simp; done) | (simp only [sams_length, tks_length, ous_length, ves_length]; omega) | (simp only [List.length_append, tks_length, Tk.len]; omega))); (focus (first | exact ints_all _ | exact rowsF_all Sam.len _ | exact rowsF_all Tk.len _ | exact rowsF_all Ou.len _ | exact rowsF_all Ve.len _ | exact rowsF_win Sam.len _ _ | exact rowsF_win Tk.len _ _ | exact rowsF_from Tk.len _ | exact snoc_all L (⟨(L.getD (L.length - 1) default).g, (L.getD (L.length - 1) default).k, 0, 0, 0⟩ : Tk) | rfl))) | (apply cv_ptr_r rfl ?_ rfl rfl) | (simp only [List.nil_append, List.cons_append, List.length_cons, List.length_nil, Nat.zero_add, Nat.reduceAdd, List.set_cons_zero, List.set_cons_succ]; rfl) | rfl)) (by rfl) (by exact rises_is (z := true) (L := L.drop 1) (by rw [List.length_drop]; omega) (by rw [List.length_drop]) (rises_drop hr)) (by rfl) rfl rfl (by first | exact reV_bare _ _ rfl | (simp only [reV, reVs, List.all_cons, List.all_nil, AV.flat, Bool.and_true, Bool.true_and, Bool.false_and, Bool.and_false, Bool.false_eq_true, reduceIte, CS.de, List.getElem?_cons_zero, List.getElem?_cons_succ, List.getElem?_nil, List.length_cons, List.length_nil, Nat.reduceSub, Nat.reduceAdd, Nat.zero_add, Nat.add_zero, Nat.sub_self]; rfl)) rfl) (by rfl) ?_
      refine RunF.q (o_pick_t rfl rfl) rfl ?_
      refine RunF.q (o_move rfl) rfl ?_
      refine RunF.gq rfl (o_move rfl) rfl ?_
      refine RunF.gq rfl (o_call (no := 4) (nr := 1) rfl rfl rfl (by (repeat' first | exact cl_nil | exact cL_flat rfl | exact cL_flat (ints_flat _) | exact cL_flat (sams_flat _) | exact cL_flat (tks_flat _) | exact cL_flat (ous_flat _) | exact cL_flat (ves_flat _) | apply cL_vs | apply cl_cons | exact cv_flat rfl | apply cv_agg | apply cv_ptr_o | apply cv_sl_o rfl | apply cv_func | exact cO_old rfl | (apply cO_new; (focus rfl); (focus rfl)) | (apply cv_sl_r; (focus rfl); (focus rfl); (focus (first | (simp; done) | (simp only [sams_length, tks_length, ous_length, ves_length]; omega) | (simp only [List.length_append, tks_length, Tk.len]; omega))); (focus (first | exact ints_all _ | exact rowsF_all Sam.len _ | exact rowsF_all Tk.len _ | exact rowsF_all Ou.len _ | exact rowsF_all Ve.len _ | exact rowsF_win Sam.len _ _ | exact rowsF_win Tk.len _ _ | exact rowsF_from Tk.len _ | exact snoc_all L (⟨(L.getD (L.length - 1) default).g, (L.getD (L.length - 1) default).k, 0, 0, 0⟩ : Tk) | rfl))) | (apply cv_ptr_r rfl ?_ rfl rfl) | (simp only [List.nil_append, List.cons_append, List.length_cons, List.length_nil, Nat.zero_add, Nat.reduceAdd, List.set_cons_zero, List.set_cons_succ]; rfl) | rfl)) (by rfl) (by exact rises_is (z := false) (L := L ++ [(⟨(L.getD (L.length - 1) default).g, (L.getD (L.length - 1) default).k, 0, 0, 0⟩ : Tk)]) (by simp; omega) (by simp) (rises_more hl0 _ rfl rfl)) (by rfl) rfl rfl (by first | exact reV_bare _ _ rfl | (simp only [reV, reVs, List.all_cons, List.all_nil, AV.flat, Bool.and_true, Bool.true_and, Bool.false_and, Bool.and_false, Bool.false_eq_true, reduceIte, CS.de, List.getElem?_cons_zero, List.getElem?_cons_succ, List.getElem?_nil, List.length_cons, List.length_nil, Nat.reduceSub, Nat.reduceAdd, Nat.zero_add, Nat.add_zero, Nat.sub_self]; rfl)) rfl) (by rfl) ?_
      refine RunF.gq rfl (o_not rfl) rfl ?_
      refine RunF.q (o_pick_t rfl rfl) rfl ?_
      refine RunF.q (o_assign rfl) rfl ?_
      refine AW.ret ?_
      exact FinQ.ret [] [] (ress_tmp rfl ress_nil) rfl .nil (.cons rfl rfl (PRN.flat (tks_flat _)) .nil) (by repeat' first | exact RN.self rfl | exact RN.top | exact RN.ptr rfl | exact RN.sl rfl | exact RN.slf rfl | apply RN.agg | apply RN.tuple | apply RN.fn | exact RNs.nil | apply RNs.cons | (apply RNs.flat; simp; done))
  · exact Wk.same rfl (.cons rfl (.cons rfl (.cons rfl (.cons rfl .nil))))

set_option maxHeartbeats 1000000 in
theorem bookRis_cons (L : List Tk) (gen : Int) (h : L.length ≤ 50) (hr : rises L = true) (O : List Ou) (hO : ofL L gen = O) (hne : O ≠ []) : SoundC Try.prog 19 [.sl (.r 0) 0 L.length 5 false, .int .i64 gen] ⟨[tks L], []⟩ { val := .bool true } := by
  have hlen : O.length ≤ 50 := by have := ofL_le L gen; rw [hO] at this; omega
  have hpw : O.Pairwise (fun a b => a.k < b.k) := by rw [← hO]; exact ofL_up hr
  refine SoundC.of (N := 82) Try.func19 rfl rfl rfl rfl ?_
  refine AW.seq ?_
  refine AW.region (by kernel_rfl) ?_
  refine RunF.q (o_assign rfl) rfl ?_
  refine AW.seq ?_
  refine AW.region (by kernel_rfl) ?_
  refine RunF.q (o_call (no := 0) (nr := 1) rfl rfl rfl (by (repeat' first | exact cl_nil | exact cL_flat rfl | exact cL_flat (ints_flat _) | apply cL_vs | apply cl_cons | exact cv_flat rfl | apply cv_agg | apply cv_ptr_o | apply cv_sl_o rfl | apply cv_func | exact cO_old rfl | (apply cO_new; (focus rfl); (focus rfl)) | (apply cv_sl_r; (focus rfl); (focus rfl); (focus (simp; done)); (focus (first | exact ints_all _ | rfl))) | (apply cv_ptr_r rfl ?_ rfl rfl) | (simp only [List.nil_append, List.cons_append, List.length_cons, List.length_nil, Nat.zero_add, Nat.reduceAdd, List.set_cons_zero, List.set_cons_succ]; rfl) | rfl)) (by rfl) (by exact shown13_ok) (by rfl) rfl rfl (by first | exact reV_bare _ _ rfl | (simp only [reV, reVs, List.all_cons, List.all_nil, AV.flat, Bool.and_true, Bool.true_and, Bool.false_and, Bool.and_false, Bool.false_eq_true, reduceIte, CS.de, List.getElem?_cons_zero, List.getElem?_cons_succ, List.getElem?_nil, List.length_cons, List.length_nil, Nat.reduceSub, Nat.reduceAdd, Nat.zero_add, Nat.add_zero, Nat.sub_self]; rfl)) rfl) (by rfl) ?_
  refine RunF.q (o_assign rfl) rfl ?_
  refine AW.seq ?_
  refine AW.seq ?_
  refine AW.region (by kernel_rfl) ?_
  refine RunF.q (o_move rfl) rfl ?_
  first | refine RunF.q (o_len tk94 rfl) rfl ?_ | refine RunF.q (o_len_nil tk94 rfl) rfl ?_
  refine RunF.q (o_bin (v := .bool false) rfl rfl (by simp only [binA]; rw [decide_eq_false (by omega)]; rfl)) rfl ?_
  refine RunF.q (o_move rfl) rfl ?_
  refine RunF.gq rfl (o_move rfl) rfl ?_
  refine RunF.gq rfl (o_call (no := 0) (nr := 1) rfl rfl rfl (by (repeat' first | exact cl_nil | exact cL_flat rfl | exact cL_flat (ints_flat _) | exact cL_flat (sams_flat _) | exact cL_flat (tks_flat _) | exact cL_flat (ous_flat _) | exact cL_flat (ves_flat _) | apply cL_vs | apply cl_cons | exact cv_flat rfl | apply cv_agg | apply cv_ptr_o | apply cv_sl_o rfl | apply cv_func | exact cO_old rfl | (apply cO_new; (focus rfl); (focus rfl)) | (apply cv_sl_r; (focus rfl); (focus rfl); (focus (first | (simp; done) | (simp only [sams_length, tks_length, ous_length, ves_length]; omega))); (focus (first | exact ints_all _ | exact rowsF_all Sam.len _ | exact rowsF_all Tk.len _ | exact rowsF_all Ou.len _ | exact rowsF_all Ve.len _ | exact rowsF_win Sam.len _ _ | exact rowsF_win Tk.len _ _ | exact rowsF_from Tk.len _ | rfl))) | (apply cv_ptr_r rfl ?_ rfl rfl) | (simp only [List.nil_append, List.cons_append, List.length_cons, List.length_nil, Nat.zero_add, Nat.reduceAdd, List.set_cons_zero, List.set_cons_succ]; rfl) | rfl)) (by rfl) (by exact rises_is (by omega) rfl hr) (by rfl) rfl rfl (by first | exact reV_bare _ _ rfl | (simp only [reV, reVs, List.all_cons, List.all_nil, AV.flat, Bool.and_true, Bool.true_and, Bool.false_and, Bool.and_false, Bool.false_eq_true, reduceIte, CS.de, List.getElem?_cons_zero, List.getElem?_cons_succ, List.getElem?_nil, List.length_cons, List.length_nil, Nat.reduceSub, Nat.reduceAdd, Nat.zero_add, Nat.add_zero, Nat.sub_self]; rfl)) rfl) (by rfl) ?_
  refine RunF.gq rfl (o_not rfl) rfl ?_
  refine RunF.q (o_pick_f rfl rfl) rfl ?_
  refine AW.cond rfl (fun hc0 => absurd hc0 (by simp)) (fun hc0 => ?_)
  refine AW.skip ?_
  refine AW.seq ?_
  refine AW.region (by kernel_rfl) ?_
  refine RunF.q (o_move rfl) rfl ?_
  refine RunF.q (o_move rfl) rfl ?_
  refine RunF.w (o_call (no := 0) (nr := 1) rfl rfl rfl (by (repeat' first | exact cl_nil | exact cL_flat rfl | exact cL_flat (ints_flat _) | exact cL_flat (sams_flat _) | exact cL_flat (tks_flat _) | exact cL_flat (ous_flat _) | exact cL_flat (ves_flat _) | apply cL_vs | apply cl_cons | exact cv_flat rfl | apply cv_agg | apply cv_ptr_o | apply cv_sl_o rfl | apply cv_func | exact cO_old rfl | (apply cO_new; (focus rfl); (focus rfl)) | (apply cv_sl_r; (focus rfl); (focus rfl); (focus (first | (simp; done) | (simp only [sams_length, tks_length, ous_length, ves_length]; omega))); (focus (first | exact ints_all _ | exact rowsF_all Sam.len _ | exact rowsF_all Tk.len _ | exact rowsF_all Ou.len _ | exact rowsF_all Ve.len _ | exact rowsF_win Sam.len _ _ | exact rowsF_win Tk.len _ _ | exact rowsF_from Tk.len _ | rfl))) | (apply cv_ptr_r rfl ?_ rfl rfl) | (simp only [List.nil_append, List.cons_append, List.length_cons, List.length_nil, Nat.zero_add, Nat.reduceAdd, List.set_cons_zero, List.set_cons_succ]; rfl) | rfl)) (by rfl) (by exact ofL_O L false gen (by omega) O hO hne) (by rfl) rfl rfl (by first | exact reV_bare _ _ rfl | (simp only [reV, reVs, List.all_cons, List.all_nil, AV.flat, Bool.and_true, Bool.true_and, Bool.false_and, Bool.and_false, Bool.false_eq_true, reduceIte, CS.de, List.getElem?_cons_zero, List.getElem?_cons_succ, List.getElem?_nil, List.length_cons, List.length_nil, Nat.reduceSub, Nat.reduceAdd, Nat.zero_add, Nat.add_zero, Nat.sub_self]; rfl)) (by simp only [CS.eff, rdsR, rdsO, List.map_cons, List.map_nil, reL_ints, reL_ves, reL_ous, num, List.nil_append, List.append_nil, List.cons_append]; rfl)) (by simp only [H.app, appO, patchAll, patch, List.map_cons, List.map_nil, List.append_nil, List.nil_append, List.cons_append, List.set_cons_zero, List.set_cons_succ, Option.map_some, Option.map_none, List.contains_cons, List.contains_nil, Nat.reduceAdd, Nat.reduceEqDiff, Nat.reduceBEq, Bool.or_false, Bool.false_eq_true, reduceIte, Nat.zero_add]; rfl) ?_
  refine RunF.q (o_assign rfl) rfl ?_
  refine AW.seq ?_
  refine AW.seq ?_
  refine AW.region (by kernel_rfl) ?_
  refine RunF.q (o_assign rfl) rfl ?_
  refine AW.block ?_
  refine AW.loop (α := {i : Nat // 1 ≤ i}) (fun x : {i : Nat // 1 ≤ i} => ([(0, .sl (.r 0) 0 L.length 5 false), (5, .bool true), (6, .sl (.o 0) 0 O.length 4 false), (7, .int .i64 x.1)], ⟨[tks L], [some (ous O)]⟩)) (fun x => O.length - x.1) (fun x => ?_) ⟨1, by omega⟩ ?_
  · obtain ⟨i, hx⟩ := x
    try dsimp only at hx
    try dsimp only
    refine AW.seq ?_
    refine AW.seq ?_
    refine AW.region (by kernel_rfl) ?_
    refine RunF.q (o_move rfl) rfl ?_
    refine RunF.q (o_move rfl) rfl ?_
    first | refine RunF.q (o_len tk100 rfl) rfl ?_ | refine RunF.q (o_len_nil tk100 rfl) rfl ?_
    refine RunF.q (o_lss rfl rfl) rfl ?_
    refine AW.cond rfl (fun hc1 => ?_) (fun hc1 => ?_)
    · try simp only [decide_eq_true_eq, decide_eq_false_iff_not, bne_iff_ne, beq_iff_eq, bne_eq_false_iff_eq, beq_eq_false_iff_ne, ne_eq, Bool.not_eq_true', Bool.not_eq_false'] at hc1
      refine AW.skip ?_
      refine AW.seq ?_
      refine AW.block ?_
      refine AW.seq ?_
      refine AW.draws (by kernel_rfl) (by kernel_rfl) ?_
      refine RunV.q (o_move rfl) rfl ?_
      refine RunV.q (o_move rfl) rfl ?_
      refine RunV.q (o_indexAddr (m := i * 4) tk100 ts112 rfl rfl (by omega) (by omega)) rfl ?_
      refine RunV.q (o_fieldAddr rfl tk112 rfl ts2 rfl) rfl ?_
      refine RunV.q (o_load rfl tk2 ts2 rfl rfl (ous_k (i := i) (by omega))) rfl ?_
      refine RunV.q (o_move rfl) rfl ?_
      refine RunV.q (o_move rfl) rfl ?_
      refine RunV.q (o_sub rfl rfl (by first | exact i64_in _ (by omega) | rfl)) rfl ?_
      refine RunV.q (o_indexAddr (m := (i - 1) * 4) tk100 ts112 rfl rfl (by omega) (by omega)) rfl ?_
      refine RunV.q (o_fieldAddr rfl tk112 rfl ts2 rfl) rfl ?_
      refine RunV.q (o_load rfl tk2 ts2 rfl rfl (ous_k (i := (i - 1)) (by omega))) rfl ?_
      refine RunV.q (o_leq rfl rfl) rfl ?_
      refine And.intro (by kernel_rfl) ?_
      refine AW.cond rfl (fun hc2 => absurd hc2 (by intro hh; have hh := of_decide_eq_true hh; exact absurd (pw_at hpw (show i - 1 < i by omega) (show i < O.length by omega)) (by omega))) (fun hc2 => ?_)
      refine AW.skip ?_
      refine AW.region (by kernel_rfl) ?_
      refine RunF.q (o_move rfl) rfl ?_
      refine RunF.q (o_add rfl rfl (by first | exact i64_in _ (by omega) | rfl)) rfl ?_
      refine RunF.q (o_assign rfl) rfl ?_
      exact ⟨⟨i + 1, by omega⟩, Wk.same rfl (.cons rfl (.cons rfl (.cons rfl (.cons rfl .nil)))), by dsimp only; omega⟩
    · try simp only [decide_eq_true_eq, decide_eq_false_iff_not, bne_iff_ne, beq_iff_eq, bne_eq_false_iff_eq, beq_eq_false_iff_ne, ne_eq, Bool.not_eq_true', Bool.not_eq_false'] at hc1
      refine AW.exit ?_
      refine AW.seq ?_
      refine AW.region (by kernel_rfl) ?_
      refine RunF.q (o_move rfl) rfl ?_
      first | refine RunF.q (o_len tk94 rfl) rfl ?_ | refine RunF.q (o_len_nil tk94 rfl) rfl ?_
      refine RunF.q (o_assign rfl) rfl ?_
      refine AW.seq ?_
      refine AW.seq ?_
      refine AW.region (by kernel_rfl) ?_
      refine RunF.q (o_move rfl) rfl ?_
      refine RunF.q (o_eql rfl rfl) rfl ?_
      refine AW.cond rfl (fun hc3 => ?_) (fun hc3 => ?_)
      · try simp only [decide_eq_true_eq, decide_eq_false_iff_not, bne_iff_ne, beq_iff_eq, bne_eq_false_iff_eq, beq_eq_false_iff_ne, ne_eq, Bool.not_eq_true', Bool.not_eq_false'] at hc3
        refine AW.seq ?_
        refine AW.region (by kernel_rfl) ?_
        refine RunF.q (o_move rfl) rfl ?_
        refine RunF.q (o_assign rfl) rfl ?_
        refine AW.ret ?_
        exact FinQ.ret [] [] (ress_tmp rfl ress_nil) rfl .nil (.cons rfl rfl (PRN.flat (tks_flat _)) .nil) (by repeat' first | exact RN.self rfl | exact RN.top | exact RN.ptr rfl | exact RN.sl rfl | exact RN.slf rfl | apply RN.agg | apply RN.tuple | apply RN.fn | exact RNs.nil | apply RNs.cons | (apply RNs.flat; simp; done))
      · try simp only [decide_eq_true_eq, decide_eq_false_iff_not, bne_iff_ne, beq_iff_eq, bne_eq_false_iff_eq, beq_eq_false_iff_ne, ne_eq, Bool.not_eq_true', Bool.not_eq_false'] at hc3
        have hl0 : 0 < L.length := by omega
        refine AW.skip ?_
        refine AW.seq ?_
        refine AW.draws (by kernel_rfl) (by kernel_rfl) ?_
        refine RunV.w (o_buildSlice (nm := 1) tk94 ts114 tz114 rfl rfl rfl rfl) (by simp only [H.app, appO, patchAll, patch, List.map_cons, List.map_nil, List.append_nil, List.nil_append, List.cons_append, List.set_cons_zero, List.set_cons_succ, Option.map_some, Option.map_none, List.contains_cons, List.contains_nil, Nat.reduceAdd, Nat.reduceEqDiff, Nat.reduceBEq, Bool.or_false, Bool.false_eq_true, reduceIte, Nat.zero_add]; rfl) ?_
        refine RunV.q (o_move rfl) rfl ?_
        refine RunV.w (o_append_full (nm := 2) (l1 := tks L) (l2 := []) (mn := L.length) tk94 tk94 ts114 tb114 tz114 rfl rfl rfl rfl rfl (by refine ⟨by omega, ?_, Nat.le_refl _, by omega, by omega⟩; rw [tks_length]; omega) (rowsF_all Tk.len L) rfl (rows_scalar L) rfl (Nat.zero_add _)) (by simp only [H.app, appO, patchAll, patch, List.map_cons, List.map_nil, List.append_nil, List.nil_append, List.cons_append, List.set_cons_zero, List.set_cons_succ, Option.map_some, Option.map_none, List.contains_cons, List.contains_nil, Nat.reduceAdd, Nat.reduceEqDiff, Nat.reduceBEq, Bool.or_false, Bool.false_eq_true, reduceIte, Nat.zero_add]; rfl) ?_
        refine RunV.q (o_move rfl) rfl ?_
        refine RunV.q (o_move rfl) rfl ?_
        refine RunV.q (o_sub rfl rfl (by first | exact i64_in _ (by omega) | rfl)) rfl ?_
        refine RunV.q (o_indexAddr (m := (L.length - 1) * 5) tk94 ts114 rfl rfl (by omega) (by omega)) rfl ?_
        refine RunV.q (o_fieldAddr rfl tk114 rfl ts2 rfl) rfl ?_
        refine RunV.q (o_load rfl tk2 ts2 rfl rfl (tks_g (i := L.length - 1) (by omega))) rfl ?_
        refine RunV.q (o_move rfl) rfl ?_
        refine RunV.q (o_move rfl) rfl ?_
        refine RunV.q (o_sub rfl rfl (by first | exact i64_in _ (by omega) | rfl)) rfl ?_
        refine RunV.q (o_indexAddr (m := (L.length - 1) * 5) tk94 ts114 rfl rfl (by omega) (by omega)) rfl ?_
        refine RunV.q (o_fieldAddr rfl tk114 rfl ts2 rfl) rfl ?_
        refine RunV.q (o_load rfl tk2 ts2 rfl rfl (tks_k (i := L.length - 1) (by omega))) rfl ?_
        refine RunV.q (o_build tk114 tz114 pl114 rfl rfl) rfl ?_
        refine RunV.w (o_buildSlice (nm := 3) tk94 ts114 tz114 rfl rfl rfl rfl) (by simp only [H.app, appO, patchAll, patch, List.map_cons, List.map_nil, List.append_nil, List.nil_append, List.cons_append, List.set_cons_zero, List.set_cons_succ, Option.map_some, Option.map_none, List.contains_cons, List.contains_nil, Nat.reduceAdd, Nat.reduceEqDiff, Nat.reduceBEq, Bool.or_false, Bool.false_eq_true, reduceIte, Nat.zero_add]; rfl) ?_
        refine RunV.w (o_append_own (nm := 4) (l1 := (⟨(L.getD (L.length - 1) default).g, (L.getD (L.length - 1) default).k, 0, 0, 0⟩ : Tk).cells) (l2 := tks L) (mn := L.length + 1) tk94 tk94 ts114 tb114 tz114 rfl rfl rfl rfl rfl (by refine ⟨by decide, Nat.le_refl 5, ?_, by omega, by omega⟩; rw [tks_length]; omega) rfl (rowsF_all Tk.len L) rfl rfl rfl) (by simp only [H.app, appO, patchAll, patch, List.map_cons, List.map_nil, List.append_nil, List.nil_append, List.cons_append, List.set_cons_zero, List.set_cons_succ, Option.map_some, Option.map_none, List.contains_cons, List.contains_nil, Nat.reduceAdd, Nat.reduceEqDiff, Nat.reduceBEq, Bool.or_false, Bool.false_eq_true, reduceIte, Nat.zero_add]; rfl) ?_
        refine RunV.q (o_assign rfl) rfl ?_
        refine And.intro (by kernel_rfl) ?_
        refine AW.seq ?_
        refine AW.region (by kernel_rfl) ?_
        refine RunF.q (o_move rfl) rfl ?_
        refine RunF.q (o_move rfl) rfl ?_
        refine RunF.gq rfl (o_move rfl) rfl ?_
        refine RunF.gq rfl (o_move rfl) rfl ?_
        refine RunF.gq rfl (o_sub rfl rfl (by first | exact i64_in _ (by omega) | rfl)) rfl ?_
        refine RunF.gq rfl (o_slice_sl (m := 0) (r := L.length - 1) tk94 ts114 rfl rfl rfl rfl (by omega) rfl rfl (by simp) (by omega) rfl) rfl ?_
        refine RunF.gq rfl (o_call (no := 5) (nr := 1) rfl rfl rfl (by (repeat' first | exact cl_nil | exact cL_flat rfl | exact cL_flat (ints_flat _) | exact cL_flat (sams_flat _) | exact cL_flat (tks_flat _) | exact cL_flat (ous_flat _) | exact cL_flat (ves_flat _) | apply cL_vs | apply cl_cons | exact cv_flat rfl | apply cv_agg | apply cv_ptr_o | apply cv_sl_o rfl | apply cv_func | exact cO_old rfl | (apply cO_new; (focus rfl); (focus rfl)) | (apply cv_sl_r; (focus rfl); (focus rfl); (focus (first | (simp; done) | (simp only [sams_length, tks_length, ous_length, ves_length]; omega))); (focus (first | exact ints_all _ | exact rowsF_all Sam.len _ | exact rowsF_all Tk.len _ | exact rowsF_all Ou.len _ | exact rowsF_all Ve.len _ | exact rowsF_win Sam.len _ _ | exact rowsF_win Tk.len _ _ | exact rowsF_from Tk.len _ | rfl))) | (apply cv_ptr_r rfl ?_ rfl rfl) | (simp only [List.nil_append, List.cons_append, List.length_cons, List.length_nil, Nat.zero_add, Nat.reduceAdd, List.set_cons_zero, List.set_cons_succ]; rfl) | rfl)) (by rfl) (by exact rises_is (z := true) (L := L.take (L.length - 1)) (by rw [List.length_take]; omega) (by rw [List.length_take]; omega) (rises_take hr _)) (by rfl) rfl rfl (by first | exact reV_bare _ _ rfl | (simp only [reV, reVs, List.all_cons, List.all_nil, AV.flat, Bool.and_true, Bool.true_and, Bool.false_and, Bool.and_false, Bool.false_eq_true, reduceIte, CS.de, List.getElem?_cons_zero, List.getElem?_cons_succ, List.getElem?_nil, List.length_cons, List.length_nil, Nat.reduceSub, Nat.reduceAdd, Nat.zero_add, Nat.add_zero, Nat.sub_self]; rfl)) rfl) (by rfl) ?_
        refine RunF.q (o_pick_t rfl rfl) rfl ?_
        refine RunF.q (o_move rfl) rfl ?_
        refine RunF.gq rfl (o_move rfl) rfl ?_
        refine RunF.gq rfl (o_slice_sl (m := 5) (r := L.length - 1) tk94 ts114 rfl rfl rfl rfl (by omega) rfl rfl rfl (by omega) rfl) rfl ?_
        refine RunF.gq rfl (o_call (no := 5) (nr := 1) rfl rfl rfl (by (repeat' first | exact cl_nil | exact cL_flat rfl | exact cL_flat (ints_flat _) | exact cL_flat (sams_flat _) | exact cL_flat (tks_flat _) | exact cL_flat (ous_flat _) | exact cL_flat (ves_flat _) | apply cL_vs | apply cl_cons | exact cv_flat rfl | apply cv_agg | apply cv_ptr_o | apply cv_sl_o rfl | apply cv_func | exact cO_old rfl | (apply cO_new; (focus rfl); (focus rfl)) | (apply cv_sl_r; (focus rfl); (focus rfl); (focus (first | (simp; done) | (simp only [sams_length, tks_length, ous_length, ves_length]; omega) | (simp only [List.length_append, tks_length, Tk.len]; omega))); (focus (first | exact ints_all _ | exact rowsF_all Sam.len _ | exact rowsF_all Tk.len _ | exact rowsF_all Ou.len _ | exact rowsF_all Ve.len _ | exact rowsF_win Sam.len _ _ | exact rowsF_win Tk.len _ _ | exact rowsF_from Tk.len _ | exact snoc_all L (⟨(L.getD (L.length - 1) default).g, (L.getD (L.length - 1) default).k, 0, 0, 0⟩ : Tk) | rfl))) | (apply cv_ptr_r rfl ?_ rfl rfl) | (simp only [List.nil_append, List.cons_append, List.length_cons, List.length_nil, Nat.zero_add, Nat.reduceAdd, List.set_cons_zero, List.set_cons_succ]; rfl) | rfl)) (by rfl) (by exact rises_is (z := true) (L := L.drop 1) (by rw [List.length_drop]; omega) (by rw [List.length_drop]) (rises_drop hr)) (by rfl) rfl rfl (by first | exact reV_bare _ _ rfl | (simp only [reV, reVs, List.all_cons, List.all_nil, AV.flat, Bool.and_true, Bool.true_and, Bool.false_and, Bool.and_false, Bool.false_eq_true, reduceIte, CS.de, List.getElem?_cons_zero, List.getElem?_cons_succ, List.getElem?_nil, List.length_cons, List.length_nil, Nat.reduceSub, Nat.reduceAdd, Nat.zero_add, Nat.add_zero, Nat.sub_self]; rfl)) rfl) (by rfl) ?_
        refine RunF.q (o_pick_t rfl rfl) rfl ?_
        refine RunF.q (o_move rfl) rfl ?_
        refine RunF.gq rfl (o_move rfl) rfl ?_
        refine RunF.gq rfl (o_call (no := 5) (nr := 1) rfl rfl rfl (by (repeat' first | exact cl_nil | exact cL_flat rfl | exact cL_flat (ints_flat _) | exact cL_flat (sams_flat _) | exact cL_flat (tks_flat _) | exact cL_flat (ous_flat _) | exact cL_flat (ves_flat _) | apply cL_vs | apply cl_cons | exact cv_flat rfl | apply cv_agg | apply cv_ptr_o | apply cv_sl_o rfl | apply cv_func | exact cO_old rfl | (apply cO_new; (focus rfl); (focus rfl)) | (apply cv_sl_r; (focus rfl); (focus rfl); (focus (first | (simp; done) | (simp only [sams_length, tks_length, ous_length, ves_length]; omega) | (simp only [List.length_append, tks_length, Tk.len]; omega))); (focus (first | exact ints_all _ | exact rowsF_all Sam.len _ | exact rowsF_all Tk.len _ | exact rowsF_all Ou.len _ | exact rowsF_all Ve.len _ | exact rowsF_win Sam.len _ _ | exact rowsF_win Tk.len _ _ | exact rowsF_from Tk.len _ | exact snoc_all L (⟨(L.getD (L.length - 1) default).g, (L.getD (L.length - 1) default).k, 0, 0, 0⟩ : Tk) | rfl))) | (apply cv_ptr_r rfl ?_ rfl rfl) | (simp only [List.nil_append, List.cons_append, List.length_cons, List.length_nil, Nat.zero_add, Nat.reduceAdd, List.set_cons_zero, List.set_cons_succ]; rfl) | rfl)) (by rfl) (by exact rises_is (z := false) (L := L ++ [(⟨(L.getD (L.length - 1) default).g, (L.getD (L.length - 1) default).k, 0, 0, 0⟩ : Tk)]) (by simp; omega) (by simp) (rises_more hl0 _ rfl rfl)) (by rfl) rfl rfl (by first | exact reV_bare _ _ rfl | (simp only [reV, reVs, List.all_cons, List.all_nil, AV.flat, Bool.and_true, Bool.true_and, Bool.false_and, Bool.and_false, Bool.false_eq_true, reduceIte, CS.de, List.getElem?_cons_zero, List.getElem?_cons_succ, List.getElem?_nil, List.length_cons, List.length_nil, Nat.reduceSub, Nat.reduceAdd, Nat.zero_add, Nat.add_zero, Nat.sub_self]; rfl)) rfl) (by rfl) ?_
        refine RunF.gq rfl (o_not rfl) rfl ?_
        refine RunF.q (o_pick_t rfl rfl) rfl ?_
        refine RunF.q (o_assign rfl) rfl ?_
        refine AW.ret ?_
        exact FinQ.ret [] [] (ress_tmp rfl ress_nil) rfl .nil (.cons rfl rfl (PRN.flat (tks_flat _)) .nil) (by repeat' first | exact RN.self rfl | exact RN.top | exact RN.ptr rfl | exact RN.sl rfl | exact RN.slf rfl | apply RN.agg | apply RN.tuple | apply RN.fn | exact RNs.nil | apply RNs.cons | (apply RNs.flat; simp; done))
  · exact Wk.same rfl (.cons rfl (.cons rfl (.cons rfl (.cons rfl .nil))))

set_option maxHeartbeats 1000000 in
theorem bookPar_no (L : List Tk) (gen : Int) (h : ¬ L.length ≤ 50) : SoundC Try.prog 22 [.sl (.r 0) 0 L.length 5 false, .int .i64 gen] ⟨[tks L], []⟩ { val := .bool true } := by
  refine SoundC.of (N := 61) Try.func22 rfl rfl rfl rfl ?_
  refine AW.seq ?_
  refine AW.region (by kernel_rfl) ?_
  refine RunF.q (o_assign rfl) rfl ?_
  refine AW.seq ?_
  refine AW.region (by kernel_rfl) ?_
  refine RunF.q (o_call (no := 0) (nr := 1) rfl rfl rfl (by (repeat' first | exact cl_nil | exact cL_flat rfl | exact cL_flat (ints_flat _) | apply cL_vs | apply cl_cons | exact cv_flat rfl | apply cv_agg | apply cv_ptr_o | apply cv_sl_o rfl | apply cv_func | exact cO_old rfl | (apply cO_new; (focus rfl); (focus rfl)) | (apply cv_sl_r; (focus rfl); (focus rfl); (focus (simp; done)); (focus (first | exact ints_all _ | rfl))) | (apply cv_ptr_r rfl ?_ rfl rfl) | (simp only [List.nil_append, List.cons_append, List.length_cons, List.length_nil, Nat.zero_add, Nat.reduceAdd, List.set_cons_zero, List.set_cons_succ]; rfl) | rfl)) (by rfl) (by exact shown13_ok) (by rfl) rfl rfl (by first | exact reV_bare _ _ rfl | (simp only [reV, reVs, List.all_cons, List.all_nil, AV.flat, Bool.and_true, Bool.true_and, Bool.false_and, Bool.and_false, Bool.false_eq_true, reduceIte, CS.de, List.getElem?_cons_zero, List.getElem?_cons_succ, List.getElem?_nil, List.length_cons, List.length_nil, Nat.reduceSub, Nat.reduceAdd, Nat.zero_add, Nat.add_zero, Nat.sub_self]; rfl)) rfl) (by rfl) ?_
  refine RunF.q (o_assign rfl) rfl ?_
  refine AW.seq ?_
  refine AW.seq ?_
  refine AW.region (by kernel_rfl) ?_
  refine RunF.q (o_move rfl) rfl ?_
  first | refine RunF.q (o_len tk94 rfl) rfl ?_ | refine RunF.q (o_len_nil tk94 rfl) rfl ?_
  refine RunF.q (o_gtr rfl rfl) rfl ?_
  refine AW.cond rfl (fun hc0 => ?_) (fun hc0 => absurd hc0 (by intro h; simp at h; omega))
  refine AW.seq ?_
  refine AW.region (by kernel_rfl) ?_
  refine RunF.q (o_move rfl) rfl ?_
  refine RunF.q (o_assign rfl) rfl ?_
  refine AW.ret ?_
  exact FinQ.ret [] [] (ress_tmp rfl ress_nil) rfl .nil (.cons rfl rfl (PRN.flat (tks_flat _)) .nil) (by repeat' first | exact RN.self rfl | exact RN.top | exact RN.ptr rfl | exact RN.sl rfl | exact RN.slf rfl | apply RN.agg | apply RN.tuple | apply RN.fn | exact RNs.nil | apply RNs.cons | (apply RNs.flat; simp; done))

set_option maxHeartbeats 1000000 in
theorem bookPar_nil (L : List Tk) (gen : Int) (h : L.length ≤ 50) (hO : ofL L gen = []) : SoundC Try.prog 22 [.sl (.r 0) 0 L.length 5 false, .int .i64 gen] ⟨[tks L], []⟩ { val := .bool true } := by
  refine SoundC.of (N := 61) Try.func22 rfl rfl rfl rfl ?_
  refine AW.seq ?_
  refine AW.region (by kernel_rfl) ?_
  refine RunF.q (o_assign rfl) rfl ?_
  refine AW.seq ?_
  refine AW.region (by kernel_rfl) ?_
  refine RunF.q (o_call (no := 0) (nr := 1) rfl rfl rfl (by (repeat' first | exact cl_nil | exact cL_flat rfl | exact cL_flat (ints_flat _) | apply cL_vs | apply cl_cons | exact cv_flat rfl | apply cv_agg | apply cv_ptr_o | apply cv_sl_o rfl | apply cv_func | exact cO_old rfl | (apply cO_new; (focus rfl); (focus rfl)) | (apply cv_sl_r; (focus rfl); (focus rfl); (focus (simp; done)); (focus (first | exact ints_all _ | rfl))) | (apply cv_ptr_r rfl ?_ rfl rfl) | (simp only [List.nil_append, List.cons_append, List.length_cons, List.length_nil, Nat.zero_add, Nat.reduceAdd, List.set_cons_zero, List.set_cons_succ]; rfl) | rfl)) (by rfl) (by exact shown13_ok) (by rfl) rfl rfl (by first | exact reV_bare _ _ rfl | (simp only [reV, reVs, List.all_cons, List.all_nil, AV.flat, Bool.and_true, Bool.true_and, Bool.false_and, Bool.and_false, Bool.false_eq_true, reduceIte, CS.de, List.getElem?_cons_zero, List.getElem?_cons_succ, List.getElem?_nil, List.length_cons, List.length_nil, Nat.reduceSub, Nat.reduceAdd, Nat.zero_add, Nat.add_zero, Nat.sub_self]; rfl)) rfl) (by rfl) ?_
  refine RunF.q (o_assign rfl) rfl ?_
  refine AW.seq ?_
  refine AW.seq ?_
  refine AW.region (by kernel_rfl) ?_
  refine RunF.q (o_move rfl) rfl ?_
  first | refine RunF.q (o_len tk94 rfl) rfl ?_ | refine RunF.q (o_len_nil tk94 rfl) rfl ?_
  refine RunF.q (o_gtr rfl rfl) rfl ?_
  refine AW.cond rfl (fun hc0 => absurd hc0 (by intro h; simp at h; omega)) (fun hc0 => ?_)
  refine AW.skip ?_
  refine AW.seq ?_
  refine AW.region (by kernel_rfl) ?_
  refine RunF.q (o_move rfl) rfl ?_
  refine RunF.q (o_move rfl) rfl ?_
  refine RunF.q (o_call (no := 0) (nr := 1) rfl rfl rfl (by (repeat' first | exact cl_nil | exact cL_flat rfl | exact cL_flat (ints_flat _) | exact cL_flat (sams_flat _) | exact cL_flat (tks_flat _) | exact cL_flat (ous_flat _) | exact cL_flat (ves_flat _) | apply cL_vs | apply cl_cons | exact cv_flat rfl | apply cv_agg | apply cv_ptr_o | apply cv_sl_o rfl | apply cv_func | exact cO_old rfl | (apply cO_new; (focus rfl); (focus rfl)) | (apply cv_sl_r; (focus rfl); (focus rfl); (focus (first | (simp; done) | (simp only [sams_length, tks_length, ous_length, ves_length]; omega))); (focus (first | exact ints_all _ | exact rowsF_all Sam.len _ | exact rowsF_all Tk.len _ | exact rowsF_all Ou.len _ | exact rowsF_all Ve.len _ | exact rowsF_win Sam.len _ _ | exact rowsF_win Tk.len _ _ | exact rowsF_from Tk.len _ | rfl))) | (apply cv_ptr_r rfl ?_ rfl rfl) | (simp only [List.nil_append, List.cons_append, List.length_cons, List.length_nil, Nat.zero_add, Nat.reduceAdd, List.set_cons_zero, List.set_cons_succ]; rfl) | rfl)) (by rfl) (by exact ofL_nil L false gen (by omega) hO) (by rfl) rfl rfl (by first | exact reV_bare _ _ rfl | (simp only [reV, reVs, List.all_cons, List.all_nil, AV.flat, Bool.and_true, Bool.true_and, Bool.false_and, Bool.and_false, Bool.false_eq_true, reduceIte, CS.de, List.getElem?_cons_zero, List.getElem?_cons_succ, List.getElem?_nil, List.length_cons, List.length_nil, Nat.reduceSub, Nat.reduceAdd, Nat.zero_add, Nat.add_zero, Nat.sub_self]; rfl)) rfl) (by rfl) ?_
  refine RunF.q (o_assign rfl) rfl ?_
  refine AW.seq ?_
  refine AW.region (by kernel_rfl) ?_
  refine RunF.q (o_assign rfl) rfl ?_
  refine AW.seq ?_
  refine AW.seq ?_
  refine AW.region (by kernel_rfl) ?_
  refine RunF.q (o_assign rfl) rfl ?_
  refine AW.block ?_
  refine AW.loop (α := {i : Nat // i ≤ L.length}) (fun x : {i : Nat // i ≤ L.length} => ([(0, .sl (.r 0) 0 L.length 5 false), (1, .int .i64 gen), (5, .bool true), (6, .nilsl), (7, .int .i64 (ofL (L.take x.1) gen).length), (8, .int .i64 x.1)], ⟨[tks L], []⟩)) (fun x => L.length - x.1) (fun x => ?_) ⟨0, by omega⟩ ?_
  · obtain ⟨i, hx⟩ := x
    try dsimp only at hx
    try dsimp only
    have hle : (ofL (L.take i) gen).length ≤ L.length := Nat.le_trans (ofL_le _ _) (by rw [List.length_take]; omega)
    refine AW.seq ?_
    refine AW.seq ?_
    refine AW.region (by kernel_rfl) ?_
    refine RunF.q (o_move rfl) rfl ?_
    refine RunF.q (o_move rfl) rfl ?_
    first | refine RunF.q (o_len tk94 rfl) rfl ?_ | refine RunF.q (o_len_nil tk94 rfl) rfl ?_
    refine RunF.q (o_lss rfl rfl) rfl ?_
    refine AW.cond rfl (fun hc1 => ?_) (fun hc1 => ?_)
    · try simp only [decide_eq_true_eq, decide_eq_false_iff_not, bne_iff_ne, beq_iff_eq, bne_eq_false_iff_eq, beq_eq_false_iff_ne, ne_eq, Bool.not_eq_true', Bool.not_eq_false'] at hc1
      refine AW.skip ?_
      refine AW.seq ?_
      refine AW.block ?_
      refine AW.seq ?_
      refine AW.seq ?_
      refine AW.region (by kernel_rfl) ?_
      refine RunF.q (o_move rfl) rfl ?_
      refine RunF.q (o_move rfl) rfl ?_
      refine RunF.q (o_indexAddr (m := i * 5) tk94 ts114 rfl rfl (by omega) (by omega)) rfl ?_
      refine RunF.q (o_fieldAddr rfl tk114 rfl ts2 rfl) rfl ?_
      refine RunF.q (o_load rfl tk2 ts2 rfl rfl (tks_g (i := i) (by omega))) rfl ?_
      refine RunF.q (o_move rfl) rfl ?_
      refine RunF.q (o_neq rfl rfl) rfl ?_
      refine AW.cond rfl (fun hc2 => ?_) (fun hc2 => ?_)
      · try simp only [decide_eq_true_eq, decide_eq_false_iff_not, bne_iff_ne, beq_iff_eq, bne_eq_false_iff_eq, beq_eq_false_iff_ne, ne_eq, Bool.not_eq_true', Bool.not_eq_false'] at hc2
        refine AW.exit ?_
        refine AW.region (by kernel_rfl) ?_
        refine RunF.q (o_move rfl) rfl ?_
        refine RunF.q (o_add rfl rfl (by first | exact i64_in _ (by omega) | rfl)) rfl ?_
        refine RunF.q (o_assign rfl) rfl ?_
        exact ⟨⟨i + 1, by omega⟩, Wk.same rfl (.cons rfl (.cons rfl (.cons rfl (.cons rfl (.cons (by first | rfl | (rw [ofL_skip (show i < L.length by omega) (by simpa using hc2)]; rfl)) (.cons rfl .nil)))))), by dsimp only; omega⟩
      · try simp only [decide_eq_true_eq, decide_eq_false_iff_not, bne_iff_ne, beq_iff_eq, bne_eq_false_iff_eq, beq_eq_false_iff_ne, ne_eq, Bool.not_eq_true', Bool.not_eq_false'] at hc2
        exfalso
        have hh := (ofL_nth (show i < L.length by omega) hc2).1
        rw [hO] at hh
        simp at hh
        skip
    · try simp only [decide_eq_true_eq, decide_eq_false_iff_not, bne_iff_ne, beq_iff_eq, bne_eq_false_iff_eq, beq_eq_false_iff_ne, ne_eq, Bool.not_eq_true', Bool.not_eq_false'] at hc1
      have hi : i = L.length := by omega
      have hfin : (ofL (L.take i) gen).length = 0 := by rw [hi, List.take_length, hO]; rfl
      refine AW.exit ?_
      refine AW.seq ?_
      refine AW.region (by kernel_rfl) ?_
      refine RunF.q (o_move rfl) rfl ?_
      refine RunF.q (o_move rfl) rfl ?_
      refine RunF.gq rfl (o_move rfl) rfl ?_
      refine RunF.gq rfl (o_move rfl) rfl ?_
      first | refine RunF.gq rfl (o_len tk100 rfl) rfl ?_ | refine RunF.gq rfl (o_len_nil tk100 rfl) rfl ?_
      refine RunF.gq rfl (o_bin (v := .bool true) rfl rfl (by simp only [binA]; rw [hfin]; simp)) rfl ?_
      refine RunF.q (o_pick_t rfl rfl) rfl ?_
      refine RunF.q (o_assign rfl) rfl ?_
      refine AW.ret ?_
      exact FinQ.ret [] [] (ress_tmp rfl ress_nil) rfl .nil (.cons rfl rfl (PRN.flat (tks_flat _)) .nil) (by repeat' first | exact RN.self rfl | exact RN.top | exact RN.ptr rfl | exact RN.sl rfl | exact RN.slf rfl | apply RN.agg | apply RN.tuple | apply RN.fn | exact RNs.nil | apply RNs.cons | (apply RNs.flat; simp; done))
  · exact Wk.same rfl (.cons rfl (.cons rfl (.cons rfl (.cons rfl (.cons rfl (.cons rfl .nil))))))

set_option maxHeartbeats 1000000 in
theorem bookPar_cons (L : List Tk) (gen : Int) (h : L.length ≤ 50) (O : List Ou) (hO : ofL L gen = O) (hne : O ≠ []) : SoundC Try.prog 22 [.sl (.r 0) 0 L.length 5 false, .int .i64 gen] ⟨[tks L], []⟩ { val := .bool true } := by
  refine SoundC.of (N := 61) Try.func22 rfl rfl rfl rfl ?_
  refine AW.seq ?_
  refine AW.region (by kernel_rfl) ?_
  refine RunF.q (o_assign rfl) rfl ?_
  refine AW.seq ?_
  refine AW.region (by kernel_rfl) ?_
  refine RunF.q (o_call (no := 0) (nr := 1) rfl rfl rfl (by (repeat' first | exact cl_nil | exact cL_flat rfl | exact cL_flat (ints_flat _) | apply cL_vs | apply cl_cons | exact cv_flat rfl | apply cv_agg | apply cv_ptr_o | apply cv_sl_o rfl | apply cv_func | exact cO_old rfl | (apply cO_new; (focus rfl); (focus rfl)) | (apply cv_sl_r; (focus rfl); (focus rfl); (focus (simp; done)); (focus (first | exact ints_all _ | rfl))) | (apply cv_ptr_r rfl ?_ rfl rfl) | (simp only [List.nil_append, List.cons_append, List.length_cons, List.length_nil, Nat.zero_add, Nat.reduceAdd, List.set_cons_zero, List.set_cons_succ]; rfl) | rfl)) (by rfl) (by exact shown13_ok) (by rfl) rfl rfl (by first | exact reV_bare _ _ rfl | (simp only [reV, reVs, List.all_cons, List.all_nil, AV.flat, Bool.and_true, Bool.true_and, Bool.false_and, Bool.and_false, Bool.false_eq_true, reduceIte, CS.de, List.getElem?_cons_zero, List.getElem?_cons_succ, List.getElem?_nil, List.length_cons, List.length_nil, Nat.reduceSub, Nat.reduceAdd, Nat.zero_add, Nat.add_zero, Nat.sub_self]; rfl)) rfl) (by rfl) ?_
  refine RunF.q (o_assign rfl) rfl ?_
  refine AW.seq ?_
  refine AW.seq ?_
  refine AW.region (by kernel_rfl) ?_
  refine RunF.q (o_move rfl) rfl ?_
  first | refine RunF.q (o_len tk94 rfl) rfl ?_ | refine RunF.q (o_len_nil tk94 rfl) rfl ?_
  refine RunF.q (o_gtr rfl rfl) rfl ?_
  refine AW.cond rfl (fun hc0 => absurd hc0 (by intro h; simp at h; omega)) (fun hc0 => ?_)
  refine AW.skip ?_
  refine AW.seq ?_
  refine AW.region (by kernel_rfl) ?_
  refine RunF.q (o_move rfl) rfl ?_
  refine RunF.q (o_move rfl) rfl ?_
  refine RunF.w (o_call (no := 0) (nr := 1) rfl rfl rfl (by (repeat' first | exact cl_nil | exact cL_flat rfl | exact cL_flat (ints_flat _) | exact cL_flat (sams_flat _) | exact cL_flat (tks_flat _) | exact cL_flat (ous_flat _) | exact cL_flat (ves_flat _) | apply cL_vs | apply cl_cons | exact cv_flat rfl | apply cv_agg | apply cv_ptr_o | apply cv_sl_o rfl | apply cv_func | exact cO_old rfl | (apply cO_new; (focus rfl); (focus rfl)) | (apply cv_sl_r; (focus rfl); (focus rfl); (focus (first | (simp; done) | (simp only [sams_length, tks_length, ous_length, ves_length]; omega))); (focus (first | exact ints_all _ | exact rowsF_all Sam.len _ | exact rowsF_all Tk.len _ | exact rowsF_all Ou.len _ | exact rowsF_all Ve.len _ | exact rowsF_win Sam.len _ _ | exact rowsF_win Tk.len _ _ | exact rowsF_from Tk.len _ | rfl))) | (apply cv_ptr_r rfl ?_ rfl rfl) | (simp only [List.nil_append, List.cons_append, List.length_cons, List.length_nil, Nat.zero_add, Nat.reduceAdd, List.set_cons_zero, List.set_cons_succ]; rfl) | rfl)) (by rfl) (by exact ofL_O L false gen (by omega) O hO hne) (by rfl) rfl rfl (by first | exact reV_bare _ _ rfl | (simp only [reV, reVs, List.all_cons, List.all_nil, AV.flat, Bool.and_true, Bool.true_and, Bool.false_and, Bool.and_false, Bool.false_eq_true, reduceIte, CS.de, List.getElem?_cons_zero, List.getElem?_cons_succ, List.getElem?_nil, List.length_cons, List.length_nil, Nat.reduceSub, Nat.reduceAdd, Nat.zero_add, Nat.add_zero, Nat.sub_self]; rfl)) (by simp only [CS.eff, rdsR, rdsO, List.map_cons, List.map_nil, reL_ints, reL_ves, reL_ous, num, List.nil_append, List.append_nil, List.cons_append]; rfl)) (by simp only [H.app, appO, patchAll, patch, List.map_cons, List.map_nil, List.append_nil, List.nil_append, List.cons_append, List.set_cons_zero, List.set_cons_succ, Option.map_some, Option.map_none, List.contains_cons, List.contains_nil, Nat.reduceAdd, Nat.reduceEqDiff, Nat.reduceBEq, Bool.or_false, Bool.false_eq_true, reduceIte, Nat.zero_add]; rfl) ?_
  refine RunF.q (o_assign rfl) rfl ?_
  refine AW.seq ?_
  refine AW.region (by kernel_rfl) ?_
  refine RunF.q (o_assign rfl) rfl ?_
  refine AW.seq ?_
  refine AW.seq ?_
  refine AW.region (by kernel_rfl) ?_
  refine RunF.q (o_assign rfl) rfl ?_
  refine AW.block ?_
  refine AW.loop (α := {i : Nat // i ≤ L.length}) (fun x : {i : Nat // i ≤ L.length} => ([(0, .sl (.r 0) 0 L.length 5 false), (1, .int .i64 gen), (5, .bool true), (6, .sl (.o 0) 0 O.length 4 false), (7, .int .i64 (ofL (L.take x.1) gen).length), (8, .int .i64 x.1)], ⟨[tks L], [some (ous O)]⟩)) (fun x => L.length - x.1) (fun x => ?_) ⟨0, by omega⟩ ?_
  · obtain ⟨i, hx⟩ := x
    try dsimp only at hx
    try dsimp only
    have hle : (ofL (L.take i) gen).length ≤ L.length := Nat.le_trans (ofL_le _ _) (by rw [List.length_take]; omega)
    refine AW.seq ?_
    refine AW.seq ?_
    refine AW.region (by kernel_rfl) ?_
    refine RunF.q (o_move rfl) rfl ?_
    refine RunF.q (o_move rfl) rfl ?_
    first | refine RunF.q (o_len tk94 rfl) rfl ?_ | refine RunF.q (o_len_nil tk94 rfl) rfl ?_
    refine RunF.q (o_lss rfl rfl) rfl ?_
    refine AW.cond rfl (fun hc1 => ?_) (fun hc1 => ?_)
    · try simp only [decide_eq_true_eq, decide_eq_false_iff_not, bne_iff_ne, beq_iff_eq, bne_eq_false_iff_eq, beq_eq_false_iff_ne, ne_eq, Bool.not_eq_true', Bool.not_eq_false'] at hc1
      refine AW.skip ?_
      refine AW.seq ?_
      refine AW.block ?_
      refine AW.seq ?_
      refine AW.seq ?_
      refine AW.region (by kernel_rfl) ?_
      refine RunF.q (o_move rfl) rfl ?_
      refine RunF.q (o_move rfl) rfl ?_
      refine RunF.q (o_indexAddr (m := i * 5) tk94 ts114 rfl rfl (by omega) (by omega)) rfl ?_
      refine RunF.q (o_fieldAddr rfl tk114 rfl ts2 rfl) rfl ?_
      refine RunF.q (o_load rfl tk2 ts2 rfl rfl (tks_g (i := i) (by omega))) rfl ?_
      refine RunF.q (o_move rfl) rfl ?_
      refine RunF.q (o_neq rfl rfl) rfl ?_
      refine AW.cond rfl (fun hc2 => ?_) (fun hc2 => ?_)
      · try simp only [decide_eq_true_eq, decide_eq_false_iff_not, bne_iff_ne, beq_iff_eq, bne_eq_false_iff_eq, beq_eq_false_iff_ne, ne_eq, Bool.not_eq_true', Bool.not_eq_false'] at hc2
        refine AW.exit ?_
        refine AW.region (by kernel_rfl) ?_
        refine RunF.q (o_move rfl) rfl ?_
        refine RunF.q (o_add rfl rfl (by first | exact i64_in _ (by omega) | rfl)) rfl ?_
        refine RunF.q (o_assign rfl) rfl ?_
        exact ⟨⟨i + 1, by omega⟩, Wk.same rfl (.cons rfl (.cons rfl (.cons rfl (.cons rfl (.cons (by first | rfl | (rw [ofL_skip (show i < L.length by omega) (by simpa using hc2)]; rfl)) (.cons rfl .nil)))))), by dsimp only; omega⟩
      · try simp only [decide_eq_true_eq, decide_eq_false_iff_not, bne_iff_ne, beq_iff_eq, bne_eq_false_iff_eq, beq_eq_false_iff_ne, ne_eq, Bool.not_eq_true', Bool.not_eq_false'] at hc2
        have hnth := ofL_nth (show i < L.length by omega) hc2
        rw [hO] at hnth
        refine AW.skip ?_
        refine AW.seq ?_
        refine AW.seq ?_
        refine AW.draws (by kernel_rfl) (by kernel_rfl) ?_
        refine RunV.q (o_move rfl) rfl ?_
        refine RunV.q (o_move rfl) rfl ?_
        first | refine RunV.q (o_len tk100 rfl) rfl ?_ | refine RunV.q (o_len_nil tk100 rfl) rfl ?_
        refine RunV.q (o_bin (v := .bool false) rfl rfl (by simp only [binA]; rw [decide_eq_false (by omega)]; rfl)) rfl ?_
        refine RunV.q (o_move rfl) rfl ?_
        refine RunV.gq rfl (o_move rfl) rfl ?_
        refine RunV.gq rfl (o_move rfl) rfl ?_
        refine RunV.gq rfl (o_indexAddr (m := (ofL (L.take i) gen).length * 4) tk100 ts112 rfl rfl (by omega) (by omega)) rfl ?_
        refine RunV.gq rfl (o_load_agg (cs := (O.getD (ofL (L.take i) gen).length default).cells) rfl tk112 ts112 rfl rfl (rowsF_le Ou.len (by omega)) (rowsF_at Ou.len (by omega))) rfl ?_
        refine RunV.gq rfl (o_move rfl) rfl ?_
        refine RunV.gq rfl (o_move rfl) rfl ?_
        refine RunV.gq rfl (o_indexAddr (m := i * 5) tk94 ts114 rfl rfl (by omega) (by omega)) rfl ?_
        refine RunV.gq rfl (o_fieldAddr rfl tk114 rfl ts2 rfl) rfl ?_
        refine RunV.gq rfl (o_load rfl tk2 ts2 rfl rfl (tks_k (i := i) (by omega))) rfl ?_
        refine RunV.gq rfl (o_move rfl) rfl ?_
        refine RunV.gq rfl (o_move rfl) rfl ?_
        refine RunV.gq rfl (o_indexAddr (m := i * 5) tk94 ts114 rfl rfl (by omega) (by omega)) rfl ?_
        refine RunV.gq rfl (o_fieldAddr rfl tk114 rfl ts83 rfl) rfl ?_
        refine RunV.gq rfl (o_load_agg rfl tk83 ts83 rfl rfl (tks_yle (by omega)) (tks_y (by omega))) rfl ?_
        refine RunV.gq rfl (o_build tk112 tz112 pl112 rfl rfl) rfl ?_
        refine RunV.gq rfl (o_nea (z := true) rfl rfl tk112 ko112 (by rw [eg112]; rfl) (by rw [hnth.2]; exact (ou_eq (L.getD i default).out (L.getD i default).out).trans (by rw [decide_eq_true rfl]))) rfl ?_
        refine RunV.q (o_pick_f rfl rfl) rfl ?_
        refine And.intro (by kernel_rfl) ?_
        refine AW.cond rfl (fun hc3 => absurd hc3 (by simp)) (fun hc3 => ?_)
        refine AW.skip ?_
        refine AW.region (by kernel_rfl) ?_
        refine RunF.q (o_move rfl) rfl ?_
        refine RunF.q (o_add rfl rfl (i64_in _ (by omega))) rfl ?_
        refine RunF.q (o_assign (v := .int .i64 ((ofL (L.take (i + 1)) gen).length : Nat)) (by rw [ofL_cnt (show i < L.length by omega) hc2]; rfl)) rfl ?_
        refine AW.region (by kernel_rfl) ?_
        refine RunF.q (o_move rfl) rfl ?_
        refine RunF.q (o_add rfl rfl (by first | exact i64_in _ (by omega) | rfl)) rfl ?_
        refine RunF.q (o_assign rfl) rfl ?_
        exact ⟨⟨i + 1, by omega⟩, Wk.same rfl (.cons rfl (.cons rfl (.cons rfl (.cons rfl (.cons (by first | rfl | (rw [ofL_skip (show i < L.length by omega) (by simpa using hc2)]; rfl)) (.cons rfl .nil)))))), by dsimp only; omega⟩
    · try simp only [decide_eq_true_eq, decide_eq_false_iff_not, bne_iff_ne, beq_iff_eq, bne_eq_false_iff_eq, beq_eq_false_iff_ne, ne_eq, Bool.not_eq_true', Bool.not_eq_false'] at hc1
      have hi : i = L.length := by omega
      have hfin : (ofL (L.take i) gen).length = O.length := by rw [hi, List.take_length, hO]
      refine AW.exit ?_
      refine AW.seq ?_
      refine AW.region (by kernel_rfl) ?_
      refine RunF.q (o_move rfl) rfl ?_
      refine RunF.q (o_move rfl) rfl ?_
      refine RunF.gq rfl (o_move rfl) rfl ?_
      refine RunF.gq rfl (o_move rfl) rfl ?_
      first | refine RunF.gq rfl (o_len tk100 rfl) rfl ?_ | refine RunF.gq rfl (o_len_nil tk100 rfl) rfl ?_
      refine RunF.gq rfl (o_bin (v := .bool true) rfl rfl (by simp only [binA]; rw [hfin]; simp)) rfl ?_
      refine RunF.q (o_pick_t rfl rfl) rfl ?_
      refine RunF.q (o_assign rfl) rfl ?_
      refine AW.ret ?_
      exact FinQ.ret [] [] (ress_tmp rfl ress_nil) rfl .nil (.cons rfl rfl (PRN.flat (tks_flat _)) .nil) (by repeat' first | exact RN.self rfl | exact RN.top | exact RN.ptr rfl | exact RN.sl rfl | exact RN.slf rfl | apply RN.agg | apply RN.tuple | apply RN.fn | exact RNs.nil | apply RNs.cons | (apply RNs.flat; simp; done))
  · exact Wk.same rfl (.cons rfl (.cons rfl (.cons rfl (.cons rfl (.cons rfl (.cons rfl .nil))))))

end Go.Proofs.Ytnkijhpikeokfaa

/- Rows of samples, and of what was taken, off a statement's reading. -/
namespace Go.Proofs.Ytnkijhpikeokfaa
open Go Go.Sym Go.IntWalk

theorem Rep.sams : ∀ {n : Nat} {l : List AV}, Rep [none, some .i64, some .i64, some .i64, some .i64, some .i64, some .i64, none, some .i64, none, some .i64, some .i64, some .i64] n l → ∃ L : List Sam, l = sams L ∧ L.length = n
  | 0, l, h => by simp only [Rep] at h; exact ⟨[], by simp [h, rowsF], rfl⟩
  | n + 1, l, h => by
    obtain ⟨_, b, rfl, ⟨_, _, rfl, ⟨m, rfl⟩, ⟨_, _, rfl, ⟨g0, rfl, w1⟩, ⟨_, _, rfl, ⟨g1, rfl, w2⟩, ⟨_, _, rfl, ⟨g2, rfl, w3⟩, ⟨_, _, rfl, ⟨a0, rfl, w4⟩, ⟨_, _, rfl, ⟨a1, rfl, w5⟩, ⟨_, _, rfl, ⟨a2, rfl, w6⟩, ⟨_, _, rfl, ⟨hb, rfl⟩, ⟨_, _, rfl, ⟨b0, rfl, w8⟩, ⟨_, _, rfl, ⟨hg, rfl⟩, ⟨_, _, rfl, ⟨n0, rfl, w10⟩, ⟨_, _, rfl, ⟨n1, rfl, w11⟩, ⟨_, _, rfl, ⟨n2, rfl, w12⟩, e3⟩⟩⟩⟩⟩⟩⟩⟩⟩⟩⟩⟩⟩, h2⟩ := h
    obtain rfl := e3
    obtain ⟨L, rfl, hn⟩ := Rep.sams h2
    exact ⟨⟨m, g0, g1, g2, a0, a1, a2, hb, b0, hg, n0, n1, n2⟩ :: L, by simp [rowsF, Sam.cells], by simp [hn]⟩
theorem Rep.tks : ∀ {n : Nat} {l : List AV}, Rep [some .i64, some .i64, some .i64, some .i64, some .i64] n l → ∃ L : List Tk, l = tks L ∧ L.length = n
  | 0, l, h => by simp only [Rep] at h; exact ⟨[], by simp [h, rowsF], rfl⟩
  | n + 1, l, h => by
    obtain ⟨_, b, rfl, ⟨_, _, rfl, ⟨g, rfl, w0⟩, ⟨_, _, rfl, ⟨k, rfl, w1⟩, ⟨_, _, rfl, ⟨y0, rfl, w2⟩, ⟨_, _, rfl, ⟨y1, rfl, w3⟩, ⟨_, _, rfl, ⟨y2, rfl, w4⟩, e3⟩⟩⟩⟩⟩, h2⟩ := h
    obtain rfl := e3
    obtain ⟨L, rfl, hn⟩ := Rep.tks h2
    exact ⟨⟨g, k, y0, y1, y2⟩ :: L, by simp [rowsF, Tk.cells], by simp [hn]⟩
theorem rep_i64 {n : Int} (h : (Lit.int .i64 n).wf = true) : -9223372036854775808 ≤ n ∧ n ≤ 9223372036854775807 := by
  simpa [Lit.wf, IntKind.min, IntKind.max, IntKind.bits, IntKind.signed] using h
theorem Rep.ous : ∀ {n : Nat} {l : List AV}, Rep [some .i64, some .i64, some .i64, some .i64] n l → ∃ L : List Ou, l = ous L ∧ L.length = n ∧ ∀ o ∈ L, -9223372036854775808 ≤ o.k ∧ o.k ≤ 9223372036854775807
  | 0, l, h => by simp only [Rep] at h; exact ⟨[], by simp [h, rowsF], rfl, by simp⟩
  | n + 1, l, h => by
    obtain ⟨_, b, rfl, ⟨_, _, rfl, ⟨k, rfl, w0⟩, ⟨_, _, rfl, ⟨y0, rfl, w1⟩, ⟨_, _, rfl, ⟨y1, rfl, w2⟩, ⟨_, _, rfl, ⟨y2, rfl, w3⟩, e3⟩⟩⟩⟩, h2⟩ := h
    obtain rfl := e3
    obtain ⟨L, rfl, hn, hk⟩ := Rep.ous h2
    refine ⟨⟨k, y0, y1, y2⟩ :: L, by simp [rowsF, Ou.cells], by simp [hn], fun o ho => ?_⟩
    rcases List.mem_cons.1 ho with rfl | ho
    · exact rep_i64 w0
    · exact hk o ho

end Go.Proofs.Ytnkijhpikeokfaa
