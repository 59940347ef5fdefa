/- Tracks: which are right, which are the same, what is good. -/
import Derived.Test.YtnkijhpikeokfaaF10
set_option linter.unusedSimpArgs false
set_option linter.unusedVariables false
namespace Go.Proofs.Ytnkijhpikeokfaa
open Go Go.Sym Go.IntWalk

theorem ints_set (L : List Int) (k : Nat) (v : Int) : (ints L).set k (.int .i64 v) = ints (L.set k v) := by simp [ints, List.map_set]

theorem store_int {L : List Int} {k : Nat} {v : Int} (h : k < L.length) : (Nat.beq [AV.int .i64 v].length 1 && Nat.ble (k + [AV.int .i64 v].length) (ints L).length && [AV.int .i64 v].all AV.scalar) = true := by
  have h1 : Nat.ble (k + 1) (ints L).length = true := Nat.ble_eq_true_of_le (by simp [ints]; omega)
  simp only [List.length_cons, List.length_nil, Nat.zero_add, h1]
  rfl

/-- what a track that is right bears -/
def RightT (XR XC : Int) (x : List Int) (PR PC : Int) (p : List Int) : Prop :=
  rightM XR XC x = true ∧ rightM PR PC p = true ∧ XC = 1 ∧ PR = XR ∧ PC = XR ∧ (∀ i k, i < XR.toNat → k < XR.toNat → p.getD (i * XR.toNat + k) 0 = p.getD (k * XR.toNat + i) 0) ∧ ∀ i, i < XR.toNat → 0 ≤ p.getD (i * XR.toNat + i) 0
noncomputable def rightT (XR XC : Int) (x : List Int) (PR PC : Int) (p : List Int) : Bool := @decide (RightT XR XC x PR PC p) (Classical.propDecidable _)
theorem rightT_yes {XR XC : Int} {x : List Int} {PR PC : Int} {p : List Int} (h : RightT XR XC x PR PC p) : rightT XR XC x PR PC p = true := by unfold rightT; exact @decide_eq_true _ (Classical.propDecidable _) h
theorem rightT_no {XR XC : Int} {x : List Int} {PR PC : Int} {p : List Int} (h : ¬ RightT XR XC x PR PC p) : rightT XR XC x PR PC p = false := by unfold rightT; exact @decide_eq_false _ (Classical.propDecidable _) h
theorem rightT_is {XR XC : Int} {x : List Int} {PR PC : Int} {p : List Int} (h : rightT XR XC x PR PC p = true) : RightT XR XC x PR PC p := by unfold rightT at h; exact @of_decide_eq_true _ (Classical.propDecidable _) h

theorem turned_iff {p : List Int} {n : Nat} (hp : p.length = n * n) : p = trL p n n ↔ ∀ i k, i < n → k < n → p.getD (i * n + k) 0 = p.getD (k * n + i) 0 := by
  constructor
  · intro h i k hi hk
    conv => lhs; rw [h]
    exact trL_at hi hk
  · intro h
    have h1 : trL p n n = tab (fun i k => p.getD (i * n + k) 0) n (n * n) := by
      unfold trL; exact tab_congr fun i k hi hk => h k i hk hi
    rw [h1, tab_self hp]
theorem sameM_true {r c : Int} {A : List Int} {r' c' : Int} {B : List Int} (h : sameM r c A r' c' B = true) : r = r' ∧ c = c' ∧ A = B := of_decide_eq_true h
theorem sameM_false {r c : Int} {A B : List Int} (h : sameM r c A r c B = false) : A ≠ B := fun e => (of_decide_eq_false h) ⟨rfl, rfl, e⟩

/-- noughts for what is below, on the diagonal, of the first i -/
def goodN (E : List Int) (n : Nat) : Nat → List Int
  | 0 => E
  | i + 1 => (goodN E n i).set (i * n + i) (if (0 : Int) > (goodN E n i).getD (i * n + i) 0 then 0 else (goodN E n i).getD (i * n + i) 0)
def goodL (p : List Int) (n : Nat) : List Int := goodN (evenL p n) n n
theorem goodN_length (E : List Int) (n : Nat) : ∀ i, (goodN E n i).length = E.length
  | 0 => rfl
  | i + 1 => by simp only [goodN, List.length_set]; exact goodN_length E n i
theorem goodL_length' (E : List Int) (n : Nat) : (goodN E n n).length = E.length := goodN_length E n n
theorem goodL_length (p : List Int) (n : Nat) : (goodL p n).length = n * n := by unfold goodL; rw [goodN_length, evenL_length]
theorem good_even_length (p : List Int) (n : Nat) : (evenL p n).length = (goodL p n).length := by rw [goodL_length, evenL_length]

set_option maxHeartbeats 1000000 in
theorem ksame_ok (XR XC PR PC XR' XC' PR' PC' : Int) (x p x' p' : List Int) (f0 f1 f2 f3 : Bool) (hx : x.length ≤ 1000000) (hp : p.length ≤ 1000000) : SoundC Try.prog 45 [.agg [.int .i64 XR, .int .i64 XC, .sl (.r 0) 0 x.length 1 f0, .int .i64 PR, .int .i64 PC, .sl (.r 1) 0 p.length 1 f1], .agg [.int .i64 XR', .int .i64 XC', .sl (.r 2) 0 x'.length 1 f2, .int .i64 PR', .int .i64 PC', .sl (.r 3) 0 p'.length 1 f3]] ⟨[ints x, ints p, ints x', ints p'], []⟩ { val := .bool (sameM XR XC x XR' XC' x' && sameM PR PC p PR' PC' p') } := by
  refine SoundC.of (N := 17) Try.func45 rfl rfl rfl rfl ?_
  refine AW.seq ?_
  refine AW.region (by kernel_rfl) ?_
  refine RunF.w (o_box (nm := 0) rfl rfl rfl) (by simp only [H.app, appO, patchAll, patch, List.map_cons, List.map_nil, List.append_nil, List.nil_append, List.cons_append, List.set_cons_zero, List.set_cons_succ, Option.map_some, Option.map_none, List.contains_cons, List.contains_nil, Nat.reduceAdd, Nat.reduceEqDiff, Nat.reduceBEq, Bool.or_false, Bool.false_eq_true, reduceIte, Nat.zero_add]; rfl) ?_
  refine RunF.w (o_box (nm := 1) rfl rfl rfl) (by simp only [H.app, appO, patchAll, patch, List.map_cons, List.map_nil, List.append_nil, List.nil_append, List.cons_append, List.set_cons_zero, List.set_cons_succ, Option.map_some, Option.map_none, List.contains_cons, List.contains_nil, Nat.reduceAdd, Nat.reduceEqDiff, Nat.reduceBEq, Bool.or_false, Bool.false_eq_true, reduceIte, Nat.zero_add]; rfl) ?_
  refine RunF.q (o_assign rfl) rfl ?_
  refine AW.seq ?_
  refine AW.region (by kernel_rfl) ?_
  refine RunF.q (o_fieldAddr rfl tk41 rfl ts24 rfl) rfl ?_
  refine RunF.q (o_load_agg rfl tk24 ts24 rfl rfl rfl (by simp only [List.take_succ_cons, List.drop_succ_cons, List.drop_zero, List.take_zero, List.take_nil, List.drop_nil, Nat.zero_add, Nat.reduceAdd]; rfl)) rfl ?_
  refine RunF.q (o_fieldAddr rfl tk41 rfl ts24 rfl) rfl ?_
  refine RunF.q (o_load_agg rfl tk24 ts24 rfl rfl rfl (by simp only [List.take_succ_cons, List.drop_succ_cons, List.drop_zero, List.take_zero, List.take_nil, List.drop_nil, Nat.zero_add, Nat.reduceAdd]; rfl)) rfl ?_
  refine RunF.q (o_call (no := 2) (nr := 4) rfl rfl rfl (by (repeat' first | exact cl_nil | exact cL_flat rfl | exact cL_flat (ints_flat _) | apply cL_vs | apply cl_cons | exact cv_flat rfl | apply cv_agg | apply cv_ptr_o | apply cv_sl_o rfl | apply cv_func | exact cO_old rfl | (apply cO_new; (focus rfl); (focus rfl)) | (apply cv_sl_r; (focus rfl); (focus rfl); (focus (simp; done)); (focus (first | exact ints_all _ | rfl))) | (apply cv_ptr_r rfl ?_ rfl rfl) | (simp only [List.nil_append, List.cons_append, List.length_cons, List.length_nil, Nat.zero_add, Nat.reduceAdd, List.set_cons_zero, List.set_cons_succ]; rfl) | rfl)) (by rfl) (by exact msame_ok XR XC XR' XC' x x' f0 f2 hx) (by rfl) rfl rfl (by first | exact reV_bare _ _ rfl | (simp only [reV, reVs, List.all_cons, List.all_nil, AV.flat, Bool.and_true, Bool.true_and, Bool.false_and, Bool.and_false, Bool.false_eq_true, reduceIte, CS.de, List.getElem?_cons_zero, List.getElem?_cons_succ, List.getElem?_nil, List.length_cons, List.length_nil, Nat.reduceSub, Nat.reduceAdd, Nat.zero_add, Nat.add_zero, Nat.sub_self]; rfl)) rfl) (by rfl) ?_
  refine RunF.br (o_move rfl) rfl (fun hb1_5 => ?_) (fun hb1_5 => ?_)
  · try simp only [decide_eq_true_eq, decide_eq_false_iff_not, bne_iff_ne, beq_iff_eq, bne_eq_false_iff_eq, beq_eq_false_iff_ne, ne_eq, Bool.not_eq_true', Bool.not_eq_false'] at hb1_5
    refine RunF.gq rfl (o_fieldAddr rfl tk41 rfl ts24 rfl) rfl ?_
    refine RunF.gq rfl (o_load_agg rfl tk24 ts24 rfl rfl rfl (by simp only [List.take_succ_cons, List.drop_succ_cons, List.drop_zero, List.take_zero, List.take_nil, List.drop_nil, Nat.zero_add, Nat.reduceAdd]; rfl)) rfl ?_
    refine RunF.gq rfl (o_fieldAddr rfl tk41 rfl ts24 rfl) rfl ?_
    refine RunF.gq rfl (o_load_agg rfl tk24 ts24 rfl rfl rfl (by simp only [List.take_succ_cons, List.drop_succ_cons, List.drop_zero, List.take_zero, List.take_nil, List.drop_nil, Nat.zero_add, Nat.reduceAdd]; rfl)) rfl ?_
    refine RunF.gq rfl (o_call (no := 2) (nr := 4) rfl rfl rfl (by (repeat' first | exact cl_nil | exact cL_flat rfl | exact cL_flat (ints_flat _) | apply cL_vs | apply cl_cons | exact cv_flat rfl | apply cv_agg | apply cv_ptr_o | apply cv_sl_o rfl | apply cv_func | exact cO_old rfl | (apply cO_new; (focus rfl); (focus rfl)) | (apply cv_sl_r; (focus rfl); (focus rfl); (focus (simp; done)); (focus (first | exact ints_all _ | rfl))) | (apply cv_ptr_r rfl ?_ rfl rfl) | (simp only [List.nil_append, List.cons_append, List.length_cons, List.length_nil, Nat.zero_add, Nat.reduceAdd, List.set_cons_zero, List.set_cons_succ]; rfl) | rfl)) (by rfl) (by exact msame_ok PR PC PR' PC' p p' f1 f3 hp) (by rfl) rfl rfl (by first | exact reV_bare _ _ rfl | (simp only [reV, reVs, List.all_cons, List.all_nil, AV.flat, Bool.and_true, Bool.true_and, Bool.false_and, Bool.and_false, Bool.false_eq_true, reduceIte, CS.de, List.getElem?_cons_zero, List.getElem?_cons_succ, List.getElem?_nil, List.length_cons, List.length_nil, Nat.reduceSub, Nat.reduceAdd, Nat.zero_add, Nat.add_zero, Nat.sub_self]; rfl)) rfl) (by rfl) ?_
    refine RunF.q (o_pick_t rfl rfl) rfl ?_
    refine RunF.q (o_assign rfl) rfl ?_
    refine AW.ret ?_
    exact FinQ.ret [] [] (ress_tmp rfl ress_nil) rfl .nil (.cons rfl rfl (by first | (apply PRN.flat; rfl) | (apply PRN.flat; simp; done) | (repeat' first | exact PRN.nil | apply PRN.cons | exact RN.self rfl | exact RN.top | exact RN.ptr rfl | exact RN.sl rfl | exact RN.slf rfl | apply RN.agg | apply RN.fn | exact RNs.nil | apply RNs.cons)) (.cons rfl rfl (by first | (apply PRN.flat; rfl) | (apply PRN.flat; simp; done) | (repeat' first | exact PRN.nil | apply PRN.cons | exact RN.self rfl | exact RN.top | exact RN.ptr rfl | exact RN.sl rfl | exact RN.slf rfl | apply RN.agg | apply RN.fn | exact RNs.nil | apply RNs.cons)) (.cons rfl rfl (by first | (apply PRN.flat; rfl) | (apply PRN.flat; simp; done) | (repeat' first | exact PRN.nil | apply PRN.cons | exact RN.self rfl | exact RN.top | exact RN.ptr rfl | exact RN.sl rfl | exact RN.slf rfl | apply RN.agg | apply RN.fn | exact RNs.nil | apply RNs.cons)) (.cons rfl rfl (by first | (apply PRN.flat; rfl) | (apply PRN.flat; simp; done) | (repeat' first | exact PRN.nil | apply PRN.cons | exact RN.self rfl | exact RN.top | exact RN.ptr rfl | exact RN.sl rfl | exact RN.slf rfl | apply RN.agg | apply RN.fn | exact RNs.nil | apply RNs.cons)) .nil)))) (by rw [hb1_5, Bool.true_and]; exact (by repeat' first | exact RN.self rfl | exact RN.top | exact RN.ptr rfl | exact RN.sl rfl | exact RN.slf rfl | apply RN.agg | apply RN.tuple | apply RN.fn | exact RNs.nil | apply RNs.cons | (apply RNs.flat; simp; done)))
  · try simp only [decide_eq_true_eq, decide_eq_false_iff_not, bne_iff_ne, beq_iff_eq, bne_eq_false_iff_eq, beq_eq_false_iff_ne, ne_eq, Bool.not_eq_true', Bool.not_eq_false'] at hb1_5
    refine RunF.gs (b := false) rfl rfl ?_
    refine RunF.gs (b := false) rfl rfl ?_
    refine RunF.gs (b := false) rfl rfl ?_
    refine RunF.gs (b := false) rfl rfl ?_
    refine RunF.gs (b := false) rfl rfl ?_
    refine RunF.q (o_pick_f rfl rfl) rfl ?_
    refine RunF.q (o_assign rfl) rfl ?_
    refine AW.ret ?_
    exact FinQ.ret [] [] (ress_tmp rfl ress_nil) rfl .nil (.cons rfl rfl (by first | (apply PRN.flat; rfl) | (apply PRN.flat; simp; done) | (repeat' first | exact PRN.nil | apply PRN.cons | exact RN.self rfl | exact RN.top | exact RN.ptr rfl | exact RN.sl rfl | exact RN.slf rfl | apply RN.agg | apply RN.fn | exact RNs.nil | apply RNs.cons)) (.cons rfl rfl (by first | (apply PRN.flat; rfl) | (apply PRN.flat; simp; done) | (repeat' first | exact PRN.nil | apply PRN.cons | exact RN.self rfl | exact RN.top | exact RN.ptr rfl | exact RN.sl rfl | exact RN.slf rfl | apply RN.agg | apply RN.fn | exact RNs.nil | apply RNs.cons)) (.cons rfl rfl (by first | (apply PRN.flat; rfl) | (apply PRN.flat; simp; done) | (repeat' first | exact PRN.nil | apply PRN.cons | exact RN.self rfl | exact RN.top | exact RN.ptr rfl | exact RN.sl rfl | exact RN.slf rfl | apply RN.agg | apply RN.fn | exact RNs.nil | apply RNs.cons)) (.cons rfl rfl (by first | (apply PRN.flat; rfl) | (apply PRN.flat; simp; done) | (repeat' first | exact PRN.nil | apply PRN.cons | exact RN.self rfl | exact RN.top | exact RN.ptr rfl | exact RN.sl rfl | exact RN.slf rfl | apply RN.agg | apply RN.fn | exact RNs.nil | apply RNs.cons)) .nil)))) (by rw [hb1_5, Bool.false_and]; exact (by repeat' first | exact RN.self rfl | exact RN.top | exact RN.ptr rfl | exact RN.sl rfl | exact RN.slf rfl | apply RN.agg | apply RN.tuple | apply RN.fn | exact RNs.nil | apply RNs.cons | (apply RNs.flat; simp; done)))

set_option maxHeartbeats 1000000 in
theorem r5same_ok (XR XC PR PC XR' XC' PR' PC' : Int) (x p x' p' : List Int) (f0 f1 f2 f3 : Bool) (hx : x.length ≤ 1000000) (hp : p.length ≤ 1000000) : SoundC Try.prog 43 [.agg [.int .i64 XR, .int .i64 XC, .sl (.r 0) 0 x.length 1 f0, .int .i64 PR, .int .i64 PC, .sl (.r 1) 0 p.length 1 f1], .agg [.int .i64 XR', .int .i64 XC', .sl (.r 2) 0 x'.length 1 f2, .int .i64 PR', .int .i64 PC', .sl (.r 3) 0 p'.length 1 f3]] ⟨[ints x, ints p, ints x', ints p'], []⟩ { val := .bool (sameM XR XC x XR' XC' x' && sameM PR PC p PR' PC' p') } := by
  refine SoundC.of (N := 17) Try.func43 rfl rfl rfl rfl ?_
  refine AW.seq ?_
  refine AW.region (by kernel_rfl) ?_
  refine RunF.w (o_box (nm := 0) rfl rfl rfl) (by simp only [H.app, appO, patchAll, patch, List.map_cons, List.map_nil, List.append_nil, List.nil_append, List.cons_append, List.set_cons_zero, List.set_cons_succ, Option.map_some, Option.map_none, List.contains_cons, List.contains_nil, Nat.reduceAdd, Nat.reduceEqDiff, Nat.reduceBEq, Bool.or_false, Bool.false_eq_true, reduceIte, Nat.zero_add]; rfl) ?_
  refine RunF.w (o_box (nm := 1) rfl rfl rfl) (by simp only [H.app, appO, patchAll, patch, List.map_cons, List.map_nil, List.append_nil, List.nil_append, List.cons_append, List.set_cons_zero, List.set_cons_succ, Option.map_some, Option.map_none, List.contains_cons, List.contains_nil, Nat.reduceAdd, Nat.reduceEqDiff, Nat.reduceBEq, Bool.or_false, Bool.false_eq_true, reduceIte, Nat.zero_add]; rfl) ?_
  refine RunF.q (o_assign rfl) rfl ?_
  refine AW.seq ?_
  refine AW.region (by kernel_rfl) ?_
  refine RunF.q (o_fieldAddr rfl tk41 rfl ts24 rfl) rfl ?_
  refine RunF.q (o_load_agg rfl tk24 ts24 rfl rfl rfl (by simp only [List.take_succ_cons, List.drop_succ_cons, List.drop_zero, List.take_zero, List.take_nil, List.drop_nil, Nat.zero_add, Nat.reduceAdd]; rfl)) rfl ?_
  refine RunF.q (o_fieldAddr rfl tk41 rfl ts24 rfl) rfl ?_
  refine RunF.q (o_load_agg rfl tk24 ts24 rfl rfl rfl (by simp only [List.take_succ_cons, List.drop_succ_cons, List.drop_zero, List.take_zero, List.take_nil, List.drop_nil, Nat.zero_add, Nat.reduceAdd]; rfl)) rfl ?_
  refine RunF.q (o_call (no := 2) (nr := 4) rfl rfl rfl (by (repeat' first | exact cl_nil | exact cL_flat rfl | exact cL_flat (ints_flat _) | apply cL_vs | apply cl_cons | exact cv_flat rfl | apply cv_agg | apply cv_ptr_o | apply cv_sl_o rfl | apply cv_func | exact cO_old rfl | (apply cO_new; (focus rfl); (focus rfl)) | (apply cv_sl_r; (focus rfl); (focus rfl); (focus (simp; done)); (focus (first | exact ints_all _ | rfl))) | (apply cv_ptr_r rfl ?_ rfl rfl) | (simp only [List.nil_append, List.cons_append, List.length_cons, List.length_nil, Nat.zero_add, Nat.reduceAdd, List.set_cons_zero, List.set_cons_succ]; rfl) | rfl)) (by rfl) (by exact rsame_ok XR XC XR' XC' x x' f0 f2 hx) (by rfl) rfl rfl (by first | exact reV_bare _ _ rfl | (simp only [reV, reVs, List.all_cons, List.all_nil, AV.flat, Bool.and_true, Bool.true_and, Bool.false_and, Bool.and_false, Bool.false_eq_true, reduceIte, CS.de, List.getElem?_cons_zero, List.getElem?_cons_succ, List.getElem?_nil, List.length_cons, List.length_nil, Nat.reduceSub, Nat.reduceAdd, Nat.zero_add, Nat.add_zero, Nat.sub_self]; rfl)) rfl) (by rfl) ?_
  refine RunF.br (o_move rfl) rfl (fun hb1_5 => ?_) (fun hb1_5 => ?_)
  · try simp only [decide_eq_true_eq, decide_eq_false_iff_not, bne_iff_ne, beq_iff_eq, bne_eq_false_iff_eq, beq_eq_false_iff_ne, ne_eq, Bool.not_eq_true', Bool.not_eq_false'] at hb1_5
    refine RunF.gq rfl (o_fieldAddr rfl tk41 rfl ts24 rfl) rfl ?_
    refine RunF.gq rfl (o_load_agg rfl tk24 ts24 rfl rfl rfl (by simp only [List.take_succ_cons, List.drop_succ_cons, List.drop_zero, List.take_zero, List.take_nil, List.drop_nil, Nat.zero_add, Nat.reduceAdd]; rfl)) rfl ?_
    refine RunF.gq rfl (o_fieldAddr rfl tk41 rfl ts24 rfl) rfl ?_
    refine RunF.gq rfl (o_load_agg rfl tk24 ts24 rfl rfl rfl (by simp only [List.take_succ_cons, List.drop_succ_cons, List.drop_zero, List.take_zero, List.take_nil, List.drop_nil, Nat.zero_add, Nat.reduceAdd]; rfl)) rfl ?_
    refine RunF.gq rfl (o_call (no := 2) (nr := 4) rfl rfl rfl (by (repeat' first | exact cl_nil | exact cL_flat rfl | exact cL_flat (ints_flat _) | apply cL_vs | apply cl_cons | exact cv_flat rfl | apply cv_agg | apply cv_ptr_o | apply cv_sl_o rfl | apply cv_func | exact cO_old rfl | (apply cO_new; (focus rfl); (focus rfl)) | (apply cv_sl_r; (focus rfl); (focus rfl); (focus (simp; done)); (focus (first | exact ints_all _ | rfl))) | (apply cv_ptr_r rfl ?_ rfl rfl) | (simp only [List.nil_append, List.cons_append, List.length_cons, List.length_nil, Nat.zero_add, Nat.reduceAdd, List.set_cons_zero, List.set_cons_succ]; rfl) | rfl)) (by rfl) (by exact rsame_ok PR PC PR' PC' p p' f1 f3 hp) (by rfl) rfl rfl (by first | exact reV_bare _ _ rfl | (simp only [reV, reVs, List.all_cons, List.all_nil, AV.flat, Bool.and_true, Bool.true_and, Bool.false_and, Bool.and_false, Bool.false_eq_true, reduceIte, CS.de, List.getElem?_cons_zero, List.getElem?_cons_succ, List.getElem?_nil, List.length_cons, List.length_nil, Nat.reduceSub, Nat.reduceAdd, Nat.zero_add, Nat.add_zero, Nat.sub_self]; rfl)) rfl) (by rfl) ?_
    refine RunF.q (o_pick_t rfl rfl) rfl ?_
    refine RunF.q (o_assign rfl) rfl ?_
    refine AW.ret ?_
    exact FinQ.ret [] [] (ress_tmp rfl ress_nil) rfl .nil (.cons rfl rfl (by first | (apply PRN.flat; rfl) | (apply PRN.flat; simp; done) | (repeat' first | exact PRN.nil | apply PRN.cons | exact RN.self rfl | exact RN.top | exact RN.ptr rfl | exact RN.sl rfl | exact RN.slf rfl | apply RN.agg | apply RN.fn | exact RNs.nil | apply RNs.cons)) (.cons rfl rfl (by first | (apply PRN.flat; rfl) | (apply PRN.flat; simp; done) | (repeat' first | exact PRN.nil | apply PRN.cons | exact RN.self rfl | exact RN.top | exact RN.ptr rfl | exact RN.sl rfl | exact RN.slf rfl | apply RN.agg | apply RN.fn | exact RNs.nil | apply RNs.cons)) (.cons rfl rfl (by first | (apply PRN.flat; rfl) | (apply PRN.flat; simp; done) | (repeat' first | exact PRN.nil | apply PRN.cons | exact RN.self rfl | exact RN.top | exact RN.ptr rfl | exact RN.sl rfl | exact RN.slf rfl | apply RN.agg | apply RN.fn | exact RNs.nil | apply RNs.cons)) (.cons rfl rfl (by first | (apply PRN.flat; rfl) | (apply PRN.flat; simp; done) | (repeat' first | exact PRN.nil | apply PRN.cons | exact RN.self rfl | exact RN.top | exact RN.ptr rfl | exact RN.sl rfl | exact RN.slf rfl | apply RN.agg | apply RN.fn | exact RNs.nil | apply RNs.cons)) .nil)))) (by rw [hb1_5, Bool.true_and]; exact (by repeat' first | exact RN.self rfl | exact RN.top | exact RN.ptr rfl | exact RN.sl rfl | exact RN.slf rfl | apply RN.agg | apply RN.tuple | apply RN.fn | exact RNs.nil | apply RNs.cons | (apply RNs.flat; simp; done)))
  · try simp only [decide_eq_true_eq, decide_eq_false_iff_not, bne_iff_ne, beq_iff_eq, bne_eq_false_iff_eq, beq_eq_false_iff_ne, ne_eq, Bool.not_eq_true', Bool.not_eq_false'] at hb1_5
    refine RunF.gs (b := false) rfl rfl ?_
    refine RunF.gs (b := false) rfl rfl ?_
    refine RunF.gs (b := false) rfl rfl ?_
    refine RunF.gs (b := false) rfl rfl ?_
    refine RunF.gs (b := false) rfl rfl ?_
    refine RunF.q (o_pick_f rfl rfl) rfl ?_
    refine RunF.q (o_assign rfl) rfl ?_
    refine AW.ret ?_
    exact FinQ.ret [] [] (ress_tmp rfl ress_nil) rfl .nil (.cons rfl rfl (by first | (apply PRN.flat; rfl) | (apply PRN.flat; simp; done) | (repeat' first | exact PRN.nil | apply PRN.cons | exact RN.self rfl | exact RN.top | exact RN.ptr rfl | exact RN.sl rfl | exact RN.slf rfl | apply RN.agg | apply RN.fn | exact RNs.nil | apply RNs.cons)) (.cons rfl rfl (by first | (apply PRN.flat; rfl) | (apply PRN.flat; simp; done) | (repeat' first | exact PRN.nil | apply PRN.cons | exact RN.self rfl | exact RN.top | exact RN.ptr rfl | exact RN.sl rfl | exact RN.slf rfl | apply RN.agg | apply RN.fn | exact RNs.nil | apply RNs.cons)) (.cons rfl rfl (by first | (apply PRN.flat; rfl) | (apply PRN.flat; simp; done) | (repeat' first | exact PRN.nil | apply PRN.cons | exact RN.self rfl | exact RN.top | exact RN.ptr rfl | exact RN.sl rfl | exact RN.slf rfl | apply RN.agg | apply RN.fn | exact RNs.nil | apply RNs.cons)) (.cons rfl rfl (by first | (apply PRN.flat; rfl) | (apply PRN.flat; simp; done) | (repeat' first | exact PRN.nil | apply PRN.cons | exact RN.self rfl | exact RN.top | exact RN.ptr rfl | exact RN.sl rfl | exact RN.slf rfl | apply RN.agg | apply RN.fn | exact RNs.nil | apply RNs.cons)) .nil)))) (by rw [hb1_5, Bool.false_and]; exact (by repeat' first | exact RN.self rfl | exact RN.top | exact RN.ptr rfl | exact RN.sl rfl | exact RN.slf rfl | apply RN.agg | apply RN.tuple | apply RN.fn | exact RNs.nil | apply RNs.cons | (apply RNs.flat; simp; done)))

set_option maxHeartbeats 1000000 in
theorem kright_ok (XR XC PR PC : Int) (x p : List Int) (f0 f1 : Bool) : SoundC Try.prog 41 [.agg [.int .i64 XR, .int .i64 XC, .sl (.r 0) 0 x.length 1 f0, .int .i64 PR, .int .i64 PC, .sl (.r 1) 0 p.length 1 f1]] ⟨[ints x, ints p], []⟩ { val := .bool (rightT XR XC x PR PC p) } := by
  refine SoundC.of (N := 63) Try.func41 rfl rfl rfl rfl ?_
  refine AW.seq ?_
  refine AW.region (by kernel_rfl) ?_
  refine RunF.w (o_box (nm := 0) rfl rfl rfl) (by simp only [H.app, appO, patchAll, patch, List.map_cons, List.map_nil, List.append_nil, List.nil_append, List.cons_append, List.set_cons_zero, List.set_cons_succ, Option.map_some, Option.map_none, List.contains_cons, List.contains_nil, Nat.reduceAdd, Nat.reduceEqDiff, Nat.reduceBEq, Bool.or_false, Bool.false_eq_true, reduceIte, Nat.zero_add]; rfl) ?_
  refine RunF.q (o_assign rfl) rfl ?_
  refine AW.seq ?_
  refine AW.region (by kernel_rfl) ?_
  refine RunF.q (o_fieldAddr rfl tk41 rfl ts24 rfl) rfl ?_
  refine RunF.q (o_fieldAddr rfl tk24 rfl ts3 rfl) rfl ?_
  refine RunF.q (o_load rfl tk3 ts3 rfl rfl rfl) rfl ?_
  refine RunF.q (o_assign rfl) rfl ?_
  refine AW.seq ?_
  refine AW.seq ?_
  refine AW.draws (by kernel_rfl) (by kernel_rfl) ?_
  refine RunV.q (o_fieldAddr rfl tk41 rfl ts24 rfl) rfl ?_
  refine RunV.q (o_load_agg rfl tk24 ts24 rfl rfl rfl (by simp only [List.take_succ_cons, List.drop_succ_cons, List.drop_zero, List.take_zero, List.take_nil, List.drop_nil, Nat.zero_add, Nat.reduceAdd]; rfl)) rfl ?_
  refine RunV.q (o_call (no := 1) (nr := 2) rfl rfl rfl (by (repeat' first | exact cl_nil | exact cL_flat rfl | exact cL_flat (ints_flat _) | apply cL_vs | apply cl_cons | exact cv_flat rfl | apply cv_agg | apply cv_ptr_o | apply cv_sl_o rfl | apply cv_func | exact cO_old rfl | (apply cO_new; (focus rfl); (focus rfl)) | (apply cv_sl_r; (focus rfl); (focus rfl); (focus (simp; done)); (focus (first | exact ints_all _ | rfl))) | (apply cv_ptr_r rfl ?_ rfl rfl) | (simp only [List.nil_append, List.cons_append, List.length_cons, List.length_nil, Nat.zero_add, Nat.reduceAdd, List.set_cons_zero, List.set_cons_succ]; rfl) | rfl)) (by rfl) (by exact mright_ok XR XC x f0) (by rfl) rfl rfl (by first | exact reV_bare _ _ rfl | (simp only [reV, reVs, List.all_cons, List.all_nil, AV.flat, Bool.and_true, Bool.true_and, Bool.false_and, Bool.and_false, Bool.false_eq_true, reduceIte, CS.de, List.getElem?_cons_zero, List.getElem?_cons_succ, List.getElem?_nil, List.length_cons, List.length_nil, Nat.reduceSub, Nat.reduceAdd, Nat.zero_add, Nat.add_zero, Nat.sub_self]; rfl)) rfl) (by rfl) ?_
  refine RunV.q (o_not rfl) rfl ?_
  refine RunV.br (o_move rfl) rfl (fun hb2_4 => ?_) (fun hb2_4 => ?_)
  · try simp only [decide_eq_true_eq, decide_eq_false_iff_not, bne_iff_ne, beq_iff_eq, bne_eq_false_iff_eq, beq_eq_false_iff_ne, ne_eq, Bool.not_eq_true', Bool.not_eq_false'] at hb2_4
    refine RunV.gs (b := true) rfl rfl ?_
    refine RunV.gs (b := true) rfl rfl ?_
    refine RunV.gs (b := true) rfl rfl ?_
    refine RunV.gs (b := true) rfl rfl ?_
    refine RunV.q (o_pick_t rfl rfl) rfl ?_
    refine RunV.q (o_move rfl) rfl ?_
    refine RunV.gs (b := true) rfl rfl ?_
    refine RunV.gs (b := true) rfl rfl ?_
    refine RunV.gs (b := true) rfl rfl ?_
    refine RunV.gs (b := true) rfl rfl ?_
    refine RunV.q (o_pick_t rfl rfl) rfl ?_
    refine RunV.q (o_move rfl) rfl ?_
    refine RunV.gs (b := true) rfl rfl ?_
    refine RunV.gs (b := true) rfl rfl ?_
    refine RunV.gs (b := true) rfl rfl ?_
    refine RunV.gs (b := true) rfl rfl ?_
    refine RunV.gs (b := true) rfl rfl ?_
    refine RunV.q (o_pick_t rfl rfl) rfl ?_
    refine RunV.q (o_move rfl) rfl ?_
    refine RunV.gs (b := true) rfl rfl ?_
    refine RunV.gs (b := true) rfl rfl ?_
    refine RunV.gs (b := true) rfl rfl ?_
    refine RunV.gs (b := true) rfl rfl ?_
    refine RunV.gs (b := true) rfl rfl ?_
    refine RunV.q (o_pick_t rfl rfl) rfl ?_
    refine RunV.q (o_move rfl) rfl ?_
    refine RunV.gs (b := true) rfl rfl ?_
    refine RunV.gs (b := true) rfl rfl ?_
    refine RunV.gs (b := true) rfl rfl ?_
    refine RunV.gs (b := true) rfl rfl ?_
    refine RunV.gs (b := true) rfl rfl ?_
    refine RunV.gs (b := true) rfl rfl ?_
    refine RunV.gs (b := true) rfl rfl ?_
    refine RunV.q (o_pick_t rfl rfl) rfl ?_
    refine And.intro (by kernel_rfl) ?_
    refine AW.cond rfl (fun hc0 => ?_) (fun hc0 => absurd hc0 (by simp))
    refine AW.seq ?_
    refine AW.region (by kernel_rfl) ?_
    refine RunF.q (o_assign rfl) rfl ?_
    refine AW.ret ?_
    exact FinQ.ret [] [] (ress_tmp rfl ress_nil) rfl .nil (.cons rfl rfl (by first | (apply PRN.flat; rfl) | (apply PRN.flat; simp; done) | (repeat' first | exact PRN.nil | apply PRN.cons | exact RN.self rfl | exact RN.top | exact RN.ptr rfl | exact RN.sl rfl | exact RN.slf rfl | apply RN.agg | apply RN.fn | exact RNs.nil | apply RNs.cons)) (.cons rfl rfl (by first | (apply PRN.flat; rfl) | (apply PRN.flat; simp; done) | (repeat' first | exact PRN.nil | apply PRN.cons | exact RN.self rfl | exact RN.top | exact RN.ptr rfl | exact RN.sl rfl | exact RN.slf rfl | apply RN.agg | apply RN.fn | exact RNs.nil | apply RNs.cons)) .nil)) (by first | (rw [show rightT XR XC x PR PC p = false from (rightT_no (by unfold RightT; rintro ⟨h1, h2, h3, h4, h5, h6, h7⟩; first | omega | simp_all))]; exact (by repeat' first | exact RN.self rfl | exact RN.top | exact RN.ptr rfl | exact RN.sl rfl | exact RN.slf rfl | apply RN.agg | apply RN.tuple | apply RN.fn | exact RNs.nil | apply RNs.cons | (apply RNs.flat; simp; done))) | (rw [show rightT n c x n n p = false from rightT_no (by unfold RightT; rintro ⟨h1, h2, h3, h4, h5, h6, h7⟩; exact sameM_false hc0 ((turned_iff hpl).2 (by simpa using h6)))]; exact (by repeat' first | exact RN.self rfl | exact RN.top | exact RN.ptr rfl | exact RN.sl rfl | exact RN.slf rfl | apply RN.agg | apply RN.tuple | apply RN.fn | exact RNs.nil | apply RNs.cons | (apply RNs.flat; simp; done))))
  · try simp only [decide_eq_true_eq, decide_eq_false_iff_not, bne_iff_ne, beq_iff_eq, bne_eq_false_iff_eq, beq_eq_false_iff_ne, ne_eq, Bool.not_eq_true', Bool.not_eq_false'] at hb2_4
    refine RunV.gq rfl (o_fieldAddr rfl tk41 rfl ts24 rfl) rfl ?_
    refine RunV.gq rfl (o_load_agg rfl tk24 ts24 rfl rfl rfl (by simp only [List.take_succ_cons, List.drop_succ_cons, List.drop_zero, List.take_zero, List.take_nil, List.drop_nil, Nat.zero_add, Nat.reduceAdd]; rfl)) rfl ?_
    refine RunV.gq rfl (o_call (no := 1) (nr := 2) rfl rfl rfl (by (repeat' first | exact cl_nil | exact cL_flat rfl | exact cL_flat (ints_flat _) | apply cL_vs | apply cl_cons | exact cv_flat rfl | apply cv_agg | apply cv_ptr_o | apply cv_sl_o rfl | apply cv_func | exact cO_old rfl | (apply cO_new; (focus rfl); (focus rfl)) | (apply cv_sl_r; (focus rfl); (focus rfl); (focus (simp; done)); (focus (first | exact ints_all _ | rfl))) | (apply cv_ptr_r rfl ?_ rfl rfl) | (simp only [List.nil_append, List.cons_append, List.length_cons, List.length_nil, Nat.zero_add, Nat.reduceAdd, List.set_cons_zero, List.set_cons_succ]; rfl) | rfl)) (by rfl) (by exact mright_ok PR PC p f1) (by rfl) rfl rfl (by first | exact reV_bare _ _ rfl | (simp only [reV, reVs, List.all_cons, List.all_nil, AV.flat, Bool.and_true, Bool.true_and, Bool.false_and, Bool.and_false, Bool.false_eq_true, reduceIte, CS.de, List.getElem?_cons_zero, List.getElem?_cons_succ, List.getElem?_nil, List.length_cons, List.length_nil, Nat.reduceSub, Nat.reduceAdd, Nat.zero_add, Nat.add_zero, Nat.sub_self]; rfl)) rfl) (by rfl) ?_
    refine RunV.gq rfl (o_not rfl) rfl ?_
    refine RunV.q (o_pick_f rfl rfl) rfl ?_
    refine RunV.br (o_move rfl) rfl (fun hb2_10 => ?_) (fun hb2_10 => ?_)
    · try simp only [decide_eq_true_eq, decide_eq_false_iff_not, bne_iff_ne, beq_iff_eq, bne_eq_false_iff_eq, beq_eq_false_iff_ne, ne_eq, Bool.not_eq_true', Bool.not_eq_false'] at hb2_10
      refine RunV.gs (b := true) rfl rfl ?_
      refine RunV.gs (b := true) rfl rfl ?_
      refine RunV.gs (b := true) rfl rfl ?_
      refine RunV.gs (b := true) rfl rfl ?_
      refine RunV.q (o_pick_t rfl rfl) rfl ?_
      refine RunV.q (o_move rfl) rfl ?_
      refine RunV.gs (b := true) rfl rfl ?_
      refine RunV.gs (b := true) rfl rfl ?_
      refine RunV.gs (b := true) rfl rfl ?_
      refine RunV.gs (b := true) rfl rfl ?_
      refine RunV.gs (b := true) rfl rfl ?_
      refine RunV.q (o_pick_t rfl rfl) rfl ?_
      refine RunV.q (o_move rfl) rfl ?_
      refine RunV.gs (b := true) rfl rfl ?_
      refine RunV.gs (b := true) rfl rfl ?_
      refine RunV.gs (b := true) rfl rfl ?_
      refine RunV.gs (b := true) rfl rfl ?_
      refine RunV.gs (b := true) rfl rfl ?_
      refine RunV.q (o_pick_t rfl rfl) rfl ?_
      refine RunV.q (o_move rfl) rfl ?_
      refine RunV.gs (b := true) rfl rfl ?_
      refine RunV.gs (b := true) rfl rfl ?_
      refine RunV.gs (b := true) rfl rfl ?_
      refine RunV.gs (b := true) rfl rfl ?_
      refine RunV.gs (b := true) rfl rfl ?_
      refine RunV.gs (b := true) rfl rfl ?_
      refine RunV.gs (b := true) rfl rfl ?_
      refine RunV.q (o_pick_t rfl rfl) rfl ?_
      refine And.intro (by kernel_rfl) ?_
      refine AW.cond rfl (fun hc0 => ?_) (fun hc0 => absurd hc0 (by simp))
      refine AW.seq ?_
      refine AW.region (by kernel_rfl) ?_
      refine RunF.q (o_assign rfl) rfl ?_
      refine AW.ret ?_
      exact FinQ.ret [] [] (ress_tmp rfl ress_nil) rfl .nil (.cons rfl rfl (by first | (apply PRN.flat; rfl) | (apply PRN.flat; simp; done) | (repeat' first | exact PRN.nil | apply PRN.cons | exact RN.self rfl | exact RN.top | exact RN.ptr rfl | exact RN.sl rfl | exact RN.slf rfl | apply RN.agg | apply RN.fn | exact RNs.nil | apply RNs.cons)) (.cons rfl rfl (by first | (apply PRN.flat; rfl) | (apply PRN.flat; simp; done) | (repeat' first | exact PRN.nil | apply PRN.cons | exact RN.self rfl | exact RN.top | exact RN.ptr rfl | exact RN.sl rfl | exact RN.slf rfl | apply RN.agg | apply RN.fn | exact RNs.nil | apply RNs.cons)) .nil)) (by first | (rw [show rightT XR XC x PR PC p = false from (rightT_no (by unfold RightT; rintro ⟨h1, h2, h3, h4, h5, h6, h7⟩; first | omega | simp_all))]; exact (by repeat' first | exact RN.self rfl | exact RN.top | exact RN.ptr rfl | exact RN.sl rfl | exact RN.slf rfl | apply RN.agg | apply RN.tuple | apply RN.fn | exact RNs.nil | apply RNs.cons | (apply RNs.flat; simp; done))) | (rw [show rightT n c x n n p = false from rightT_no (by unfold RightT; rintro ⟨h1, h2, h3, h4, h5, h6, h7⟩; exact sameM_false hc0 ((turned_iff hpl).2 (by simpa using h6)))]; exact (by repeat' first | exact RN.self rfl | exact RN.top | exact RN.ptr rfl | exact RN.sl rfl | exact RN.slf rfl | apply RN.agg | apply RN.tuple | apply RN.fn | exact RNs.nil | apply RNs.cons | (apply RNs.flat; simp; done))))
    · try simp only [decide_eq_true_eq, decide_eq_false_iff_not, bne_iff_ne, beq_iff_eq, bne_eq_false_iff_eq, beq_eq_false_iff_ne, ne_eq, Bool.not_eq_true', Bool.not_eq_false'] at hb2_10
      refine RunV.gq rfl (o_fieldAddr rfl tk41 rfl ts24 rfl) rfl ?_
      refine RunV.gq rfl (o_fieldAddr rfl tk24 rfl ts3 rfl) rfl ?_
      refine RunV.gq rfl (o_load rfl tk3 ts3 rfl rfl rfl) rfl ?_
      refine RunV.gq rfl (o_neq rfl rfl) rfl ?_
      refine RunV.q (o_pick_f rfl rfl) rfl ?_
      refine RunV.br (o_move rfl) rfl (fun hb2_16 => ?_) (fun hb2_16 => ?_)
      · try simp only [decide_eq_true_eq, decide_eq_false_iff_not, bne_iff_ne, beq_iff_eq, bne_eq_false_iff_eq, beq_eq_false_iff_ne, ne_eq, Bool.not_eq_true', Bool.not_eq_false'] at hb2_16
        refine RunV.gs (b := true) rfl rfl ?_
        refine RunV.gs (b := true) rfl rfl ?_
        refine RunV.gs (b := true) rfl rfl ?_
        refine RunV.gs (b := true) rfl rfl ?_
        refine RunV.gs (b := true) rfl rfl ?_
        refine RunV.q (o_pick_t rfl rfl) rfl ?_
        refine RunV.q (o_move rfl) rfl ?_
        refine RunV.gs (b := true) rfl rfl ?_
        refine RunV.gs (b := true) rfl rfl ?_
        refine RunV.gs (b := true) rfl rfl ?_
        refine RunV.gs (b := true) rfl rfl ?_
        refine RunV.gs (b := true) rfl rfl ?_
        refine RunV.q (o_pick_t rfl rfl) rfl ?_
        refine RunV.q (o_move rfl) rfl ?_
        refine RunV.gs (b := true) rfl rfl ?_
        refine RunV.gs (b := true) rfl rfl ?_
        refine RunV.gs (b := true) rfl rfl ?_
        refine RunV.gs (b := true) rfl rfl ?_
        refine RunV.gs (b := true) rfl rfl ?_
        refine RunV.gs (b := true) rfl rfl ?_
        refine RunV.gs (b := true) rfl rfl ?_
        refine RunV.q (o_pick_t rfl rfl) rfl ?_
        refine And.intro (by kernel_rfl) ?_
        refine AW.cond rfl (fun hc0 => ?_) (fun hc0 => absurd hc0 (by simp))
        refine AW.seq ?_
        refine AW.region (by kernel_rfl) ?_
        refine RunF.q (o_assign rfl) rfl ?_
        refine AW.ret ?_
        exact FinQ.ret [] [] (ress_tmp rfl ress_nil) rfl .nil (.cons rfl rfl (by first | (apply PRN.flat; rfl) | (apply PRN.flat; simp; done) | (repeat' first | exact PRN.nil | apply PRN.cons | exact RN.self rfl | exact RN.top | exact RN.ptr rfl | exact RN.sl rfl | exact RN.slf rfl | apply RN.agg | apply RN.fn | exact RNs.nil | apply RNs.cons)) (.cons rfl rfl (by first | (apply PRN.flat; rfl) | (apply PRN.flat; simp; done) | (repeat' first | exact PRN.nil | apply PRN.cons | exact RN.self rfl | exact RN.top | exact RN.ptr rfl | exact RN.sl rfl | exact RN.slf rfl | apply RN.agg | apply RN.fn | exact RNs.nil | apply RNs.cons)) .nil)) (by first | (rw [show rightT XR XC x PR PC p = false from (rightT_no (by unfold RightT; rintro ⟨h1, h2, h3, h4, h5, h6, h7⟩; first | omega | simp_all))]; exact (by repeat' first | exact RN.self rfl | exact RN.top | exact RN.ptr rfl | exact RN.sl rfl | exact RN.slf rfl | apply RN.agg | apply RN.tuple | apply RN.fn | exact RNs.nil | apply RNs.cons | (apply RNs.flat; simp; done))) | (rw [show rightT n c x n n p = false from rightT_no (by unfold RightT; rintro ⟨h1, h2, h3, h4, h5, h6, h7⟩; exact sameM_false hc0 ((turned_iff hpl).2 (by simpa using h6)))]; exact (by repeat' first | exact RN.self rfl | exact RN.top | exact RN.ptr rfl | exact RN.sl rfl | exact RN.slf rfl | apply RN.agg | apply RN.tuple | apply RN.fn | exact RNs.nil | apply RNs.cons | (apply RNs.flat; simp; done))))
      · try simp only [decide_eq_true_eq, decide_eq_false_iff_not, bne_iff_ne, beq_iff_eq, bne_eq_false_iff_eq, beq_eq_false_iff_ne, ne_eq, Bool.not_eq_true', Bool.not_eq_false'] at hb2_16
        refine RunV.gq rfl (o_fieldAddr rfl tk41 rfl ts24 rfl) rfl ?_
        refine RunV.gq rfl (o_fieldAddr rfl tk24 rfl ts3 rfl) rfl ?_
        refine RunV.gq rfl (o_load rfl tk3 ts3 rfl rfl rfl) rfl ?_
        refine RunV.gq rfl (o_move rfl) rfl ?_
        refine RunV.gq rfl (o_neq rfl rfl) rfl ?_
        refine RunV.q (o_pick_f rfl rfl) rfl ?_
        refine RunV.br (o_move rfl) rfl (fun hb2_23 => ?_) (fun hb2_23 => ?_)
        · try simp only [decide_eq_true_eq, decide_eq_false_iff_not, bne_iff_ne, beq_iff_eq, bne_eq_false_iff_eq, beq_eq_false_iff_ne, ne_eq, Bool.not_eq_true', Bool.not_eq_false'] at hb2_23
          refine RunV.gs (b := true) rfl rfl ?_
          refine RunV.gs (b := true) rfl rfl ?_
          refine RunV.gs (b := true) rfl rfl ?_
          refine RunV.gs (b := true) rfl rfl ?_
          refine RunV.gs (b := true) rfl rfl ?_
          refine RunV.q (o_pick_t rfl rfl) rfl ?_
          refine RunV.q (o_move rfl) rfl ?_
          refine RunV.gs (b := true) rfl rfl ?_
          refine RunV.gs (b := true) rfl rfl ?_
          refine RunV.gs (b := true) rfl rfl ?_
          refine RunV.gs (b := true) rfl rfl ?_
          refine RunV.gs (b := true) rfl rfl ?_
          refine RunV.gs (b := true) rfl rfl ?_
          refine RunV.gs (b := true) rfl rfl ?_
          refine RunV.q (o_pick_t rfl rfl) rfl ?_
          refine And.intro (by kernel_rfl) ?_
          refine AW.cond rfl (fun hc0 => ?_) (fun hc0 => absurd hc0 (by simp))
          refine AW.seq ?_
          refine AW.region (by kernel_rfl) ?_
          refine RunF.q (o_assign rfl) rfl ?_
          refine AW.ret ?_
          exact FinQ.ret [] [] (ress_tmp rfl ress_nil) rfl .nil (.cons rfl rfl (by first | (apply PRN.flat; rfl) | (apply PRN.flat; simp; done) | (repeat' first | exact PRN.nil | apply PRN.cons | exact RN.self rfl | exact RN.top | exact RN.ptr rfl | exact RN.sl rfl | exact RN.slf rfl | apply RN.agg | apply RN.fn | exact RNs.nil | apply RNs.cons)) (.cons rfl rfl (by first | (apply PRN.flat; rfl) | (apply PRN.flat; simp; done) | (repeat' first | exact PRN.nil | apply PRN.cons | exact RN.self rfl | exact RN.top | exact RN.ptr rfl | exact RN.sl rfl | exact RN.slf rfl | apply RN.agg | apply RN.fn | exact RNs.nil | apply RNs.cons)) .nil)) (by first | (rw [show rightT XR XC x PR PC p = false from (rightT_no (by unfold RightT; rintro ⟨h1, h2, h3, h4, h5, h6, h7⟩; first | omega | simp_all))]; exact (by repeat' first | exact RN.self rfl | exact RN.top | exact RN.ptr rfl | exact RN.sl rfl | exact RN.slf rfl | apply RN.agg | apply RN.tuple | apply RN.fn | exact RNs.nil | apply RNs.cons | (apply RNs.flat; simp; done))) | (rw [show rightT n c x n n p = false from rightT_no (by unfold RightT; rintro ⟨h1, h2, h3, h4, h5, h6, h7⟩; exact sameM_false hc0 ((turned_iff hpl).2 (by simpa using h6)))]; exact (by repeat' first | exact RN.self rfl | exact RN.top | exact RN.ptr rfl | exact RN.sl rfl | exact RN.slf rfl | apply RN.agg | apply RN.tuple | apply RN.fn | exact RNs.nil | apply RNs.cons | (apply RNs.flat; simp; done))))
        · try simp only [decide_eq_true_eq, decide_eq_false_iff_not, bne_iff_ne, beq_iff_eq, bne_eq_false_iff_eq, beq_eq_false_iff_ne, ne_eq, Bool.not_eq_true', Bool.not_eq_false'] at hb2_23
          refine RunV.gq rfl (o_fieldAddr rfl tk41 rfl ts24 rfl) rfl ?_
          refine RunV.gq rfl (o_fieldAddr rfl tk24 rfl ts3 rfl) rfl ?_
          refine RunV.gq rfl (o_load rfl tk3 ts3 rfl rfl rfl) rfl ?_
          refine RunV.gq rfl (o_move rfl) rfl ?_
          refine RunV.gq rfl (o_neq rfl rfl) rfl ?_
          refine RunV.q (o_pick_f rfl rfl) rfl ?_
          refine RunV.br (o_move rfl) rfl (fun hb2_30 => ?_) (fun hb2_30 => ?_)
          · try simp only [decide_eq_true_eq, decide_eq_false_iff_not, bne_iff_ne, beq_iff_eq, bne_eq_false_iff_eq, beq_eq_false_iff_ne, ne_eq, Bool.not_eq_true', Bool.not_eq_false'] at hb2_30
            refine RunV.gs (b := true) rfl rfl ?_
            refine RunV.gs (b := true) rfl rfl ?_
            refine RunV.gs (b := true) rfl rfl ?_
            refine RunV.gs (b := true) rfl rfl ?_
            refine RunV.gs (b := true) rfl rfl ?_
            refine RunV.gs (b := true) rfl rfl ?_
            refine RunV.gs (b := true) rfl rfl ?_
            refine RunV.q (o_pick_t rfl rfl) rfl ?_
            refine And.intro (by kernel_rfl) ?_
            refine AW.cond rfl (fun hc0 => ?_) (fun hc0 => absurd hc0 (by simp))
            refine AW.seq ?_
            refine AW.region (by kernel_rfl) ?_
            refine RunF.q (o_assign rfl) rfl ?_
            refine AW.ret ?_
            exact FinQ.ret [] [] (ress_tmp rfl ress_nil) rfl .nil (.cons rfl rfl (by first | (apply PRN.flat; rfl) | (apply PRN.flat; simp; done) | (repeat' first | exact PRN.nil | apply PRN.cons | exact RN.self rfl | exact RN.top | exact RN.ptr rfl | exact RN.sl rfl | exact RN.slf rfl | apply RN.agg | apply RN.fn | exact RNs.nil | apply RNs.cons)) (.cons rfl rfl (by first | (apply PRN.flat; rfl) | (apply PRN.flat; simp; done) | (repeat' first | exact PRN.nil | apply PRN.cons | exact RN.self rfl | exact RN.top | exact RN.ptr rfl | exact RN.sl rfl | exact RN.slf rfl | apply RN.agg | apply RN.fn | exact RNs.nil | apply RNs.cons)) .nil)) (by first | (rw [show rightT XR XC x PR PC p = false from (rightT_no (by unfold RightT; rintro ⟨h1, h2, h3, h4, h5, h6, h7⟩; first | omega | simp_all))]; exact (by repeat' first | exact RN.self rfl | exact RN.top | exact RN.ptr rfl | exact RN.sl rfl | exact RN.slf rfl | apply RN.agg | apply RN.tuple | apply RN.fn | exact RNs.nil | apply RNs.cons | (apply RNs.flat; simp; done))) | (rw [show rightT n c x n n p = false from rightT_no (by unfold RightT; rintro ⟨h1, h2, h3, h4, h5, h6, h7⟩; exact sameM_false hc0 ((turned_iff hpl).2 (by simpa using h6)))]; exact (by repeat' first | exact RN.self rfl | exact RN.top | exact RN.ptr rfl | exact RN.sl rfl | exact RN.slf rfl | apply RN.agg | apply RN.tuple | apply RN.fn | exact RNs.nil | apply RNs.cons | (apply RNs.flat; simp; done))))
          · try simp only [decide_eq_true_eq, decide_eq_false_iff_not, bne_iff_ne, beq_iff_eq, bne_eq_false_iff_eq, beq_eq_false_iff_ne, ne_eq, Bool.not_eq_true', Bool.not_eq_false'] at hb2_30
            obtain ⟨n, c, rfl, rfl, n0, n8, c0, c8, hxl, hxq⟩ := rightM_nat hb2_4
            obtain rfl : PR = (n : Int) := by omega
            obtain rfl : PC = (n : Int) := by omega
            obtain ⟨n2, c2, e1, e2, _, _, _, _, hpl, hpq⟩ := rightM_nat hb2_10
            obtain rfl : n = n2 := by omega
            obtain rfl : n = c2 := by omega
            have hsm := small_mul n8 n8
            refine RunV.gq rfl (o_fieldAddr rfl tk41 rfl ts24 rfl) rfl ?_
            refine RunV.gq rfl (o_load_agg rfl tk24 ts24 rfl rfl rfl (by simp only [List.take_succ_cons, List.drop_succ_cons, List.drop_zero, List.take_zero, List.take_nil, List.drop_nil, Nat.zero_add, Nat.reduceAdd]; rfl)) rfl ?_
            refine RunV.gq rfl (o_fieldAddr rfl tk41 rfl ts24 rfl) rfl ?_
            refine RunV.gq rfl (o_load_agg rfl tk24 ts24 rfl rfl rfl (by simp only [List.take_succ_cons, List.drop_succ_cons, List.drop_zero, List.take_zero, List.take_nil, List.drop_nil, Nat.zero_add, Nat.reduceAdd]; rfl)) rfl ?_
            refine RunV.gw rfl (o_call (no := 1) (nr := 2) rfl rfl rfl (by (repeat' first | exact cl_nil | exact cL_flat rfl | exact cL_flat (ints_flat _) | apply cL_vs | apply cl_cons | exact cv_flat rfl | apply cv_agg | apply cv_ptr_o | apply cv_sl_o rfl | apply cv_func | exact cO_old rfl | (apply cO_new; (focus rfl); (focus rfl)) | (apply cv_sl_r; (focus rfl); (focus rfl); (focus (simp; done)); (focus (first | exact ints_all _ | rfl))) | (apply cv_ptr_r rfl ?_ rfl rfl) | (simp only [List.nil_append, List.cons_append, List.length_cons, List.length_nil, Nat.zero_add, Nat.reduceAdd, List.set_cons_zero, List.set_cons_succ]; rfl) | rfl)) (by rfl) (by exact trans_ok n n n8 n8 p hpl f1 n0 n0) (by rfl) rfl rfl (by first | exact reV_bare _ _ rfl | (simp only [reV, reVs, List.all_cons, List.all_nil, AV.flat, Bool.and_true, Bool.true_and, Bool.false_and, Bool.and_false, Bool.false_eq_true, reduceIte, CS.de, List.getElem?_cons_zero, List.getElem?_cons_succ, List.getElem?_nil, List.length_cons, List.length_nil, Nat.reduceSub, Nat.reduceAdd, Nat.zero_add, Nat.add_zero, Nat.sub_self]; rfl)) (by simp only [CS.eff, rdsR, rdsO, List.map_cons, List.map_nil, reL_ints, num, List.nil_append, List.append_nil, List.cons_append]; rfl)) (by simp only [H.app, appO, patchAll, patch, List.map_cons, List.map_nil, List.append_nil, List.nil_append, List.cons_append, List.set_cons_zero, List.set_cons_succ, Option.map_some, Option.map_none, List.contains_cons, List.contains_nil, Nat.reduceAdd, Nat.reduceEqDiff, Nat.reduceBEq, Bool.or_false, Bool.false_eq_true, reduceIte, Nat.zero_add]; rfl) ?_
            refine RunV.gq rfl (o_call (no := 2) (nr := 2) rfl rfl rfl (by (repeat' first | exact cl_nil | exact cL_flat rfl | exact cL_flat (ints_flat _) | apply cL_vs | apply cl_cons | exact cv_flat rfl | apply cv_agg | apply cv_ptr_o | apply cv_sl_o rfl | apply cv_func | exact cO_old rfl | (apply cO_new; (focus rfl); (focus rfl)) | (apply cv_sl_r; (focus rfl); (focus rfl); (focus (simp; done)); (focus (first | exact ints_all _ | rfl))) | (apply cv_ptr_r rfl ?_ rfl rfl) | (simp only [List.nil_append, List.cons_append, List.length_cons, List.length_nil, Nat.zero_add, Nat.reduceAdd, List.set_cons_zero, List.set_cons_succ]; rfl) | rfl)) (by rfl) (by exact msame_ok n n n n p (trL p n n) f1 false (by omega)) (by rfl) rfl rfl (by first | exact reV_bare _ _ rfl | (simp only [reV, reVs, List.all_cons, List.all_nil, AV.flat, Bool.and_true, Bool.true_and, Bool.false_and, Bool.and_false, Bool.false_eq_true, reduceIte, CS.de, List.getElem?_cons_zero, List.getElem?_cons_succ, List.getElem?_nil, List.length_cons, List.length_nil, Nat.reduceSub, Nat.reduceAdd, Nat.zero_add, Nat.add_zero, Nat.sub_self]; rfl)) rfl) (by rfl) ?_
            refine RunV.gq rfl (o_not rfl) rfl ?_
            refine RunV.q (o_pick_f rfl rfl) rfl ?_
            refine And.intro (by kernel_rfl) ?_
            refine AW.cond rfl (fun hc0 => ?_) (fun hc0 => ?_)
            · try simp only [decide_eq_true_eq, decide_eq_false_iff_not, bne_iff_ne, beq_iff_eq, bne_eq_false_iff_eq, beq_eq_false_iff_ne, ne_eq, Bool.not_eq_true', Bool.not_eq_false'] at hc0
              refine AW.seq ?_
              refine AW.region (by kernel_rfl) ?_
              refine RunF.q (o_assign rfl) rfl ?_
              refine AW.ret ?_
              exact FinQ.ret [] [] (ress_tmp rfl ress_nil) rfl .nil (.cons rfl rfl (by first | (apply PRN.flat; rfl) | (apply PRN.flat; simp; done) | (repeat' first | exact PRN.nil | apply PRN.cons | exact RN.self rfl | exact RN.top | exact RN.ptr rfl | exact RN.sl rfl | exact RN.slf rfl | apply RN.agg | apply RN.fn | exact RNs.nil | apply RNs.cons)) (.cons rfl rfl (by first | (apply PRN.flat; rfl) | (apply PRN.flat; simp; done) | (repeat' first | exact PRN.nil | apply PRN.cons | exact RN.self rfl | exact RN.top | exact RN.ptr rfl | exact RN.sl rfl | exact RN.slf rfl | apply RN.agg | apply RN.fn | exact RNs.nil | apply RNs.cons)) .nil)) (by first | (rw [show rightT XR XC x PR PC p = false from (rightT_no (by unfold RightT; rintro ⟨h1, h2, h3, h4, h5, h6, h7⟩; first | omega | simp_all))]; exact (by repeat' first | exact RN.self rfl | exact RN.top | exact RN.ptr rfl | exact RN.sl rfl | exact RN.slf rfl | apply RN.agg | apply RN.tuple | apply RN.fn | exact RNs.nil | apply RNs.cons | (apply RNs.flat; simp; done))) | (rw [show rightT n c x n n p = false from rightT_no (by unfold RightT; rintro ⟨h1, h2, h3, h4, h5, h6, h7⟩; exact sameM_false hc0 ((turned_iff hpl).2 (by simpa using h6)))]; exact (by repeat' first | exact RN.self rfl | exact RN.top | exact RN.ptr rfl | exact RN.sl rfl | exact RN.slf rfl | apply RN.agg | apply RN.tuple | apply RN.fn | exact RNs.nil | apply RNs.cons | (apply RNs.flat; simp; done))))
            · try simp only [decide_eq_true_eq, decide_eq_false_iff_not, bne_iff_ne, beq_iff_eq, bne_eq_false_iff_eq, beq_eq_false_iff_ne, ne_eq, Bool.not_eq_true', Bool.not_eq_false'] at hc0
              refine AW.skip ?_
              refine AW.seq ?_
              refine AW.seq ?_
              refine AW.region (by kernel_rfl) ?_
              refine RunF.q (o_move rfl) rfl ?_
              refine RunF.q (o_move rfl) rfl ?_
              refine AW.block ?_
              refine AW.loop (α := {i : Nat // i ≤ n ∧ ∀ j, j < i → 0 ≤ p.getD (j * n + j) 0}) (fun y : {i : Nat // i ≤ n ∧ ∀ j, j < i → 0 ≤ p.getD (j * n + j) 0} => ([(1, .ptr (.o 0) 0), (3, .int .i64 n), (47, .int .i64 n), (48, .int .i64 y.1)], ⟨[ints x, ints p], [some [.int .i64 n, .int .i64 c, .sl (.r 0) 0 x.length 1 f0, .int .i64 n, .int .i64 n, .sl (.r 1) 0 p.length 1 f1], some (ints (trL p n n))]⟩)) (fun y => n - y.1) (fun y => ?_) ⟨0, by omega, fun j hj => absurd hj (by omega)⟩ ?_
              · obtain ⟨i, hx, hxs⟩ := y
                try dsimp only at hx hxs
                try dsimp only
                refine AW.seq ?_
                refine AW.region (by kernel_rfl) ?_
                refine RunF.q (o_lss rfl rfl) rfl ?_
                refine AW.seq ?_
                refine AW.cond rfl (fun hc1 => ?_) (fun hc1 => ?_)
                · try simp only [decide_eq_true_eq, decide_eq_false_iff_not, bne_iff_ne, beq_iff_eq, bne_eq_false_iff_eq, beq_eq_false_iff_ne, ne_eq, Bool.not_eq_true', Bool.not_eq_false'] at hc1
                  have hi : i < n := by omega
                  have h1 := idx_lt hi hi
                  have h3 : (i : Int) * (n : Int) = ((i * n : Nat) : Int) := by simp
                  have h4 : i * n ≤ 64 := by omega
                  refine AW.skip ?_
                  refine AW.seq ?_
                  refine AW.block ?_
                  refine AW.seq ?_
                  refine AW.region (by kernel_rfl) ?_
                  refine RunF.q (o_move rfl) rfl ?_
                  refine RunF.q (o_assign rfl) rfl ?_
                  refine AW.seq ?_
                  refine AW.region (by kernel_rfl) ?_
                  refine RunF.q (o_fieldAddr rfl tk41 rfl ts24 rfl) rfl ?_
                  refine RunF.q (o_fieldAddr rfl tk24 rfl ts22 rfl) rfl ?_
                  refine RunF.q (o_load rfl tk22 ts22 rfl rfl rfl) rfl ?_
                  refine RunF.q (o_move rfl) rfl ?_
                  refine RunF.q (o_move rfl) rfl ?_
                  refine RunF.q (o_mul rfl rfl ((i64_in _ (by rw [h3]; omega)).trans h3)) rfl ?_
                  refine RunF.q (o_move rfl) rfl ?_
                  refine RunF.q (o_add rfl rfl (by first | exact i64_in _ (by omega) | rfl)) rfl ?_
                  refine RunF.q (o_indexAddr (m := i * n + i) tk22 ts30 rfl rfl (by omega) (by omega)) rfl ?_
                  refine RunF.q (o_load rfl tk30 ts30 rfl rfl (ints_getD p _ (by omega))) rfl ?_
                  refine RunF.q (o_lss rfl rfl) rfl ?_
                  refine AW.cond rfl (fun hc2 => ?_) (fun hc2 => ?_)
                  · try simp only [decide_eq_true_eq, decide_eq_false_iff_not, bne_iff_ne, beq_iff_eq, bne_eq_false_iff_eq, beq_eq_false_iff_ne, ne_eq, Bool.not_eq_true', Bool.not_eq_false'] at hc2
                    refine AW.seq ?_
                    refine AW.region (by kernel_rfl) ?_
                    refine RunF.q (o_assign rfl) rfl ?_
                    refine AW.ret ?_
                    exact FinQ.ret [] [] (ress_tmp rfl ress_nil) rfl .nil (.cons rfl rfl (by first | (apply PRN.flat; rfl) | (apply PRN.flat; simp; done) | (repeat' first | exact PRN.nil | apply PRN.cons | exact RN.self rfl | exact RN.top | exact RN.ptr rfl | exact RN.sl rfl | exact RN.slf rfl | apply RN.agg | apply RN.fn | exact RNs.nil | apply RNs.cons)) (.cons rfl rfl (by first | (apply PRN.flat; rfl) | (apply PRN.flat; simp; done) | (repeat' first | exact PRN.nil | apply PRN.cons | exact RN.self rfl | exact RN.top | exact RN.ptr rfl | exact RN.sl rfl | exact RN.slf rfl | apply RN.agg | apply RN.fn | exact RNs.nil | apply RNs.cons)) .nil)) (by rw [show rightT n c x n n p = false from rightT_no (by unfold RightT; rintro ⟨h1, h2, h3, h4, h5, h6, h7⟩; have := h7 i (by simpa using hi); simp only [Int.toNat_natCast] at this; omega)]; exact (by repeat' first | exact RN.self rfl | exact RN.top | exact RN.ptr rfl | exact RN.sl rfl | exact RN.slf rfl | apply RN.agg | apply RN.tuple | apply RN.fn | exact RNs.nil | apply RNs.cons | (apply RNs.flat; simp; done)))
                  · try simp only [decide_eq_true_eq, decide_eq_false_iff_not, bne_iff_ne, beq_iff_eq, bne_eq_false_iff_eq, beq_eq_false_iff_ne, ne_eq, Bool.not_eq_true', Bool.not_eq_false'] at hc2
                    refine AW.skip ?_
                    refine AW.region (by kernel_rfl) ?_
                    refine RunF.q (o_add rfl rfl (by first | exact i64_in _ (by omega) | rfl)) rfl ?_
                    refine RunF.q (o_move rfl) rfl ?_
                    exact ⟨⟨i + 1, by omega, upto_succ hxs (by omega)⟩, Wk.same rfl (.cons rfl (.cons rfl (.cons rfl (.cons rfl .nil)))), by dsimp only; omega⟩
                · try simp only [decide_eq_true_eq, decide_eq_false_iff_not, bne_iff_ne, beq_iff_eq, bne_eq_false_iff_eq, beq_eq_false_iff_ne, ne_eq, Bool.not_eq_true', Bool.not_eq_false'] at hc1
                  refine AW.exit ?_
                  refine AW.seq ?_
                  refine AW.region (by kernel_rfl) ?_
                  refine RunF.q (o_assign rfl) rfl ?_
                  refine AW.ret ?_
                  exact FinQ.ret [] [] (ress_tmp rfl ress_nil) rfl .nil (.cons rfl rfl (by first | (apply PRN.flat; rfl) | (apply PRN.flat; simp; done) | (repeat' first | exact PRN.nil | apply PRN.cons | exact RN.self rfl | exact RN.top | exact RN.ptr rfl | exact RN.sl rfl | exact RN.slf rfl | apply RN.agg | apply RN.fn | exact RNs.nil | apply RNs.cons)) (.cons rfl rfl (by first | (apply PRN.flat; rfl) | (apply PRN.flat; simp; done) | (repeat' first | exact PRN.nil | apply PRN.cons | exact RN.self rfl | exact RN.top | exact RN.ptr rfl | exact RN.sl rfl | exact RN.slf rfl | apply RN.agg | apply RN.fn | exact RNs.nil | apply RNs.cons)) .nil)) (by rw [show rightT n c x n n p = true from rightT_yes ⟨hb2_4, hb2_10, by omega, rfl, rfl, by simpa using (turned_iff hpl).1 (sameM_true hc0).2.2, by intro j hj; exact hxs j (by simp only [Int.toNat_natCast] at hj; omega)⟩]; exact (by repeat' first | exact RN.self rfl | exact RN.top | exact RN.ptr rfl | exact RN.sl rfl | exact RN.slf rfl | apply RN.agg | apply RN.tuple | apply RN.fn | exact RNs.nil | apply RNs.cons | (apply RNs.flat; simp; done)))
              · exact Wk.same rfl (.cons rfl (.cons rfl (.cons rfl (.cons rfl .nil))))

set_option maxHeartbeats 1000000 in
theorem kgood_ok (n : Nat) (n0 : 0 < n) (n8 : n ≤ 8) (p : List Int) (hp : p.length = n * n) (f : Bool) (hQ : ∀ x ∈ p, inQ x) : SoundC Try.prog 38 [.agg [.int .i64 n, .int .i64 n, .sl (.r 0) 0 p.length 1 f]] ⟨[ints p], []⟩ { val := .agg [.int .i64 n, .int .i64 n, .sl (.o 0) 0 (goodL p n).length 1 false], newo := [ints (goodL p n)] } := by
  have hE := evenL_length p n
  have hsm := small_mul n8 n8
  refine SoundC.of (N := 40) Try.func38 rfl rfl rfl rfl ?_
  refine AW.seq ?_
  refine AW.region (by kernel_rfl) ?_
  refine RunF.w (o_box (nm := 0) rfl rfl rfl) (by simp only [H.app, appO, patchAll, patch, List.map_cons, List.map_nil, List.append_nil, List.nil_append, List.cons_append, List.set_cons_zero, List.set_cons_succ, Option.map_some, Option.map_none, List.contains_cons, List.contains_nil, Nat.reduceAdd, Nat.reduceEqDiff, Nat.reduceBEq, Bool.or_false, Bool.false_eq_true, reduceIte, Nat.zero_add]; rfl) ?_
  refine RunF.w (o_alloc (nm := 1) tz24 rfl) (by simp only [H.app, appO, patchAll, patch, List.map_cons, List.map_nil, List.append_nil, List.nil_append, List.cons_append, List.set_cons_zero, List.set_cons_succ, Option.map_some, Option.map_none, List.contains_cons, List.contains_nil, Nat.reduceAdd, Nat.reduceEqDiff, Nat.reduceBEq, Bool.or_false, Bool.false_eq_true, reduceIte, Nat.zero_add]; rfl) ?_
  refine AW.seq ?_
  refine AW.region (by kernel_rfl) ?_
  refine RunF.q (o_load_agg rfl tk24 ts24 rfl rfl rfl (by simp only [List.take_succ_cons, List.drop_succ_cons, List.drop_zero, List.take_zero, List.take_nil, List.drop_nil, Nat.zero_add, Nat.reduceAdd]; rfl)) rfl ?_
  refine RunF.w (o_call (no := 2) (nr := 1) rfl rfl rfl (by (repeat' first | exact cl_nil | exact cL_flat rfl | exact cL_flat (ints_flat _) | apply cL_vs | apply cl_cons | exact cv_flat rfl | apply cv_agg | apply cv_ptr_o | apply cv_sl_o rfl | apply cv_func | exact cO_old rfl | (apply cO_new; (focus rfl); (focus rfl)) | (apply cv_sl_r; (focus rfl); (focus rfl); (focus (simp; done)); (focus (first | exact ints_all _ | rfl))) | (apply cv_ptr_r rfl ?_ rfl rfl) | (simp only [List.nil_append, List.cons_append, List.length_cons, List.length_nil, Nat.zero_add, Nat.reduceAdd, List.set_cons_zero, List.set_cons_succ]; rfl) | rfl)) (by rfl) (by exact meven_ok n n8 n0 p hp f hQ) (by rfl) rfl rfl (by first | exact reV_bare _ _ rfl | (simp only [reV, reVs, List.all_cons, List.all_nil, AV.flat, Bool.and_true, Bool.true_and, Bool.false_and, Bool.and_false, Bool.false_eq_true, reduceIte, CS.de, List.getElem?_cons_zero, List.getElem?_cons_succ, List.getElem?_nil, List.length_cons, List.length_nil, Nat.reduceSub, Nat.reduceAdd, Nat.zero_add, Nat.add_zero, Nat.sub_self]; rfl)) (by simp only [CS.eff, rdsR, rdsO, List.map_cons, List.map_nil, reL_ints, num, List.nil_append, List.append_nil, List.cons_append]; rfl)) (by simp only [H.app, appO, patchAll, patch, List.map_cons, List.map_nil, List.append_nil, List.nil_append, List.cons_append, List.set_cons_zero, List.set_cons_succ, Option.map_some, Option.map_none, List.contains_cons, List.contains_nil, Nat.reduceAdd, Nat.reduceEqDiff, Nat.reduceBEq, Bool.or_false, Bool.false_eq_true, reduceIte, Nat.zero_add]; rfl) ?_
  refine RunF.q (o_move rfl) rfl ?_
  refine RunF.q (o_extract rfl rfl) rfl ?_
  refine RunF.q (o_extract rfl rfl) rfl ?_
  refine RunF.q (o_extract rfl rfl) rfl ?_
  refine RunF.w (o_alloc (nm := 3) tz24 rfl) (by simp only [H.app, appO, patchAll, patch, List.map_cons, List.map_nil, List.append_nil, List.nil_append, List.cons_append, List.set_cons_zero, List.set_cons_succ, Option.map_some, Option.map_none, List.contains_cons, List.contains_nil, Nat.reduceAdd, Nat.reduceEqDiff, Nat.reduceBEq, Bool.or_false, Bool.false_eq_true, reduceIte, Nat.zero_add]; rfl) ?_
  refine RunF.wn (o_store rfl rfl rfl ts24 rfl rfl) (by simp only [H.app, appO, patchAll, patch, List.map_cons, List.map_nil, List.append_nil, List.nil_append, List.cons_append, List.set_cons_zero, List.set_cons_succ, Option.map_some, Option.map_none, List.contains_cons, List.contains_nil, Nat.reduceAdd, Nat.reduceEqDiff, Nat.reduceBEq, Bool.or_false, Bool.false_eq_true, reduceIte, Nat.zero_add]; rfl) ?_
  refine RunF.q (o_assign rfl) rfl ?_
  refine RunF.q (o_assign rfl) rfl ?_
  refine AW.seq ?_
  refine AW.seq ?_
  refine AW.region (by kernel_rfl) ?_
  refine RunF.q (o_fieldAddr rfl tk24 rfl ts3 rfl) rfl ?_
  refine RunF.q (o_load rfl tk3 ts3 rfl rfl rfl) rfl ?_
  refine RunF.q (o_move rfl) rfl ?_
  refine AW.block ?_
  refine AW.loop (α := {i : Nat // i ≤ n}) (fun x : {i : Nat // i ≤ n} => ([(2, .ptr (.o 1) 0), (3, .ptr (.o 3) 0), (14, .int .i64 n), (15, .int .i64 x.1)], ⟨[ints p], [some [.int .i64 n, .int .i64 n, .sl (.r 0) 0 p.length 1 f], some [.int .i64 0, .int .i64 0, .nilsl], some (ints (goodN (evenL p n) n x.1)), some [.int .i64 n, .int .i64 n, .sl (.o 2) 0 (evenL p n).length 1 false]]⟩)) (fun x => n - x.1) (fun x => ?_) ⟨0, by omega⟩ ?_
  · obtain ⟨i, hx⟩ := x
    try dsimp only at hx
    try dsimp only
    refine AW.seq ?_
    refine AW.region (by kernel_rfl) ?_
    refine RunF.q (o_lss rfl rfl) rfl ?_
    refine AW.seq ?_
    refine AW.cond rfl (fun hc0 => ?_) (fun hc0 => ?_)
    · try simp only [decide_eq_true_eq, decide_eq_false_iff_not, bne_iff_ne, beq_iff_eq, bne_eq_false_iff_eq, beq_eq_false_iff_ne, ne_eq, Bool.not_eq_true', Bool.not_eq_false'] at hc0
      have hi : i < n := by omega
      have h1 := idx_lt hi hi
      have h3 : (i : Int) * (n : Int) = ((i * n : Nat) : Int) := by simp
      have h4 : i * n ≤ 64 := by omega
      have hG := goodN_length (evenL p n) n i
      refine AW.skip ?_
      refine AW.seq ?_
      refine AW.block ?_
      refine AW.seq ?_
      refine AW.region (by kernel_rfl) ?_
      refine RunF.q (o_move rfl) rfl ?_
      refine RunF.q (o_assign rfl) rfl ?_
      refine AW.draws (by kernel_rfl) (by kernel_rfl) ?_
      refine RunV.q (o_fieldAddr rfl tk24 rfl ts22 rfl) rfl ?_
      refine RunV.q (o_load rfl tk22 ts22 rfl rfl rfl) rfl ?_
      refine RunV.q (o_move rfl) rfl ?_
      refine RunV.q (o_fieldAddr rfl tk24 rfl ts3 rfl) rfl ?_
      refine RunV.q (o_load rfl tk3 ts3 rfl rfl rfl) rfl ?_
      refine RunV.q (o_mul rfl rfl ((i64_in _ (by rw [h3]; omega)).trans h3)) rfl ?_
      refine RunV.q (o_move rfl) rfl ?_
      refine RunV.q (o_add rfl rfl (by first | exact i64_in _ (by omega) | rfl)) rfl ?_
      refine RunV.q (o_fieldAddr rfl tk24 rfl ts22 rfl) rfl ?_
      refine RunV.q (o_load rfl tk22 ts22 rfl rfl rfl) rfl ?_
      refine RunV.q (o_move rfl) rfl ?_
      refine RunV.q (o_fieldAddr rfl tk24 rfl ts3 rfl) rfl ?_
      refine RunV.q (o_load rfl tk3 ts3 rfl rfl rfl) rfl ?_
      refine RunV.q (o_mul rfl rfl ((i64_in _ (by rw [h3]; omega)).trans h3)) rfl ?_
      refine RunV.q (o_move rfl) rfl ?_
      refine RunV.q (o_add rfl rfl (by first | exact i64_in _ (by omega) | rfl)) rfl ?_
      refine RunV.q (o_indexAddr (m := i * n + i) tk22 ts30 rfl rfl (by omega) (by omega)) rfl ?_
      refine RunV.q (o_load rfl tk30 ts30 rfl rfl (ints_getD _ _ (by omega))) rfl ?_
      refine RunV.q (o_max rfl rfl rfl) rfl ?_
      refine RunV.q (o_indexAddr (m := i * n + i) tk22 ts30 rfl rfl (by omega) (by omega)) rfl ?_
      refine RunV.wn (o_store rfl rfl rfl ts30 rfl (store_int (by omega))) (by simp only [H.app, appO, patchAll, patch, List.map_cons, List.map_nil, List.append_nil, List.nil_append, List.cons_append, Option.map_some, Option.map_none, List.contains_cons, List.contains_nil, Nat.reduceAdd, Nat.reduceEqDiff, Nat.reduceBEq, Bool.or_false, Bool.false_eq_true, reduceIte, Nat.zero_add, ints_set]; rfl) ?_
      refine And.intro (by kernel_rfl) ?_
      refine AW.region (by kernel_rfl) ?_
      refine RunF.q (o_add rfl rfl (by first | exact i64_in _ (by omega) | rfl)) rfl ?_
      refine RunF.q (o_move rfl) rfl ?_
      exact ⟨⟨i + 1, by omega⟩, Wk.same rfl (.cons rfl (.cons rfl (.cons rfl (.cons rfl .nil)))), by dsimp only; omega⟩
    · try simp only [decide_eq_true_eq, decide_eq_false_iff_not, bne_iff_ne, beq_iff_eq, bne_eq_false_iff_eq, beq_eq_false_iff_ne, ne_eq, Bool.not_eq_true', Bool.not_eq_false'] at hc0
      obtain rfl : n = i := by omega
      refine AW.exit ?_
      refine AW.seq ?_
      refine AW.region (by kernel_rfl) ?_
      refine RunF.q (o_load_agg rfl tk24 ts24 rfl rfl rfl (by simp only [List.take_succ_cons, List.drop_succ_cons, List.drop_zero, List.take_zero, List.take_nil, List.drop_nil, Nat.zero_add, Nat.reduceAdd]; rfl)) rfl ?_
      refine RunF.wn (o_store rfl rfl rfl ts24 rfl rfl) (by simp only [H.app, appO, patchAll, patch, List.map_cons, List.map_nil, List.append_nil, List.nil_append, List.cons_append, List.set_cons_zero, List.set_cons_succ, Option.map_some, Option.map_none, List.contains_cons, List.contains_nil, Nat.reduceAdd, Nat.reduceEqDiff, Nat.reduceBEq, Bool.or_false, Bool.false_eq_true, reduceIte, Nat.zero_add]; rfl) ?_
      refine AW.ret ?_
      exact FinQ.ret [2] [] (ress_agg rfl tk24 ts24 rfl rfl rfl ress_nil) rfl (.some rfl rfl (PRN.flat (ints_flat _)) .nil) (.cons rfl rfl (by first | (apply PRN.flat; rfl) | (apply PRN.flat; simp; done) | (repeat' first | exact PRN.nil | apply PRN.cons | exact RN.self rfl | exact RN.top | exact RN.ptr rfl | exact RN.sl rfl | exact RN.slf rfl | apply RN.agg | apply RN.fn | exact RNs.nil | apply RNs.cons)) .nil) (by rw [← good_even_length p n]; exact (by repeat' first | exact RN.self rfl | exact RN.top | exact RN.ptr rfl | exact RN.sl rfl | exact RN.slf rfl | apply RN.agg | apply RN.tuple | apply RN.fn | exact RNs.nil | apply RNs.cons | (apply RNs.flat; simp; done)))
  · exact Wk.same rfl (.cons rfl (.cons rfl (.cons rfl (.cons rfl .nil))))

end Go.Proofs.Ytnkijhpikeokfaa
