/- Which matrices are right, and whether two are the same: the program's, and the document's. -/
import Derived.Test.YtnkijhpikeokfaaF3
import Derived.Test.YtnkijhpikeokfaaF7
set_option linter.unusedSimpArgs false
set_option linter.unusedVariables false
namespace Go.Proofs.Ytnkijhpikeokfaa
open Go Go.Sym Go.IntWalk

theorem rightM_any {R C : Int} {L : List Int} (h : 1 ≤ R ∧ R ≤ 8 ∧ 1 ≤ C ∧ C ≤ 8 ∧ (L.length : Int) = R * C) : rightM R C L = !(L.any oddQ) := by
  cases ha : L.any oddQ with
  | false => exact decide_eq_true ⟨h.1, h.2.1, h.2.2.1, h.2.2.2.1, h.2.2.2.2, (any_oddQ L).1 ha⟩
  | true => exact decide_eq_false (fun k => by rw [(any_oddQ L).2 k.2.2.2.2.2] at ha; cases ha)
def sameM (r c : Int) (A : List Int) (r' c' : Int) (B : List Int) : Bool := decide (r = r' ∧ c = c' ∧ A = B)

set_option maxHeartbeats 1000000 in
theorem mright_ok (R C : Int) (L : List Int) (f : Bool) : SoundC Try.prog 33 [.agg [.int .i64 R, .int .i64 C, .sl (.r 0) 0 L.length 1 f]] ⟨[ints L], []⟩ { val := .bool (rightM R C L) } := by
  refine SoundC.of (N := 40) Try.func33 rfl rfl rfl rfl ?_
  refine AW.seq ?_
  refine AW.region (by kernel_rfl) ?_
  refine RunF.w (o_box (nm := 0) rfl rfl rfl) (by simp only [H.app, appO, patchAll, patch, List.map_cons, List.map_nil, List.append_nil, List.nil_append, List.cons_append, List.set_cons_zero, List.set_cons_succ, Option.map_some, Option.map_none, List.contains_cons, List.contains_nil, Nat.reduceAdd, Nat.reduceEqDiff, Nat.reduceBEq, Bool.or_false, Bool.false_eq_true, reduceIte, Nat.zero_add]; rfl) ?_
  refine RunF.q (o_assign rfl) rfl ?_
  refine AW.seq ?_
  refine AW.region (by kernel_rfl) ?_
  refine RunF.q (o_assign rfl) rfl ?_
  refine AW.seq ?_
  refine AW.region (by kernel_rfl) ?_
  refine RunF.q (o_fieldAddr rfl tk24 rfl ts3 rfl) rfl ?_
  refine RunF.q (o_load rfl tk3 ts3 rfl rfl rfl) rfl ?_
  refine RunF.q (o_geq rfl rfl) rfl ?_
  refine RunF.br (o_move rfl) rfl (fun hb2_3 => ?_) (fun hb2_3 => ?_)
  · try simp only [decide_eq_true_eq, decide_eq_false_iff_not, bne_iff_ne, beq_iff_eq, bne_eq_false_iff_eq, beq_eq_false_iff_ne, ne_eq, Bool.not_eq_true', Bool.not_eq_false'] at hb2_3
    refine RunF.gq rfl (o_fieldAddr rfl tk24 rfl ts3 rfl) rfl ?_
    refine RunF.gq rfl (o_load rfl tk3 ts3 rfl rfl rfl) rfl ?_
    refine RunF.gq rfl (o_leq rfl rfl) rfl ?_
    refine RunF.q (o_pick_t rfl rfl) rfl ?_
    refine RunF.br (o_move rfl) rfl (fun hb2_8 => ?_) (fun hb2_8 => ?_)
    · try simp only [decide_eq_true_eq, decide_eq_false_iff_not, bne_iff_ne, beq_iff_eq, bne_eq_false_iff_eq, beq_eq_false_iff_ne, ne_eq, Bool.not_eq_true', Bool.not_eq_false'] at hb2_8
      refine RunF.gq rfl (o_fieldAddr rfl tk24 rfl ts3 rfl) rfl ?_
      refine RunF.gq rfl (o_load rfl tk3 ts3 rfl rfl rfl) rfl ?_
      refine RunF.gq rfl (o_geq rfl rfl) rfl ?_
      refine RunF.q (o_pick_t rfl rfl) rfl ?_
      refine RunF.br (o_move rfl) rfl (fun hb2_13 => ?_) (fun hb2_13 => ?_)
      · try simp only [decide_eq_true_eq, decide_eq_false_iff_not, bne_iff_ne, beq_iff_eq, bne_eq_false_iff_eq, beq_eq_false_iff_ne, ne_eq, Bool.not_eq_true', Bool.not_eq_false'] at hb2_13
        refine RunF.gq rfl (o_fieldAddr rfl tk24 rfl ts3 rfl) rfl ?_
        refine RunF.gq rfl (o_load rfl tk3 ts3 rfl rfl rfl) rfl ?_
        refine RunF.gq rfl (o_leq rfl rfl) rfl ?_
        refine RunF.q (o_pick_t rfl rfl) rfl ?_
        refine RunF.br (o_move rfl) rfl (fun hb2_18 => ?_) (fun hb2_18 => ?_)
        · try simp only [decide_eq_true_eq, decide_eq_false_iff_not, bne_iff_ne, beq_iff_eq, bne_eq_false_iff_eq, beq_eq_false_iff_ne, ne_eq, Bool.not_eq_true', Bool.not_eq_false'] at hb2_18
          have hRC := Int.mul_le_mul (show R ≤ 8 by omega) (show C ≤ 8 by omega) (by omega) (by omega)
          have hRC1 : 1 ≤ R * C := by have := Int.mul_le_mul (show (1 : Int) ≤ R by omega) (show (1 : Int) ≤ C by omega) (by omega) (by omega); omega
          refine RunF.gq rfl (o_fieldAddr rfl tk24 rfl ts22 rfl) rfl ?_
          refine RunF.gq rfl (o_load rfl tk22 ts22 rfl rfl rfl) rfl ?_
          first | refine RunF.gq rfl (o_len tk22 rfl) rfl ?_ | refine RunF.gq rfl (o_len_nil tk22 rfl) rfl ?_
          refine RunF.gq rfl (o_fieldAddr rfl tk24 rfl ts3 rfl) rfl ?_
          refine RunF.gq rfl (o_load rfl tk3 ts3 rfl rfl rfl) rfl ?_
          refine RunF.gq rfl (o_fieldAddr rfl tk24 rfl ts3 rfl) rfl ?_
          refine RunF.gq rfl (o_load rfl tk3 ts3 rfl rfl rfl) rfl ?_
          refine RunF.gq rfl (o_mul rfl rfl (by first | exact i64_in _ (by omega) | rfl)) rfl ?_
          refine RunF.gq rfl (o_eql rfl rfl) rfl ?_
          refine RunF.q (o_pick_t rfl rfl) rfl ?_
          refine RunF.br (o_move rfl) rfl (fun hb2_29 => ?_) (fun hb2_29 => ?_)
          · try simp only [decide_eq_true_eq, decide_eq_false_iff_not, bne_iff_ne, beq_iff_eq, bne_eq_false_iff_eq, beq_eq_false_iff_ne, ne_eq, Bool.not_eq_true', Bool.not_eq_false'] at hb2_29
            refine RunF.gq rfl (o_fieldAddr rfl tk24 rfl ts22 rfl) rfl ?_
            refine RunF.gq rfl (o_load rfl tk22 ts22 rfl rfl rfl) rfl ?_
            refine RunF.gq rfl (o_move rfl) rfl ?_
            refine RunF.gq rfl (o_call (no := 1) (nr := 1) rfl rfl rfl (by (repeat' first | exact cl_nil | exact cL_flat rfl | exact cL_flat (ints_flat _) | apply cL_vs | apply cl_cons | exact cv_flat rfl | apply cv_agg | apply cv_ptr_o | apply cv_sl_o rfl | apply cv_func | exact cO_old rfl | (apply cO_new; (focus rfl); (focus rfl)) | (apply cv_sl_r; (focus rfl); (focus rfl); (focus (simp; done)); (focus (first | exact ints_all _ | rfl))) | (apply cv_ptr_r rfl ?_ rfl rfl) | (simp only [List.nil_append, List.cons_append, List.length_cons, List.length_nil, Nat.zero_add, Nat.reduceAdd, List.set_cons_zero, List.set_cons_succ]; rfl) | rfl)) (by rfl) (by exact containsQ_ok L f (by omega) oddQ _ (fun x _ => rodd_ok x)) (by rfl) rfl rfl (by first | exact reV_bare _ _ rfl | (simp only [reV, reVs, List.all_cons, List.all_nil, AV.flat, Bool.and_true, Bool.true_and, Bool.false_and, Bool.and_false, Bool.false_eq_true, reduceIte, CS.de, List.getElem?_cons_zero, List.getElem?_cons_succ, List.getElem?_nil, List.length_cons, List.length_nil, Nat.reduceSub, Nat.reduceAdd, Nat.zero_add, Nat.add_zero, Nat.sub_self]; rfl)) rfl) (by rfl) ?_
            refine RunF.gq rfl (o_not rfl) rfl ?_
            refine RunF.q (o_pick_t rfl rfl) rfl ?_
            refine RunF.q (o_assign rfl) rfl ?_
            refine AW.ret ?_
            first | exact FinQ.ret [] [] (ress_tmp rfl ress_nil) rfl .nil (.cons rfl rfl (by first | (apply PRN.flat; rfl) | (apply PRN.flat; simp; done) | (repeat' first | exact PRN.nil | apply PRN.cons | exact RN.self rfl | exact RN.top | exact RN.ptr rfl | exact RN.sl rfl | exact RN.slf rfl | apply RN.agg | apply RN.fn | exact RNs.nil | apply RNs.cons)) .nil) (by rw [show rightM R C L = !(L.any oddQ) from rightM_any ⟨by omega, by omega, by omega, by omega, by omega⟩]; exact (by repeat' first | exact RN.self rfl | exact RN.top | exact RN.ptr rfl | exact RN.sl rfl | exact RN.slf rfl | apply RN.agg | apply RN.tuple | apply RN.fn | exact RNs.nil | apply RNs.cons | (apply RNs.flat; simp; done))) | exact FinQ.ret [] [] (ress_tmp rfl ress_nil) rfl .nil (.cons rfl rfl (by first | (apply PRN.flat; rfl) | (apply PRN.flat; simp; done) | (repeat' first | exact PRN.nil | apply PRN.cons | exact RN.self rfl | exact RN.top | exact RN.ptr rfl | exact RN.sl rfl | exact RN.slf rfl | apply RN.agg | apply RN.fn | exact RNs.nil | apply RNs.cons)) .nil) (by rw [show rightM R C L = false from decide_eq_false (by rintro ⟨h1, h2, h3, h4, h5, _⟩; (try simp only [List.length_nil, Int.natCast_zero] at *); omega)]; exact (by repeat' first | exact RN.self rfl | exact RN.top | exact RN.ptr rfl | exact RN.sl rfl | exact RN.slf rfl | apply RN.agg | apply RN.tuple | apply RN.fn | exact RNs.nil | apply RNs.cons | (apply RNs.flat; simp; done)))
          · try simp only [decide_eq_true_eq, decide_eq_false_iff_not, bne_iff_ne, beq_iff_eq, bne_eq_false_iff_eq, beq_eq_false_iff_ne, ne_eq, Bool.not_eq_true', Bool.not_eq_false'] at hb2_29
            refine RunF.gs (b := false) rfl rfl ?_
            refine RunF.gs (b := false) rfl rfl ?_
            refine RunF.gs (b := false) rfl rfl ?_
            refine RunF.gs (b := false) rfl rfl ?_
            refine RunF.gs (b := false) rfl rfl ?_
            refine RunF.q (o_pick_f rfl rfl) rfl ?_
            refine RunF.q (o_assign rfl) rfl ?_
            refine AW.ret ?_
            first | exact FinQ.ret [] [] (ress_tmp rfl ress_nil) rfl .nil (.cons rfl rfl (by first | (apply PRN.flat; rfl) | (apply PRN.flat; simp; done) | (repeat' first | exact PRN.nil | apply PRN.cons | exact RN.self rfl | exact RN.top | exact RN.ptr rfl | exact RN.sl rfl | exact RN.slf rfl | apply RN.agg | apply RN.fn | exact RNs.nil | apply RNs.cons)) .nil) (by rw [show rightM R C L = !(L.any oddQ) from rightM_any ⟨by omega, by omega, by omega, by omega, by omega⟩]; exact (by repeat' first | exact RN.self rfl | exact RN.top | exact RN.ptr rfl | exact RN.sl rfl | exact RN.slf rfl | apply RN.agg | apply RN.tuple | apply RN.fn | exact RNs.nil | apply RNs.cons | (apply RNs.flat; simp; done))) | exact FinQ.ret [] [] (ress_tmp rfl ress_nil) rfl .nil (.cons rfl rfl (by first | (apply PRN.flat; rfl) | (apply PRN.flat; simp; done) | (repeat' first | exact PRN.nil | apply PRN.cons | exact RN.self rfl | exact RN.top | exact RN.ptr rfl | exact RN.sl rfl | exact RN.slf rfl | apply RN.agg | apply RN.fn | exact RNs.nil | apply RNs.cons)) .nil) (by rw [show rightM R C L = false from decide_eq_false (by rintro ⟨h1, h2, h3, h4, h5, _⟩; (try simp only [List.length_nil, Int.natCast_zero] at *); omega)]; exact (by repeat' first | exact RN.self rfl | exact RN.top | exact RN.ptr rfl | exact RN.sl rfl | exact RN.slf rfl | apply RN.agg | apply RN.tuple | apply RN.fn | exact RNs.nil | apply RNs.cons | (apply RNs.flat; simp; done)))
        · try simp only [decide_eq_true_eq, decide_eq_false_iff_not, bne_iff_ne, beq_iff_eq, bne_eq_false_iff_eq, beq_eq_false_iff_ne, ne_eq, Bool.not_eq_true', Bool.not_eq_false'] at hb2_18
          refine RunF.gs (b := false) rfl rfl ?_
          refine RunF.gs (b := false) rfl rfl ?_
          refine RunF.gs (b := false) rfl rfl ?_
          refine RunF.gs (b := false) rfl rfl ?_
          refine RunF.gs (b := false) rfl rfl ?_
          refine RunF.gs (b := false) rfl rfl ?_
          refine RunF.gs (b := false) rfl rfl ?_
          refine RunF.gs (b := false) rfl rfl ?_
          refine RunF.gs (b := false) rfl rfl ?_
          refine RunF.q (o_pick_f rfl rfl) rfl ?_
          refine RunF.q (o_move rfl) rfl ?_
          refine RunF.gs (b := false) rfl rfl ?_
          refine RunF.gs (b := false) rfl rfl ?_
          refine RunF.gs (b := false) rfl rfl ?_
          refine RunF.gs (b := false) rfl rfl ?_
          refine RunF.gs (b := false) rfl rfl ?_
          refine RunF.q (o_pick_f rfl rfl) rfl ?_
          refine RunF.q (o_assign rfl) rfl ?_
          refine AW.ret ?_
          first | exact FinQ.ret [] [] (ress_tmp rfl ress_nil) rfl .nil (.cons rfl rfl (by first | (apply PRN.flat; rfl) | (apply PRN.flat; simp; done) | (repeat' first | exact PRN.nil | apply PRN.cons | exact RN.self rfl | exact RN.top | exact RN.ptr rfl | exact RN.sl rfl | exact RN.slf rfl | apply RN.agg | apply RN.fn | exact RNs.nil | apply RNs.cons)) .nil) (by rw [show rightM R C L = !(L.any oddQ) from rightM_any ⟨by omega, by omega, by omega, by omega, by omega⟩]; exact (by repeat' first | exact RN.self rfl | exact RN.top | exact RN.ptr rfl | exact RN.sl rfl | exact RN.slf rfl | apply RN.agg | apply RN.tuple | apply RN.fn | exact RNs.nil | apply RNs.cons | (apply RNs.flat; simp; done))) | exact FinQ.ret [] [] (ress_tmp rfl ress_nil) rfl .nil (.cons rfl rfl (by first | (apply PRN.flat; rfl) | (apply PRN.flat; simp; done) | (repeat' first | exact PRN.nil | apply PRN.cons | exact RN.self rfl | exact RN.top | exact RN.ptr rfl | exact RN.sl rfl | exact RN.slf rfl | apply RN.agg | apply RN.fn | exact RNs.nil | apply RNs.cons)) .nil) (by rw [show rightM R C L = false from decide_eq_false (by rintro ⟨h1, h2, h3, h4, h5, _⟩; (try simp only [List.length_nil, Int.natCast_zero] at *); omega)]; exact (by repeat' first | exact RN.self rfl | exact RN.top | exact RN.ptr rfl | exact RN.sl rfl | exact RN.slf rfl | apply RN.agg | apply RN.tuple | apply RN.fn | exact RNs.nil | apply RNs.cons | (apply RNs.flat; simp; done)))
      · try simp only [decide_eq_true_eq, decide_eq_false_iff_not, bne_iff_ne, beq_iff_eq, bne_eq_false_iff_eq, beq_eq_false_iff_ne, ne_eq, Bool.not_eq_true', Bool.not_eq_false'] at hb2_13
        refine RunF.gs (b := false) rfl rfl ?_
        refine RunF.gs (b := false) rfl rfl ?_
        refine RunF.gs (b := false) rfl rfl ?_
        refine RunF.q (o_pick_f rfl rfl) rfl ?_
        refine RunF.q (o_move rfl) rfl ?_
        refine RunF.gs (b := false) rfl rfl ?_
        refine RunF.gs (b := false) rfl rfl ?_
        refine RunF.gs (b := false) rfl rfl ?_
        refine RunF.gs (b := false) rfl rfl ?_
        refine RunF.gs (b := false) rfl rfl ?_
        refine RunF.gs (b := false) rfl rfl ?_
        refine RunF.gs (b := false) rfl rfl ?_
        refine RunF.gs (b := false) rfl rfl ?_
        refine RunF.gs (b := false) rfl rfl ?_
        refine RunF.q (o_pick_f rfl rfl) rfl ?_
        refine RunF.q (o_move rfl) rfl ?_
        refine RunF.gs (b := false) rfl rfl ?_
        refine RunF.gs (b := false) rfl rfl ?_
        refine RunF.gs (b := false) rfl rfl ?_
        refine RunF.gs (b := false) rfl rfl ?_
        refine RunF.gs (b := false) rfl rfl ?_
        refine RunF.q (o_pick_f rfl rfl) rfl ?_
        refine RunF.q (o_assign rfl) rfl ?_
        refine AW.ret ?_
        first | exact FinQ.ret [] [] (ress_tmp rfl ress_nil) rfl .nil (.cons rfl rfl (by first | (apply PRN.flat; rfl) | (apply PRN.flat; simp; done) | (repeat' first | exact PRN.nil | apply PRN.cons | exact RN.self rfl | exact RN.top | exact RN.ptr rfl | exact RN.sl rfl | exact RN.slf rfl | apply RN.agg | apply RN.fn | exact RNs.nil | apply RNs.cons)) .nil) (by rw [show rightM R C L = !(L.any oddQ) from rightM_any ⟨by omega, by omega, by omega, by omega, by omega⟩]; exact (by repeat' first | exact RN.self rfl | exact RN.top | exact RN.ptr rfl | exact RN.sl rfl | exact RN.slf rfl | apply RN.agg | apply RN.tuple | apply RN.fn | exact RNs.nil | apply RNs.cons | (apply RNs.flat; simp; done))) | exact FinQ.ret [] [] (ress_tmp rfl ress_nil) rfl .nil (.cons rfl rfl (by first | (apply PRN.flat; rfl) | (apply PRN.flat; simp; done) | (repeat' first | exact PRN.nil | apply PRN.cons | exact RN.self rfl | exact RN.top | exact RN.ptr rfl | exact RN.sl rfl | exact RN.slf rfl | apply RN.agg | apply RN.fn | exact RNs.nil | apply RNs.cons)) .nil) (by rw [show rightM R C L = false from decide_eq_false (by rintro ⟨h1, h2, h3, h4, h5, _⟩; (try simp only [List.length_nil, Int.natCast_zero] at *); omega)]; exact (by repeat' first | exact RN.self rfl | exact RN.top | exact RN.ptr rfl | exact RN.sl rfl | exact RN.slf rfl | apply RN.agg | apply RN.tuple | apply RN.fn | exact RNs.nil | apply RNs.cons | (apply RNs.flat; simp; done)))
    · try simp only [decide_eq_true_eq, decide_eq_false_iff_not, bne_iff_ne, beq_iff_eq, bne_eq_false_iff_eq, beq_eq_false_iff_ne, ne_eq, Bool.not_eq_true', Bool.not_eq_false'] at hb2_8
      refine RunF.gs (b := false) rfl rfl ?_
      refine RunF.gs (b := false) rfl rfl ?_
      refine RunF.gs (b := false) rfl rfl ?_
      refine RunF.q (o_pick_f rfl rfl) rfl ?_
      refine RunF.q (o_move rfl) rfl ?_
      refine RunF.gs (b := false) rfl rfl ?_
      refine RunF.gs (b := false) rfl rfl ?_
      refine RunF.gs (b := false) rfl rfl ?_
      refine RunF.q (o_pick_f rfl rfl) rfl ?_
      refine RunF.q (o_move rfl) rfl ?_
      refine RunF.gs (b := false) rfl rfl ?_
      refine RunF.gs (b := false) rfl rfl ?_
      refine RunF.gs (b := false) rfl rfl ?_
      refine RunF.gs (b := false) rfl rfl ?_
      refine RunF.gs (b := false) rfl rfl ?_
      refine RunF.gs (b := false) rfl rfl ?_
      refine RunF.gs (b := false) rfl rfl ?_
      refine RunF.gs (b := false) rfl rfl ?_
      refine RunF.gs (b := false) rfl rfl ?_
      refine RunF.q (o_pick_f rfl rfl) rfl ?_
      refine RunF.q (o_move rfl) rfl ?_
      refine RunF.gs (b := false) rfl rfl ?_
      refine RunF.gs (b := false) rfl rfl ?_
      refine RunF.gs (b := false) rfl rfl ?_
      refine RunF.gs (b := false) rfl rfl ?_
      refine RunF.gs (b := false) rfl rfl ?_
      refine RunF.q (o_pick_f rfl rfl) rfl ?_
      refine RunF.q (o_assign rfl) rfl ?_
      refine AW.ret ?_
      first | exact FinQ.ret [] [] (ress_tmp rfl ress_nil) rfl .nil (.cons rfl rfl (by first | (apply PRN.flat; rfl) | (apply PRN.flat; simp; done) | (repeat' first | exact PRN.nil | apply PRN.cons | exact RN.self rfl | exact RN.top | exact RN.ptr rfl | exact RN.sl rfl | exact RN.slf rfl | apply RN.agg | apply RN.fn | exact RNs.nil | apply RNs.cons)) .nil) (by rw [show rightM R C L = !(L.any oddQ) from rightM_any ⟨by omega, by omega, by omega, by omega, by omega⟩]; exact (by repeat' first | exact RN.self rfl | exact RN.top | exact RN.ptr rfl | exact RN.sl rfl | exact RN.slf rfl | apply RN.agg | apply RN.tuple | apply RN.fn | exact RNs.nil | apply RNs.cons | (apply RNs.flat; simp; done))) | exact FinQ.ret [] [] (ress_tmp rfl ress_nil) rfl .nil (.cons rfl rfl (by first | (apply PRN.flat; rfl) | (apply PRN.flat; simp; done) | (repeat' first | exact PRN.nil | apply PRN.cons | exact RN.self rfl | exact RN.top | exact RN.ptr rfl | exact RN.sl rfl | exact RN.slf rfl | apply RN.agg | apply RN.fn | exact RNs.nil | apply RNs.cons)) .nil) (by rw [show rightM R C L = false from decide_eq_false (by rintro ⟨h1, h2, h3, h4, h5, _⟩; (try simp only [List.length_nil, Int.natCast_zero] at *); omega)]; exact (by repeat' first | exact RN.self rfl | exact RN.top | exact RN.ptr rfl | exact RN.sl rfl | exact RN.slf rfl | apply RN.agg | apply RN.tuple | apply RN.fn | exact RNs.nil | apply RNs.cons | (apply RNs.flat; simp; done)))
  · try simp only [decide_eq_true_eq, decide_eq_false_iff_not, bne_iff_ne, beq_iff_eq, bne_eq_false_iff_eq, beq_eq_false_iff_ne, ne_eq, Bool.not_eq_true', Bool.not_eq_false'] at hb2_3
    refine RunF.gs (b := false) rfl rfl ?_
    refine RunF.gs (b := false) rfl rfl ?_
    refine RunF.gs (b := false) rfl rfl ?_
    refine RunF.q (o_pick_f rfl rfl) rfl ?_
    refine RunF.q (o_move rfl) rfl ?_
    refine RunF.gs (b := false) rfl rfl ?_
    refine RunF.gs (b := false) rfl rfl ?_
    refine RunF.gs (b := false) rfl rfl ?_
    refine RunF.q (o_pick_f rfl rfl) rfl ?_
    refine RunF.q (o_move rfl) rfl ?_
    refine RunF.gs (b := false) rfl rfl ?_
    refine RunF.gs (b := false) rfl rfl ?_
    refine RunF.gs (b := false) rfl rfl ?_
    refine RunF.q (o_pick_f rfl rfl) rfl ?_
    refine RunF.q (o_move rfl) rfl ?_
    refine RunF.gs (b := false) rfl rfl ?_
    refine RunF.gs (b := false) rfl rfl ?_
    refine RunF.gs (b := false) rfl rfl ?_
    refine RunF.gs (b := false) rfl rfl ?_
    refine RunF.gs (b := false) rfl rfl ?_
    refine RunF.gs (b := false) rfl rfl ?_
    refine RunF.gs (b := false) rfl rfl ?_
    refine RunF.gs (b := false) rfl rfl ?_
    refine RunF.gs (b := false) rfl rfl ?_
    refine RunF.q (o_pick_f rfl rfl) rfl ?_
    refine RunF.q (o_move rfl) rfl ?_
    refine RunF.gs (b := false) rfl rfl ?_
    refine RunF.gs (b := false) rfl rfl ?_
    refine RunF.gs (b := false) rfl rfl ?_
    refine RunF.gs (b := false) rfl rfl ?_
    refine RunF.gs (b := false) rfl rfl ?_
    refine RunF.q (o_pick_f rfl rfl) rfl ?_
    refine RunF.q (o_assign rfl) rfl ?_
    refine AW.ret ?_
    first | exact FinQ.ret [] [] (ress_tmp rfl ress_nil) rfl .nil (.cons rfl rfl (by first | (apply PRN.flat; rfl) | (apply PRN.flat; simp; done) | (repeat' first | exact PRN.nil | apply PRN.cons | exact RN.self rfl | exact RN.top | exact RN.ptr rfl | exact RN.sl rfl | exact RN.slf rfl | apply RN.agg | apply RN.fn | exact RNs.nil | apply RNs.cons)) .nil) (by rw [show rightM R C L = !(L.any oddQ) from rightM_any ⟨by omega, by omega, by omega, by omega, by omega⟩]; exact (by repeat' first | exact RN.self rfl | exact RN.top | exact RN.ptr rfl | exact RN.sl rfl | exact RN.slf rfl | apply RN.agg | apply RN.tuple | apply RN.fn | exact RNs.nil | apply RNs.cons | (apply RNs.flat; simp; done))) | exact FinQ.ret [] [] (ress_tmp rfl ress_nil) rfl .nil (.cons rfl rfl (by first | (apply PRN.flat; rfl) | (apply PRN.flat; simp; done) | (repeat' first | exact PRN.nil | apply PRN.cons | exact RN.self rfl | exact RN.top | exact RN.ptr rfl | exact RN.sl rfl | exact RN.slf rfl | apply RN.agg | apply RN.fn | exact RNs.nil | apply RNs.cons)) .nil) (by rw [show rightM R C L = false from decide_eq_false (by rintro ⟨h1, h2, h3, h4, h5, _⟩; (try simp only [List.length_nil, Int.natCast_zero] at *); omega)]; exact (by repeat' first | exact RN.self rfl | exact RN.top | exact RN.ptr rfl | exact RN.sl rfl | exact RN.slf rfl | apply RN.agg | apply RN.tuple | apply RN.fn | exact RNs.nil | apply RNs.cons | (apply RNs.flat; simp; done)))

set_option maxHeartbeats 1000000 in
theorem mright_nil (R C : Int) : SoundC Try.prog 33 [.agg [.int .i64 R, .int .i64 C, .nilsl]] ⟨[], []⟩ { val := .bool (rightM R C []) } := by
  refine SoundC.of (N := 40) Try.func33 rfl rfl rfl rfl ?_
  refine AW.seq ?_
  refine AW.region (by kernel_rfl) ?_
  refine RunF.w (o_box (nm := 0) rfl rfl rfl) (by simp only [H.app, appO, patchAll, patch, List.map_cons, List.map_nil, List.append_nil, List.nil_append, List.cons_append, List.set_cons_zero, List.set_cons_succ, Option.map_some, Option.map_none, List.contains_cons, List.contains_nil, Nat.reduceAdd, Nat.reduceEqDiff, Nat.reduceBEq, Bool.or_false, Bool.false_eq_true, reduceIte, Nat.zero_add]; rfl) ?_
  refine RunF.q (o_assign rfl) rfl ?_
  refine AW.seq ?_
  refine AW.region (by kernel_rfl) ?_
  refine RunF.q (o_assign rfl) rfl ?_
  refine AW.seq ?_
  refine AW.region (by kernel_rfl) ?_
  refine RunF.q (o_fieldAddr rfl tk24 rfl ts3 rfl) rfl ?_
  refine RunF.q (o_load rfl tk3 ts3 rfl rfl rfl) rfl ?_
  refine RunF.q (o_geq rfl rfl) rfl ?_
  refine RunF.br (o_move rfl) rfl (fun hb2_3 => ?_) (fun hb2_3 => ?_)
  · try simp only [decide_eq_true_eq, decide_eq_false_iff_not, bne_iff_ne, beq_iff_eq, bne_eq_false_iff_eq, beq_eq_false_iff_ne, ne_eq, Bool.not_eq_true', Bool.not_eq_false'] at hb2_3
    refine RunF.gq rfl (o_fieldAddr rfl tk24 rfl ts3 rfl) rfl ?_
    refine RunF.gq rfl (o_load rfl tk3 ts3 rfl rfl rfl) rfl ?_
    refine RunF.gq rfl (o_leq rfl rfl) rfl ?_
    refine RunF.q (o_pick_t rfl rfl) rfl ?_
    refine RunF.br (o_move rfl) rfl (fun hb2_8 => ?_) (fun hb2_8 => ?_)
    · try simp only [decide_eq_true_eq, decide_eq_false_iff_not, bne_iff_ne, beq_iff_eq, bne_eq_false_iff_eq, beq_eq_false_iff_ne, ne_eq, Bool.not_eq_true', Bool.not_eq_false'] at hb2_8
      refine RunF.gq rfl (o_fieldAddr rfl tk24 rfl ts3 rfl) rfl ?_
      refine RunF.gq rfl (o_load rfl tk3 ts3 rfl rfl rfl) rfl ?_
      refine RunF.gq rfl (o_geq rfl rfl) rfl ?_
      refine RunF.q (o_pick_t rfl rfl) rfl ?_
      refine RunF.br (o_move rfl) rfl (fun hb2_13 => ?_) (fun hb2_13 => ?_)
      · try simp only [decide_eq_true_eq, decide_eq_false_iff_not, bne_iff_ne, beq_iff_eq, bne_eq_false_iff_eq, beq_eq_false_iff_ne, ne_eq, Bool.not_eq_true', Bool.not_eq_false'] at hb2_13
        refine RunF.gq rfl (o_fieldAddr rfl tk24 rfl ts3 rfl) rfl ?_
        refine RunF.gq rfl (o_load rfl tk3 ts3 rfl rfl rfl) rfl ?_
        refine RunF.gq rfl (o_leq rfl rfl) rfl ?_
        refine RunF.q (o_pick_t rfl rfl) rfl ?_
        refine RunF.br (o_move rfl) rfl (fun hb2_18 => ?_) (fun hb2_18 => ?_)
        · try simp only [decide_eq_true_eq, decide_eq_false_iff_not, bne_iff_ne, beq_iff_eq, bne_eq_false_iff_eq, beq_eq_false_iff_ne, ne_eq, Bool.not_eq_true', Bool.not_eq_false'] at hb2_18
          have hRC := Int.mul_le_mul (show R ≤ 8 by omega) (show C ≤ 8 by omega) (by omega) (by omega)
          have hRC1 : 1 ≤ R * C := by have := Int.mul_le_mul (show (1 : Int) ≤ R by omega) (show (1 : Int) ≤ C by omega) (by omega) (by omega); omega
          refine RunF.gq rfl (o_fieldAddr rfl tk24 rfl ts22 rfl) rfl ?_
          refine RunF.gq rfl (o_load rfl tk22 ts22 rfl rfl rfl) rfl ?_
          first | refine RunF.gq rfl (o_len tk22 rfl) rfl ?_ | refine RunF.gq rfl (o_len_nil tk22 rfl) rfl ?_
          refine RunF.gq rfl (o_fieldAddr rfl tk24 rfl ts3 rfl) rfl ?_
          refine RunF.gq rfl (o_load rfl tk3 ts3 rfl rfl rfl) rfl ?_
          refine RunF.gq rfl (o_fieldAddr rfl tk24 rfl ts3 rfl) rfl ?_
          refine RunF.gq rfl (o_load rfl tk3 ts3 rfl rfl rfl) rfl ?_
          refine RunF.gq rfl (o_mul rfl rfl (by first | exact i64_in _ (by omega) | rfl)) rfl ?_
          refine RunF.gq rfl (o_eql rfl rfl) rfl ?_
          refine RunF.q (o_pick_t rfl rfl) rfl ?_
          refine RunF.br (o_move rfl) rfl (fun hb2_29 => ?_) (fun hb2_29 => ?_)
          · try simp only [decide_eq_true_eq, decide_eq_false_iff_not, bne_iff_ne, beq_iff_eq, bne_eq_false_iff_eq, beq_eq_false_iff_ne, ne_eq, Bool.not_eq_true', Bool.not_eq_false'] at hb2_29
            exfalso; omega
          · try simp only [decide_eq_true_eq, decide_eq_false_iff_not, bne_iff_ne, beq_iff_eq, bne_eq_false_iff_eq, beq_eq_false_iff_ne, ne_eq, Bool.not_eq_true', Bool.not_eq_false'] at hb2_29
            refine RunF.gs (b := false) rfl rfl ?_
            refine RunF.gs (b := false) rfl rfl ?_
            refine RunF.gs (b := false) rfl rfl ?_
            refine RunF.gs (b := false) rfl rfl ?_
            refine RunF.gs (b := false) rfl rfl ?_
            refine RunF.q (o_pick_f rfl rfl) rfl ?_
            refine RunF.q (o_assign rfl) rfl ?_
            refine AW.ret ?_
            exact FinQ.ret [] [] (ress_tmp rfl ress_nil) rfl .nil .nil (by rw [show rightM R C [] = false from decide_eq_false (by rintro ⟨h1, h2, h3, h4, h5, _⟩; (try simp only [List.length_nil, Int.natCast_zero] at *); omega)]; exact (by repeat' first | exact RN.self rfl | exact RN.top | exact RN.ptr rfl | exact RN.sl rfl | exact RN.slf rfl | apply RN.agg | apply RN.tuple | apply RN.fn | exact RNs.nil | apply RNs.cons | (apply RNs.flat; simp; done)))
        · try simp only [decide_eq_true_eq, decide_eq_false_iff_not, bne_iff_ne, beq_iff_eq, bne_eq_false_iff_eq, beq_eq_false_iff_ne, ne_eq, Bool.not_eq_true', Bool.not_eq_false'] at hb2_18
          refine RunF.gs (b := false) rfl rfl ?_
          refine RunF.gs (b := false) rfl rfl ?_
          refine RunF.gs (b := false) rfl rfl ?_
          refine RunF.gs (b := false) rfl rfl ?_
          refine RunF.gs (b := false) rfl rfl ?_
          refine RunF.gs (b := false) rfl rfl ?_
          refine RunF.gs (b := false) rfl rfl ?_
          refine RunF.gs (b := false) rfl rfl ?_
          refine RunF.gs (b := false) rfl rfl ?_
          refine RunF.q (o_pick_f rfl rfl) rfl ?_
          refine RunF.q (o_move rfl) rfl ?_
          refine RunF.gs (b := false) rfl rfl ?_
          refine RunF.gs (b := false) rfl rfl ?_
          refine RunF.gs (b := false) rfl rfl ?_
          refine RunF.gs (b := false) rfl rfl ?_
          refine RunF.gs (b := false) rfl rfl ?_
          refine RunF.q (o_pick_f rfl rfl) rfl ?_
          refine RunF.q (o_assign rfl) rfl ?_
          refine AW.ret ?_
          exact FinQ.ret [] [] (ress_tmp rfl ress_nil) rfl .nil .nil (by rw [show rightM R C [] = false from decide_eq_false (by rintro ⟨h1, h2, h3, h4, h5, _⟩; (try simp only [List.length_nil, Int.natCast_zero] at *); omega)]; exact (by repeat' first | exact RN.self rfl | exact RN.top | exact RN.ptr rfl | exact RN.sl rfl | exact RN.slf rfl | apply RN.agg | apply RN.tuple | apply RN.fn | exact RNs.nil | apply RNs.cons | (apply RNs.flat; simp; done)))
      · try simp only [decide_eq_true_eq, decide_eq_false_iff_not, bne_iff_ne, beq_iff_eq, bne_eq_false_iff_eq, beq_eq_false_iff_ne, ne_eq, Bool.not_eq_true', Bool.not_eq_false'] at hb2_13
        refine RunF.gs (b := false) rfl rfl ?_
        refine RunF.gs (b := false) rfl rfl ?_
        refine RunF.gs (b := false) rfl rfl ?_
        refine RunF.q (o_pick_f rfl rfl) rfl ?_
        refine RunF.q (o_move rfl) rfl ?_
        refine RunF.gs (b := false) rfl rfl ?_
        refine RunF.gs (b := false) rfl rfl ?_
        refine RunF.gs (b := false) rfl rfl ?_
        refine RunF.gs (b := false) rfl rfl ?_
        refine RunF.gs (b := false) rfl rfl ?_
        refine RunF.gs (b := false) rfl rfl ?_
        refine RunF.gs (b := false) rfl rfl ?_
        refine RunF.gs (b := false) rfl rfl ?_
        refine RunF.gs (b := false) rfl rfl ?_
        refine RunF.q (o_pick_f rfl rfl) rfl ?_
        refine RunF.q (o_move rfl) rfl ?_
        refine RunF.gs (b := false) rfl rfl ?_
        refine RunF.gs (b := false) rfl rfl ?_
        refine RunF.gs (b := false) rfl rfl ?_
        refine RunF.gs (b := false) rfl rfl ?_
        refine RunF.gs (b := false) rfl rfl ?_
        refine RunF.q (o_pick_f rfl rfl) rfl ?_
        refine RunF.q (o_assign rfl) rfl ?_
        refine AW.ret ?_
        exact FinQ.ret [] [] (ress_tmp rfl ress_nil) rfl .nil .nil (by rw [show rightM R C [] = false from decide_eq_false (by rintro ⟨h1, h2, h3, h4, h5, _⟩; (try simp only [List.length_nil, Int.natCast_zero] at *); omega)]; exact (by repeat' first | exact RN.self rfl | exact RN.top | exact RN.ptr rfl | exact RN.sl rfl | exact RN.slf rfl | apply RN.agg | apply RN.tuple | apply RN.fn | exact RNs.nil | apply RNs.cons | (apply RNs.flat; simp; done)))
    · try simp only [decide_eq_true_eq, decide_eq_false_iff_not, bne_iff_ne, beq_iff_eq, bne_eq_false_iff_eq, beq_eq_false_iff_ne, ne_eq, Bool.not_eq_true', Bool.not_eq_false'] at hb2_8
      refine RunF.gs (b := false) rfl rfl ?_
      refine RunF.gs (b := false) rfl rfl ?_
      refine RunF.gs (b := false) rfl rfl ?_
      refine RunF.q (o_pick_f rfl rfl) rfl ?_
      refine RunF.q (o_move rfl) rfl ?_
      refine RunF.gs (b := false) rfl rfl ?_
      refine RunF.gs (b := false) rfl rfl ?_
      refine RunF.gs (b := false) rfl rfl ?_
      refine RunF.q (o_pick_f rfl rfl) rfl ?_
      refine RunF.q (o_move rfl) rfl ?_
      refine RunF.gs (b := false) rfl rfl ?_
      refine RunF.gs (b := false) rfl rfl ?_
      refine RunF.gs (b := false) rfl rfl ?_
      refine RunF.gs (b := false) rfl rfl ?_
      refine RunF.gs (b := false) rfl rfl ?_
      refine RunF.gs (b := false) rfl rfl ?_
      refine RunF.gs (b := false) rfl rfl ?_
      refine RunF.gs (b := false) rfl rfl ?_
      refine RunF.gs (b := false) rfl rfl ?_
      refine RunF.q (o_pick_f rfl rfl) rfl ?_
      refine RunF.q (o_move rfl) rfl ?_
      refine RunF.gs (b := false) rfl rfl ?_
      refine RunF.gs (b := false) rfl rfl ?_
      refine RunF.gs (b := false) rfl rfl ?_
      refine RunF.gs (b := false) rfl rfl ?_
      refine RunF.gs (b := false) rfl rfl ?_
      refine RunF.q (o_pick_f rfl rfl) rfl ?_
      refine RunF.q (o_assign rfl) rfl ?_
      refine AW.ret ?_
      exact FinQ.ret [] [] (ress_tmp rfl ress_nil) rfl .nil .nil (by rw [show rightM R C [] = false from decide_eq_false (by rintro ⟨h1, h2, h3, h4, h5, _⟩; (try simp only [List.length_nil, Int.natCast_zero] at *); omega)]; exact (by repeat' first | exact RN.self rfl | exact RN.top | exact RN.ptr rfl | exact RN.sl rfl | exact RN.slf rfl | apply RN.agg | apply RN.tuple | apply RN.fn | exact RNs.nil | apply RNs.cons | (apply RNs.flat; simp; done)))
  · try simp only [decide_eq_true_eq, decide_eq_false_iff_not, bne_iff_ne, beq_iff_eq, bne_eq_false_iff_eq, beq_eq_false_iff_ne, ne_eq, Bool.not_eq_true', Bool.not_eq_false'] at hb2_3
    refine RunF.gs (b := false) rfl rfl ?_
    refine RunF.gs (b := false) rfl rfl ?_
    refine RunF.gs (b := false) rfl rfl ?_
    refine RunF.q (o_pick_f rfl rfl) rfl ?_
    refine RunF.q (o_move rfl) rfl ?_
    refine RunF.gs (b := false) rfl rfl ?_
    refine RunF.gs (b := false) rfl rfl ?_
    refine RunF.gs (b := false) rfl rfl ?_
    refine RunF.q (o_pick_f rfl rfl) rfl ?_
    refine RunF.q (o_move rfl) rfl ?_
    refine RunF.gs (b := false) rfl rfl ?_
    refine RunF.gs (b := false) rfl rfl ?_
    refine RunF.gs (b := false) rfl rfl ?_
    refine RunF.q (o_pick_f rfl rfl) rfl ?_
    refine RunF.q (o_move rfl) rfl ?_
    refine RunF.gs (b := false) rfl rfl ?_
    refine RunF.gs (b := false) rfl rfl ?_
    refine RunF.gs (b := false) rfl rfl ?_
    refine RunF.gs (b := false) rfl rfl ?_
    refine RunF.gs (b := false) rfl rfl ?_
    refine RunF.gs (b := false) rfl rfl ?_
    refine RunF.gs (b := false) rfl rfl ?_
    refine RunF.gs (b := false) rfl rfl ?_
    refine RunF.gs (b := false) rfl rfl ?_
    refine RunF.q (o_pick_f rfl rfl) rfl ?_
    refine RunF.q (o_move rfl) rfl ?_
    refine RunF.gs (b := false) rfl rfl ?_
    refine RunF.gs (b := false) rfl rfl ?_
    refine RunF.gs (b := false) rfl rfl ?_
    refine RunF.gs (b := false) rfl rfl ?_
    refine RunF.gs (b := false) rfl rfl ?_
    refine RunF.q (o_pick_f rfl rfl) rfl ?_
    refine RunF.q (o_assign rfl) rfl ?_
    refine AW.ret ?_
    exact FinQ.ret [] [] (ress_tmp rfl ress_nil) rfl .nil .nil (by rw [show rightM R C [] = false from decide_eq_false (by rintro ⟨h1, h2, h3, h4, h5, _⟩; (try simp only [List.length_nil, Int.natCast_zero] at *); omega)]; exact (by repeat' first | exact RN.self rfl | exact RN.top | exact RN.ptr rfl | exact RN.sl rfl | exact RN.slf rfl | apply RN.agg | apply RN.tuple | apply RN.fn | exact RNs.nil | apply RNs.cons | (apply RNs.flat; simp; done)))

set_option maxHeartbeats 1000000 in
theorem of_nil (r c : Int) : SoundC Try.prog 113 [.agg [.int .i64 r, .int .i64 c, .nilsl]] ⟨[], []⟩ { val := .agg [.int .i64 r, .int .i64 c] } := by
  refine SoundC.of (N := 8) Try.func113 rfl rfl rfl rfl ?_
  refine AW.seq ?_
  refine AW.region (by kernel_rfl) ?_
  refine RunF.w (o_box (nm := 0) rfl rfl rfl) (by simp only [H.app, appO, patchAll, patch, List.map_cons, List.map_nil, List.append_nil, List.nil_append, List.cons_append, List.set_cons_zero, List.set_cons_succ, Option.map_some, Option.map_none, List.contains_cons, List.contains_nil, Nat.reduceAdd, Nat.reduceEqDiff, Nat.reduceBEq, Bool.or_false, Bool.false_eq_true, reduceIte, Nat.zero_add]; rfl) ?_
  refine RunF.w (o_alloc (nm := 1) tz132 rfl) (by simp only [H.app, appO, patchAll, patch, List.map_cons, List.map_nil, List.append_nil, List.nil_append, List.cons_append, List.set_cons_zero, List.set_cons_succ, Option.map_some, Option.map_none, List.contains_cons, List.contains_nil, Nat.reduceAdd, Nat.reduceEqDiff, Nat.reduceBEq, Bool.or_false, Bool.false_eq_true, reduceIte, Nat.zero_add]; rfl) ?_
  refine AW.seq ?_
  refine AW.region (by kernel_rfl) ?_
  refine RunF.q (o_fieldAddr rfl tk24 rfl ts3 rfl) rfl ?_
  refine RunF.q (o_load rfl tk3 ts3 rfl rfl rfl) rfl ?_
  refine RunF.q (o_fieldAddr rfl tk24 rfl ts3 rfl) rfl ?_
  refine RunF.q (o_load rfl tk3 ts3 rfl rfl rfl) rfl ?_
  refine RunF.q (o_build tk132 tz132 pl132 rfl rfl) rfl ?_
  refine RunF.wn (o_store rfl rfl rfl ts132 rfl rfl) (by simp only [H.app, appO, patchAll, patch, List.map_cons, List.map_nil, List.append_nil, List.nil_append, List.cons_append, List.set_cons_zero, List.set_cons_succ, Option.map_some, Option.map_none, List.contains_cons, List.contains_nil, Nat.reduceAdd, Nat.reduceEqDiff, Nat.reduceBEq, Bool.or_false, Bool.false_eq_true, reduceIte, Nat.zero_add]; rfl) ?_
  refine AW.ret ?_
  exact FinQ.ret [] [] (ress_agg rfl tk132 ts132 rfl rfl rfl ress_nil) rfl .nil .nil (by repeat' first | exact RN.self rfl | exact RN.top | exact RN.ptr rfl | exact RN.sl rfl | exact RN.slf rfl | apply RN.agg | apply RN.tuple | apply RN.fn | exact RNs.nil | apply RNs.cons | (apply RNs.flat; simp; done))

set_option maxHeartbeats 1000000 in
theorem equalQ_nil  : SoundC Try.prog 125 [.nilsl, .nilsl] ⟨[], []⟩ { val := .bool (decide (([] : List Int) = [])) } := by
  refine SoundC.of (N := 26) Try.func125 rfl rfl rfl rfl ?_
  refine AW.seq ?_
  refine AW.region (by kernel_rfl) ?_
  refine RunF.q (o_assign rfl) rfl ?_
  refine AW.seq ?_
  refine AW.seq ?_
  refine AW.region (by kernel_rfl) ?_
  refine RunF.q (o_move rfl) rfl ?_
  first | refine RunF.q (o_len tk22 rfl) rfl ?_ | refine RunF.q (o_len_nil tk22 rfl) rfl ?_
  refine RunF.q (o_move rfl) rfl ?_
  first | refine RunF.q (o_len tk22 rfl) rfl ?_ | refine RunF.q (o_len_nil tk22 rfl) rfl ?_
  refine RunF.q (o_neq rfl rfl) rfl ?_
  refine AW.cond rfl (fun hc0 => absurd hc0 (by simp)) (fun hc0 => ?_)
  refine AW.skip ?_
  refine AW.seq ?_
  refine AW.seq ?_
  refine AW.region (by kernel_rfl) ?_
  refine RunF.q (o_move rfl) rfl ?_
  first | refine RunF.q (o_len tk22 rfl) rfl ?_ | refine RunF.q (o_len_nil tk22 rfl) rfl ?_
  refine RunF.q (o_move rfl) rfl ?_
  refine AW.block ?_
  refine AW.loop (α := Unit) (fun x : Unit => ([(0, .nilsl), (1, .nilsl), (12, .int .i64 0), (13, .int .i64 0)], ⟨[], []⟩)) (fun x => 0) (fun x => ?_) () ?_
  · skip
    refine AW.seq ?_
    refine AW.region (by kernel_rfl) ?_
    refine RunF.q (o_lss rfl rfl) rfl ?_
    refine AW.seq ?_
    refine AW.cond rfl (fun hc1 => absurd hc1 (by simp)) (fun hc1 => ?_)
    refine AW.exit ?_
    refine AW.seq ?_
    refine AW.region (by kernel_rfl) ?_
    refine RunF.q (o_assign rfl) rfl ?_
    refine AW.ret ?_
    exact FinQ.ret [] [] (ress_tmp rfl ress_nil) rfl .nil .nil (by repeat' first | exact RN.self rfl | exact RN.top | exact RN.ptr rfl | exact RN.sl rfl | exact RN.slf rfl | apply RN.agg | apply RN.tuple | apply RN.fn | exact RNs.nil | apply RNs.cons | (apply RNs.flat; simp; done))
  · exact Wk.same rfl (.cons rfl (.cons rfl (.cons rfl (.cons rfl .nil))))

set_option maxHeartbeats 1000000 in
theorem msame_ok (r c r' c' : Int) (A B : List Int) (fa fb : Bool) (hA : A.length ≤ 1000000) : SoundC Try.prog 90 [.agg [.int .i64 r, .int .i64 c, .sl (.r 0) 0 A.length 1 fa], .agg [.int .i64 r', .int .i64 c', .sl (.r 1) 0 B.length 1 fb]] ⟨[ints A, ints B], []⟩ { val := .bool (sameM r c A r' c' B) } := by
  refine SoundC.of (N := 17) Try.func90 rfl rfl rfl rfl ?_
  refine AW.seq ?_
  refine AW.region (by kernel_rfl) ?_
  refine RunF.w (o_box (nm := 0) rfl rfl rfl) (by simp only [H.app, appO, patchAll, patch, List.map_cons, List.map_nil, List.append_nil, List.nil_append, List.cons_append, List.set_cons_zero, List.set_cons_succ, Option.map_some, Option.map_none, List.contains_cons, List.contains_nil, Nat.reduceAdd, Nat.reduceEqDiff, Nat.reduceBEq, Bool.or_false, Bool.false_eq_true, reduceIte, Nat.zero_add]; rfl) ?_
  refine RunF.w (o_box (nm := 1) rfl rfl rfl) (by simp only [H.app, appO, patchAll, patch, List.map_cons, List.map_nil, List.append_nil, List.nil_append, List.cons_append, List.set_cons_zero, List.set_cons_succ, Option.map_some, Option.map_none, List.contains_cons, List.contains_nil, Nat.reduceAdd, Nat.reduceEqDiff, Nat.reduceBEq, Bool.or_false, Bool.false_eq_true, reduceIte, Nat.zero_add]; rfl) ?_
  refine RunF.q (o_assign rfl) rfl ?_
  refine AW.seq ?_
  refine AW.draws (by kernel_rfl) (by kernel_rfl) ?_
  refine RunV.q (o_load_agg rfl tk24 ts24 rfl rfl rfl (by simp only [List.take_succ_cons, List.drop_succ_cons, List.drop_zero, List.take_zero, List.take_nil, List.drop_nil, Nat.zero_add, Nat.reduceAdd]; rfl)) rfl ?_
  refine RunV.q (o_call (no := 2) (nr := 2) rfl rfl rfl (by (repeat' first | exact cl_nil | exact cL_flat rfl | exact cL_flat (ints_flat _) | apply cL_vs | apply cl_cons | exact cv_flat rfl | apply cv_agg | apply cv_ptr_o | apply cv_sl_o rfl | apply cv_func | exact cO_old rfl | (apply cO_new; (focus rfl); (focus rfl)) | (apply cv_sl_r; (focus rfl); (focus rfl); (focus (simp; done)); (focus (first | exact ints_all _ | rfl))) | (apply cv_ptr_r rfl ?_ rfl rfl) | (simp only [List.nil_append, List.cons_append, List.length_cons, List.length_nil, Nat.zero_add, Nat.reduceAdd, List.set_cons_zero, List.set_cons_succ]; rfl) | rfl)) (by rfl) (by exact of_ok r c A fa) (by rfl) rfl rfl (by first | exact reV_bare _ _ rfl | (simp only [reV, reVs, List.all_cons, List.all_nil, AV.flat, Bool.and_true, Bool.true_and, Bool.false_and, Bool.and_false, Bool.false_eq_true, reduceIte, CS.de, List.getElem?_cons_zero, List.getElem?_cons_succ, List.getElem?_nil, List.length_cons, List.length_nil, Nat.reduceSub, Nat.reduceAdd, Nat.zero_add, Nat.add_zero, Nat.sub_self]; rfl)) rfl) (by rfl) ?_
  refine RunV.q (o_load_agg rfl tk24 ts24 rfl rfl rfl (by simp only [List.take_succ_cons, List.drop_succ_cons, List.drop_zero, List.take_zero, List.take_nil, List.drop_nil, Nat.zero_add, Nat.reduceAdd]; rfl)) rfl ?_
  refine RunV.q (o_call (no := 2) (nr := 2) rfl rfl rfl (by (repeat' first | exact cl_nil | exact cL_flat rfl | exact cL_flat (ints_flat _) | apply cL_vs | apply cl_cons | exact cv_flat rfl | apply cv_agg | apply cv_ptr_o | apply cv_sl_o rfl | apply cv_func | exact cO_old rfl | (apply cO_new; (focus rfl); (focus rfl)) | (apply cv_sl_r; (focus rfl); (focus rfl); (focus (simp; done)); (focus (first | exact ints_all _ | rfl))) | (apply cv_ptr_r rfl ?_ rfl rfl) | (simp only [List.nil_append, List.cons_append, List.length_cons, List.length_nil, Nat.zero_add, Nat.reduceAdd, List.set_cons_zero, List.set_cons_succ]; rfl) | rfl)) (by rfl) (by exact of_ok r' c' B fb) (by rfl) rfl rfl (by first | exact reV_bare _ _ rfl | (simp only [reV, reVs, List.all_cons, List.all_nil, AV.flat, Bool.and_true, Bool.true_and, Bool.false_and, Bool.and_false, Bool.false_eq_true, reduceIte, CS.de, List.getElem?_cons_zero, List.getElem?_cons_succ, List.getElem?_nil, List.length_cons, List.length_nil, Nat.reduceSub, Nat.reduceAdd, Nat.zero_add, Nat.add_zero, Nat.sub_self]; rfl)) rfl) (by rfl) ?_
  refine RunV.q (o_eqa rfl rfl tk132 ko132 (by rw [eg132]; rfl) rfl) rfl ?_
  refine RunV.br (o_move rfl) rfl (fun hb1_5 => ?_) (fun hb1_5 => ?_)
  · try simp only [decide_eq_true_eq, decide_eq_false_iff_not, bne_iff_ne, beq_iff_eq, bne_eq_false_iff_eq, beq_eq_false_iff_ne, ne_eq, Bool.not_eq_true', Bool.not_eq_false'] at hb1_5
    refine RunV.gq rfl (o_fieldAddr rfl tk24 rfl ts22 rfl) rfl ?_
    refine RunV.gq rfl (o_load rfl tk22 ts22 rfl rfl rfl) rfl ?_
    refine RunV.gq rfl (o_fieldAddr rfl tk24 rfl ts22 rfl) rfl ?_
    refine RunV.gq rfl (o_load rfl tk22 ts22 rfl rfl rfl) rfl ?_
    refine RunV.gq rfl (o_call (no := 2) (nr := 2) rfl rfl rfl (by (repeat' first | exact cl_nil | exact cL_flat rfl | exact cL_flat (ints_flat _) | apply cL_vs | apply cl_cons | exact cv_flat rfl | apply cv_agg | apply cv_ptr_o | apply cv_sl_o rfl | apply cv_func | exact cO_old rfl | (apply cO_new; (focus rfl); (focus rfl)) | (apply cv_sl_r; (focus rfl); (focus rfl); (focus (simp; done)); (focus (first | exact ints_all _ | rfl))) | (apply cv_ptr_r rfl ?_ rfl rfl) | (simp only [List.nil_append, List.cons_append, List.length_cons, List.length_nil, Nat.zero_add, Nat.reduceAdd, List.set_cons_zero, List.set_cons_succ]; rfl) | rfl)) (by rfl) (by exact equalQ_ok A B fa fb hA) (by rfl) rfl rfl (by first | exact reV_bare _ _ rfl | (simp only [reV, reVs, List.all_cons, List.all_nil, AV.flat, Bool.and_true, Bool.true_and, Bool.false_and, Bool.and_false, Bool.false_eq_true, reduceIte, CS.de, List.getElem?_cons_zero, List.getElem?_cons_succ, List.getElem?_nil, List.length_cons, List.length_nil, Nat.reduceSub, Nat.reduceAdd, Nat.zero_add, Nat.add_zero, Nat.sub_self]; rfl)) rfl) (by rfl) ?_
    refine RunV.q (o_pick_t rfl rfl) rfl ?_
    refine RunV.q (o_assign rfl) rfl ?_
    refine And.intro (by kernel_rfl) ?_
    refine AW.ret ?_
    exact FinQ.ret [] [] (ress_tmp rfl ress_nil) rfl .nil (.cons rfl rfl (by first | (apply PRN.flat; rfl) | (apply PRN.flat; simp; done) | (repeat' first | exact PRN.nil | apply PRN.cons | exact RN.self rfl | exact RN.top | exact RN.ptr rfl | exact RN.sl rfl | exact RN.slf rfl | apply RN.agg | apply RN.fn | exact RNs.nil | apply RNs.cons)) (.cons rfl rfl (by first | (apply PRN.flat; rfl) | (apply PRN.flat; simp; done) | (repeat' first | exact PRN.nil | apply PRN.cons | exact RN.self rfl | exact RN.top | exact RN.ptr rfl | exact RN.sl rfl | exact RN.slf rfl | apply RN.agg | apply RN.fn | exact RNs.nil | apply RNs.cons)) .nil)) (by rw [show sameM r c A r' c' B = decide (A = B) from decide_eq_decide.2 (by simp at hb1_5; simp [hb1_5.1, hb1_5.2])]; exact (by repeat' first | exact RN.self rfl | exact RN.top | exact RN.ptr rfl | exact RN.sl rfl | exact RN.slf rfl | apply RN.agg | apply RN.tuple | apply RN.fn | exact RNs.nil | apply RNs.cons | (apply RNs.flat; simp; done)))
  · try simp only [decide_eq_true_eq, decide_eq_false_iff_not, bne_iff_ne, beq_iff_eq, bne_eq_false_iff_eq, beq_eq_false_iff_ne, ne_eq, Bool.not_eq_true', Bool.not_eq_false'] at hb1_5
    refine RunV.gs (b := false) rfl rfl ?_
    refine RunV.gs (b := false) rfl rfl ?_
    refine RunV.gs (b := false) rfl rfl ?_
    refine RunV.gs (b := false) rfl rfl ?_
    refine RunV.gs (b := false) rfl rfl ?_
    refine RunV.q (o_pick_f rfl rfl) rfl ?_
    refine RunV.q (o_assign rfl) rfl ?_
    refine And.intro (by kernel_rfl) ?_
    refine AW.ret ?_
    exact FinQ.ret [] [] (ress_tmp rfl ress_nil) rfl .nil (.cons rfl rfl (by first | (apply PRN.flat; rfl) | (apply PRN.flat; simp; done) | (repeat' first | exact PRN.nil | apply PRN.cons | exact RN.self rfl | exact RN.top | exact RN.ptr rfl | exact RN.sl rfl | exact RN.slf rfl | apply RN.agg | apply RN.fn | exact RNs.nil | apply RNs.cons)) (.cons rfl rfl (by first | (apply PRN.flat; rfl) | (apply PRN.flat; simp; done) | (repeat' first | exact PRN.nil | apply PRN.cons | exact RN.self rfl | exact RN.top | exact RN.ptr rfl | exact RN.sl rfl | exact RN.slf rfl | apply RN.agg | apply RN.fn | exact RNs.nil | apply RNs.cons)) .nil)) (by rw [show sameM r c A r' c' B = false from decide_eq_false (by rintro ⟨rfl, rfl, _⟩; simp at hb1_5)]; exact (by repeat' first | exact RN.self rfl | exact RN.top | exact RN.ptr rfl | exact RN.sl rfl | exact RN.slf rfl | apply RN.agg | apply RN.tuple | apply RN.fn | exact RNs.nil | apply RNs.cons | (apply RNs.flat; simp; done)))

set_option maxHeartbeats 1000000 in
theorem msame_nil (r c r' c' : Int) : SoundC Try.prog 90 [.agg [.int .i64 r, .int .i64 c, .nilsl], .agg [.int .i64 r', .int .i64 c', .nilsl]] ⟨[], []⟩ { val := .bool (sameM r c [] r' c' []) } := by
  refine SoundC.of (N := 17) Try.func90 rfl rfl rfl rfl ?_
  refine AW.seq ?_
  refine AW.region (by kernel_rfl) ?_
  refine RunF.w (o_box (nm := 0) rfl rfl rfl) (by simp only [H.app, appO, patchAll, patch, List.map_cons, List.map_nil, List.append_nil, List.nil_append, List.cons_append, List.set_cons_zero, List.set_cons_succ, Option.map_some, Option.map_none, List.contains_cons, List.contains_nil, Nat.reduceAdd, Nat.reduceEqDiff, Nat.reduceBEq, Bool.or_false, Bool.false_eq_true, reduceIte, Nat.zero_add]; rfl) ?_
  refine RunF.w (o_box (nm := 1) rfl rfl rfl) (by simp only [H.app, appO, patchAll, patch, List.map_cons, List.map_nil, List.append_nil, List.nil_append, List.cons_append, List.set_cons_zero, List.set_cons_succ, Option.map_some, Option.map_none, List.contains_cons, List.contains_nil, Nat.reduceAdd, Nat.reduceEqDiff, Nat.reduceBEq, Bool.or_false, Bool.false_eq_true, reduceIte, Nat.zero_add]; rfl) ?_
  refine RunF.q (o_assign rfl) rfl ?_
  refine AW.seq ?_
  refine AW.draws (by kernel_rfl) (by kernel_rfl) ?_
  refine RunV.q (o_load_agg rfl tk24 ts24 rfl rfl rfl (by simp only [List.take_succ_cons, List.drop_succ_cons, List.drop_zero, List.take_zero, List.take_nil, List.drop_nil, Nat.zero_add, Nat.reduceAdd]; rfl)) rfl ?_
  refine RunV.q (o_call (no := 2) (nr := 0) rfl rfl rfl (by (repeat' first | exact cl_nil | exact cL_flat rfl | exact cL_flat (ints_flat _) | apply cL_vs | apply cl_cons | exact cv_flat rfl | apply cv_agg | apply cv_ptr_o | apply cv_sl_o rfl | apply cv_func | exact cO_old rfl | (apply cO_new; (focus rfl); (focus rfl)) | (apply cv_sl_r; (focus rfl); (focus rfl); (focus (simp; done)); (focus (first | exact ints_all _ | rfl))) | (apply cv_ptr_r rfl ?_ rfl rfl) | (simp only [List.nil_append, List.cons_append, List.length_cons, List.length_nil, Nat.zero_add, Nat.reduceAdd, List.set_cons_zero, List.set_cons_succ]; rfl) | rfl)) (by rfl) (by exact of_nil r c) (by rfl) rfl rfl (by first | exact reV_bare _ _ rfl | (simp only [reV, reVs, List.all_cons, List.all_nil, AV.flat, Bool.and_true, Bool.true_and, Bool.false_and, Bool.and_false, Bool.false_eq_true, reduceIte, CS.de, List.getElem?_cons_zero, List.getElem?_cons_succ, List.getElem?_nil, List.length_cons, List.length_nil, Nat.reduceSub, Nat.reduceAdd, Nat.zero_add, Nat.add_zero, Nat.sub_self]; rfl)) rfl) (by rfl) ?_
  refine RunV.q (o_load_agg rfl tk24 ts24 rfl rfl rfl (by simp only [List.take_succ_cons, List.drop_succ_cons, List.drop_zero, List.take_zero, List.take_nil, List.drop_nil, Nat.zero_add, Nat.reduceAdd]; rfl)) rfl ?_
  refine RunV.q (o_call (no := 2) (nr := 0) rfl rfl rfl (by (repeat' first | exact cl_nil | exact cL_flat rfl | exact cL_flat (ints_flat _) | apply cL_vs | apply cl_cons | exact cv_flat rfl | apply cv_agg | apply cv_ptr_o | apply cv_sl_o rfl | apply cv_func | exact cO_old rfl | (apply cO_new; (focus rfl); (focus rfl)) | (apply cv_sl_r; (focus rfl); (focus rfl); (focus (simp; done)); (focus (first | exact ints_all _ | rfl))) | (apply cv_ptr_r rfl ?_ rfl rfl) | (simp only [List.nil_append, List.cons_append, List.length_cons, List.length_nil, Nat.zero_add, Nat.reduceAdd, List.set_cons_zero, List.set_cons_succ]; rfl) | rfl)) (by rfl) (by exact of_nil r' c') (by rfl) rfl rfl (by first | exact reV_bare _ _ rfl | (simp only [reV, reVs, List.all_cons, List.all_nil, AV.flat, Bool.and_true, Bool.true_and, Bool.false_and, Bool.and_false, Bool.false_eq_true, reduceIte, CS.de, List.getElem?_cons_zero, List.getElem?_cons_succ, List.getElem?_nil, List.length_cons, List.length_nil, Nat.reduceSub, Nat.reduceAdd, Nat.zero_add, Nat.add_zero, Nat.sub_self]; rfl)) rfl) (by rfl) ?_
  refine RunV.q (o_eqa rfl rfl tk132 ko132 (by rw [eg132]; rfl) rfl) rfl ?_
  refine RunV.br (o_move rfl) rfl (fun hb1_5 => ?_) (fun hb1_5 => ?_)
  · try simp only [decide_eq_true_eq, decide_eq_false_iff_not, bne_iff_ne, beq_iff_eq, bne_eq_false_iff_eq, beq_eq_false_iff_ne, ne_eq, Bool.not_eq_true', Bool.not_eq_false'] at hb1_5
    refine RunV.gq rfl (o_fieldAddr rfl tk24 rfl ts22 rfl) rfl ?_
    refine RunV.gq rfl (o_load rfl tk22 ts22 rfl rfl rfl) rfl ?_
    refine RunV.gq rfl (o_fieldAddr rfl tk24 rfl ts22 rfl) rfl ?_
    refine RunV.gq rfl (o_load rfl tk22 ts22 rfl rfl rfl) rfl ?_
    refine RunV.gq rfl (o_call (no := 2) (nr := 0) rfl rfl rfl (by (repeat' first | exact cl_nil | exact cL_flat rfl | exact cL_flat (ints_flat _) | apply cL_vs | apply cl_cons | exact cv_flat rfl | apply cv_agg | apply cv_ptr_o | apply cv_sl_o rfl | apply cv_func | exact cO_old rfl | (apply cO_new; (focus rfl); (focus rfl)) | (apply cv_sl_r; (focus rfl); (focus rfl); (focus (simp; done)); (focus (first | exact ints_all _ | rfl))) | (apply cv_ptr_r rfl ?_ rfl rfl) | (simp only [List.nil_append, List.cons_append, List.length_cons, List.length_nil, Nat.zero_add, Nat.reduceAdd, List.set_cons_zero, List.set_cons_succ]; rfl) | rfl)) (by rfl) (by exact equalQ_nil) (by rfl) rfl rfl (by first | exact reV_bare _ _ rfl | (simp only [reV, reVs, List.all_cons, List.all_nil, AV.flat, Bool.and_true, Bool.true_and, Bool.false_and, Bool.and_false, Bool.false_eq_true, reduceIte, CS.de, List.getElem?_cons_zero, List.getElem?_cons_succ, List.getElem?_nil, List.length_cons, List.length_nil, Nat.reduceSub, Nat.reduceAdd, Nat.zero_add, Nat.add_zero, Nat.sub_self]; rfl)) rfl) (by rfl) ?_
    refine RunV.q (o_pick_t rfl rfl) rfl ?_
    refine RunV.q (o_assign rfl) rfl ?_
    refine And.intro (by kernel_rfl) ?_
    refine AW.ret ?_
    exact FinQ.ret [] [] (ress_tmp rfl ress_nil) rfl .nil .nil (by rw [show sameM r c [] r' c' [] = decide (([] : List Int) = []) from decide_eq_decide.2 (by simp at hb1_5; simp [hb1_5.1, hb1_5.2])]; exact (by repeat' first | exact RN.self rfl | exact RN.top | exact RN.ptr rfl | exact RN.sl rfl | exact RN.slf rfl | apply RN.agg | apply RN.tuple | apply RN.fn | exact RNs.nil | apply RNs.cons | (apply RNs.flat; simp; done)))
  · try simp only [decide_eq_true_eq, decide_eq_false_iff_not, bne_iff_ne, beq_iff_eq, bne_eq_false_iff_eq, beq_eq_false_iff_ne, ne_eq, Bool.not_eq_true', Bool.not_eq_false'] at hb1_5
    refine RunV.gs (b := false) rfl rfl ?_
    refine RunV.gs (b := false) rfl rfl ?_
    refine RunV.gs (b := false) rfl rfl ?_
    refine RunV.gs (b := false) rfl rfl ?_
    refine RunV.gs (b := false) rfl rfl ?_
    refine RunV.q (o_pick_f rfl rfl) rfl ?_
    refine RunV.q (o_assign rfl) rfl ?_
    refine And.intro (by kernel_rfl) ?_
    refine AW.ret ?_
    exact FinQ.ret [] [] (ress_tmp rfl ress_nil) rfl .nil .nil (by rw [show sameM r c [] r' c' [] = false from decide_eq_false (by rintro ⟨rfl, rfl, _⟩; simp at hb1_5)]; exact (by repeat' first | exact RN.self rfl | exact RN.top | exact RN.ptr rfl | exact RN.sl rfl | exact RN.slf rfl | apply RN.agg | apply RN.tuple | apply RN.fn | exact RNs.nil | apply RNs.cons | (apply RNs.flat; simp; done)))

set_option maxHeartbeats 1000000 in
theorem rsame_ok (r c r' c' : Int) (A B : List Int) (fa fb : Bool) (hA : A.length ≤ 1000000) : SoundC Try.prog 28 [.agg [.int .i64 r, .int .i64 c, .sl (.r 0) 0 A.length 1 fa], .agg [.int .i64 r', .int .i64 c', .sl (.r 1) 0 B.length 1 fb]] ⟨[ints A, ints B], []⟩ { val := .bool (sameM r c A r' c' B) } := by
  refine SoundC.of (N := 45) Try.func28 rfl rfl rfl rfl ?_
  refine AW.seq ?_
  refine AW.region (by kernel_rfl) ?_
  refine RunF.w (o_box (nm := 0) rfl rfl rfl) (by simp only [H.app, appO, patchAll, patch, List.map_cons, List.map_nil, List.append_nil, List.nil_append, List.cons_append, List.set_cons_zero, List.set_cons_succ, Option.map_some, Option.map_none, List.contains_cons, List.contains_nil, Nat.reduceAdd, Nat.reduceEqDiff, Nat.reduceBEq, Bool.or_false, Bool.false_eq_true, reduceIte, Nat.zero_add]; rfl) ?_
  refine RunF.w (o_box (nm := 1) rfl rfl rfl) (by simp only [H.app, appO, patchAll, patch, List.map_cons, List.map_nil, List.append_nil, List.nil_append, List.cons_append, List.set_cons_zero, List.set_cons_succ, Option.map_some, Option.map_none, List.contains_cons, List.contains_nil, Nat.reduceAdd, Nat.reduceEqDiff, Nat.reduceBEq, Bool.or_false, Bool.false_eq_true, reduceIte, Nat.zero_add]; rfl) ?_
  refine RunF.q (o_assign rfl) rfl ?_
  refine AW.seq ?_
  refine AW.seq ?_
  refine AW.region (by kernel_rfl) ?_
  refine RunF.q (o_fieldAddr rfl tk24 rfl ts3 rfl) rfl ?_
  refine RunF.q (o_load rfl tk3 ts3 rfl rfl rfl) rfl ?_
  refine RunF.q (o_fieldAddr rfl tk24 rfl ts3 rfl) rfl ?_
  refine RunF.q (o_load rfl tk3 ts3 rfl rfl rfl) rfl ?_
  refine RunF.q (o_neq rfl rfl) rfl ?_
  refine RunF.br (o_move rfl) rfl (fun hb1_5 => ?_) (fun hb1_5 => ?_)
  · try simp only [decide_eq_true_eq, decide_eq_false_iff_not, bne_iff_ne, beq_iff_eq, bne_eq_false_iff_eq, beq_eq_false_iff_ne, ne_eq, Bool.not_eq_true', Bool.not_eq_false'] at hb1_5
    refine RunF.gs (b := true) rfl rfl ?_
    refine RunF.gs (b := true) rfl rfl ?_
    refine RunF.gs (b := true) rfl rfl ?_
    refine RunF.gs (b := true) rfl rfl ?_
    refine RunF.gs (b := true) rfl rfl ?_
    refine RunF.q (o_pick_t rfl rfl) rfl ?_
    refine RunF.q (o_move rfl) rfl ?_
    refine RunF.gs (b := true) rfl rfl ?_
    refine RunF.gs (b := true) rfl rfl ?_
    refine RunF.gs (b := true) rfl rfl ?_
    refine RunF.gs (b := true) rfl rfl ?_
    refine RunF.gs (b := true) rfl rfl ?_
    refine RunF.gs (b := true) rfl rfl ?_
    refine RunF.gs (b := true) rfl rfl ?_
    refine RunF.q (o_pick_t rfl rfl) rfl ?_
    refine AW.cond rfl (fun hc0 => ?_) (fun hc0 => absurd hc0 (by simp))
    refine AW.seq ?_
    refine AW.region (by kernel_rfl) ?_
    refine RunF.q (o_assign rfl) rfl ?_
    refine AW.ret ?_
    first | (exact absurd rfl (by simp)) | exact FinQ.ret [] [] (ress_tmp rfl ress_nil) rfl .nil (.cons rfl rfl (by first | (apply PRN.flat; rfl) | (apply PRN.flat; simp; done) | (repeat' first | exact PRN.nil | apply PRN.cons | exact RN.self rfl | exact RN.top | exact RN.ptr rfl | exact RN.sl rfl | exact RN.slf rfl | apply RN.agg | apply RN.fn | exact RNs.nil | apply RNs.cons)) (.cons rfl rfl (by first | (apply PRN.flat; rfl) | (apply PRN.flat; simp; done) | (repeat' first | exact PRN.nil | apply PRN.cons | exact RN.self rfl | exact RN.top | exact RN.ptr rfl | exact RN.sl rfl | exact RN.slf rfl | apply RN.agg | apply RN.fn | exact RNs.nil | apply RNs.cons)) .nil)) (by rw [show sameM r c A r' c' B = false from decide_eq_false (by rintro ⟨h1, h2, h3⟩; first | omega | exact hc0 (by rw [h3]))]; exact (by repeat' first | exact RN.self rfl | exact RN.top | exact RN.ptr rfl | exact RN.sl rfl | exact RN.slf rfl | apply RN.agg | apply RN.tuple | apply RN.fn | exact RNs.nil | apply RNs.cons | (apply RNs.flat; simp; done)))
  · try simp only [decide_eq_true_eq, decide_eq_false_iff_not, bne_iff_ne, beq_iff_eq, bne_eq_false_iff_eq, beq_eq_false_iff_ne, ne_eq, Bool.not_eq_true', Bool.not_eq_false'] at hb1_5
    refine RunF.gq rfl (o_fieldAddr rfl tk24 rfl ts3 rfl) rfl ?_
    refine RunF.gq rfl (o_load rfl tk3 ts3 rfl rfl rfl) rfl ?_
    refine RunF.gq rfl (o_fieldAddr rfl tk24 rfl ts3 rfl) rfl ?_
    refine RunF.gq rfl (o_load rfl tk3 ts3 rfl rfl rfl) rfl ?_
    refine RunF.gq rfl (o_neq rfl rfl) rfl ?_
    refine RunF.q (o_pick_f rfl rfl) rfl ?_
    refine RunF.br (o_move rfl) rfl (fun hb1_12 => ?_) (fun hb1_12 => ?_)
    · try simp only [decide_eq_true_eq, decide_eq_false_iff_not, bne_iff_ne, beq_iff_eq, bne_eq_false_iff_eq, beq_eq_false_iff_ne, ne_eq, Bool.not_eq_true', Bool.not_eq_false'] at hb1_12
      refine RunF.gs (b := true) rfl rfl ?_
      refine RunF.gs (b := true) rfl rfl ?_
      refine RunF.gs (b := true) rfl rfl ?_
      refine RunF.gs (b := true) rfl rfl ?_
      refine RunF.gs (b := true) rfl rfl ?_
      refine RunF.gs (b := true) rfl rfl ?_
      refine RunF.gs (b := true) rfl rfl ?_
      refine RunF.q (o_pick_t rfl rfl) rfl ?_
      refine AW.cond rfl (fun hc0 => ?_) (fun hc0 => absurd hc0 (by simp))
      refine AW.seq ?_
      refine AW.region (by kernel_rfl) ?_
      refine RunF.q (o_assign rfl) rfl ?_
      refine AW.ret ?_
      first | (exact absurd rfl (by simp)) | exact FinQ.ret [] [] (ress_tmp rfl ress_nil) rfl .nil (.cons rfl rfl (by first | (apply PRN.flat; rfl) | (apply PRN.flat; simp; done) | (repeat' first | exact PRN.nil | apply PRN.cons | exact RN.self rfl | exact RN.top | exact RN.ptr rfl | exact RN.sl rfl | exact RN.slf rfl | apply RN.agg | apply RN.fn | exact RNs.nil | apply RNs.cons)) (.cons rfl rfl (by first | (apply PRN.flat; rfl) | (apply PRN.flat; simp; done) | (repeat' first | exact PRN.nil | apply PRN.cons | exact RN.self rfl | exact RN.top | exact RN.ptr rfl | exact RN.sl rfl | exact RN.slf rfl | apply RN.agg | apply RN.fn | exact RNs.nil | apply RNs.cons)) .nil)) (by rw [show sameM r c A r' c' B = false from decide_eq_false (by rintro ⟨h1, h2, h3⟩; first | omega | exact hc0 (by rw [h3]))]; exact (by repeat' first | exact RN.self rfl | exact RN.top | exact RN.ptr rfl | exact RN.sl rfl | exact RN.slf rfl | apply RN.agg | apply RN.tuple | apply RN.fn | exact RNs.nil | apply RNs.cons | (apply RNs.flat; simp; done)))
    · try simp only [decide_eq_true_eq, decide_eq_false_iff_not, bne_iff_ne, beq_iff_eq, bne_eq_false_iff_eq, beq_eq_false_iff_ne, ne_eq, Bool.not_eq_true', Bool.not_eq_false'] at hb1_12
      refine RunF.gq rfl (o_fieldAddr rfl tk24 rfl ts22 rfl) rfl ?_
      refine RunF.gq rfl (o_load rfl tk22 ts22 rfl rfl rfl) rfl ?_
      first | refine RunF.gq rfl (o_len tk22 rfl) rfl ?_ | refine RunF.gq rfl (o_len_nil tk22 rfl) rfl ?_
      refine RunF.gq rfl (o_fieldAddr rfl tk24 rfl ts22 rfl) rfl ?_
      refine RunF.gq rfl (o_load rfl tk22 ts22 rfl rfl rfl) rfl ?_
      first | refine RunF.gq rfl (o_len tk22 rfl) rfl ?_ | refine RunF.gq rfl (o_len_nil tk22 rfl) rfl ?_
      refine RunF.gq rfl (o_neq rfl rfl) rfl ?_
      refine RunF.q (o_pick_f rfl rfl) rfl ?_
      refine AW.cond rfl (fun hc0 => ?_) (fun hc0 => ?_)
      · try simp only [decide_eq_true_eq, decide_eq_false_iff_not, bne_iff_ne, beq_iff_eq, bne_eq_false_iff_eq, beq_eq_false_iff_ne, ne_eq, Bool.not_eq_true', Bool.not_eq_false'] at hc0
        refine AW.seq ?_
        refine AW.region (by kernel_rfl) ?_
        refine RunF.q (o_assign rfl) rfl ?_
        refine AW.ret ?_
        first | (exact absurd rfl (by simp)) | exact FinQ.ret [] [] (ress_tmp rfl ress_nil) rfl .nil (.cons rfl rfl (by first | (apply PRN.flat; rfl) | (apply PRN.flat; simp; done) | (repeat' first | exact PRN.nil | apply PRN.cons | exact RN.self rfl | exact RN.top | exact RN.ptr rfl | exact RN.sl rfl | exact RN.slf rfl | apply RN.agg | apply RN.fn | exact RNs.nil | apply RNs.cons)) (.cons rfl rfl (by first | (apply PRN.flat; rfl) | (apply PRN.flat; simp; done) | (repeat' first | exact PRN.nil | apply PRN.cons | exact RN.self rfl | exact RN.top | exact RN.ptr rfl | exact RN.sl rfl | exact RN.slf rfl | apply RN.agg | apply RN.fn | exact RNs.nil | apply RNs.cons)) .nil)) (by rw [show sameM r c A r' c' B = false from decide_eq_false (by rintro ⟨h1, h2, h3⟩; first | omega | exact hc0 (by rw [h3]))]; exact (by repeat' first | exact RN.self rfl | exact RN.top | exact RN.ptr rfl | exact RN.sl rfl | exact RN.slf rfl | apply RN.agg | apply RN.tuple | apply RN.fn | exact RNs.nil | apply RNs.cons | (apply RNs.flat; simp; done)))
      · try simp only [decide_eq_true_eq, decide_eq_false_iff_not, bne_iff_ne, beq_iff_eq, bne_eq_false_iff_eq, beq_eq_false_iff_ne, ne_eq, Bool.not_eq_true', Bool.not_eq_false'] at hc0
        refine AW.skip ?_
        refine AW.seq ?_
        refine AW.seq ?_
        refine AW.region (by kernel_rfl) ?_
        refine RunF.q (o_assign rfl) rfl ?_
        refine AW.block ?_
        refine AW.loop (α := {i : Nat // i ≤ A.length ∧ ∀ j, j < i → A.getD j 0 = B.getD j 0}) (fun x : {i : Nat // i ≤ A.length ∧ ∀ j, j < i → A.getD j 0 = B.getD j 0} => ([(2, .ptr (.o 0) 0), (3, .ptr (.o 1) 0), (5, .int .i64 x.1)], ⟨[ints A, ints B], [some [.int .i64 r, .int .i64 c, .sl (.r 0) 0 A.length 1 fa], some [.int .i64 r', .int .i64 c', .sl (.r 1) 0 B.length 1 fb]]⟩)) (fun x => A.length - x.1) (fun x => ?_) ⟨0, by omega, fun j hj => absurd hj (by omega)⟩ ?_
        · obtain ⟨i, hx, hxs⟩ := x
          try dsimp only at hx hxs
          try dsimp only
          refine AW.seq ?_
          refine AW.seq ?_
          refine AW.region (by kernel_rfl) ?_
          refine RunF.q (o_move rfl) rfl ?_
          refine RunF.q (o_fieldAddr rfl tk24 rfl ts22 rfl) rfl ?_
          refine RunF.q (o_load rfl tk22 ts22 rfl rfl rfl) rfl ?_
          first | refine RunF.q (o_len tk22 rfl) rfl ?_ | refine RunF.q (o_len_nil tk22 rfl) rfl ?_
          refine RunF.q (o_lss rfl rfl) rfl ?_
          refine AW.cond rfl (fun hc1 => ?_) (fun hc1 => ?_)
          · try simp only [decide_eq_true_eq, decide_eq_false_iff_not, bne_iff_ne, beq_iff_eq, bne_eq_false_iff_eq, beq_eq_false_iff_ne, ne_eq, Bool.not_eq_true', Bool.not_eq_false'] at hc1
            refine AW.skip ?_
            refine AW.seq ?_
            refine AW.block ?_
            refine AW.seq ?_
            refine AW.draws (by kernel_rfl) (by kernel_rfl) ?_
            refine RunV.q (o_fieldAddr rfl tk24 rfl ts22 rfl) rfl ?_
            refine RunV.q (o_load rfl tk22 ts22 rfl rfl rfl) rfl ?_
            refine RunV.q (o_move rfl) rfl ?_
            refine RunV.q (o_indexAddr (m := i) tk22 ts30 rfl rfl (by omega) (by omega)) rfl ?_
            refine RunV.q (o_load rfl tk30 ts30 rfl rfl (ints_getD A i (by omega))) rfl ?_
            refine RunV.q (o_fieldAddr rfl tk24 rfl ts22 rfl) rfl ?_
            refine RunV.q (o_load rfl tk22 ts22 rfl rfl rfl) rfl ?_
            refine RunV.q (o_move rfl) rfl ?_
            refine RunV.q (o_indexAddr (m := i) tk22 ts30 rfl rfl (by omega) (by omega)) rfl ?_
            refine RunV.q (o_load rfl tk30 ts30 rfl rfl (ints_getD B i (by omega))) rfl ?_
            refine RunV.q (o_neq rfl rfl) rfl ?_
            refine And.intro (by kernel_rfl) ?_
            refine AW.cond rfl (fun hc2 => ?_) (fun hc2 => ?_)
            · try simp only [decide_eq_true_eq, decide_eq_false_iff_not, bne_iff_ne, beq_iff_eq, bne_eq_false_iff_eq, beq_eq_false_iff_ne, ne_eq, Bool.not_eq_true', Bool.not_eq_false'] at hc2
              refine AW.seq ?_
              refine AW.region (by kernel_rfl) ?_
              refine RunF.q (o_assign rfl) rfl ?_
              refine AW.ret ?_
              exact FinQ.ret [] [] (ress_tmp rfl ress_nil) rfl .nil (.cons rfl rfl (by first | (apply PRN.flat; rfl) | (apply PRN.flat; simp; done) | (repeat' first | exact PRN.nil | apply PRN.cons | exact RN.self rfl | exact RN.top | exact RN.ptr rfl | exact RN.sl rfl | exact RN.slf rfl | apply RN.agg | apply RN.fn | exact RNs.nil | apply RNs.cons)) (.cons rfl rfl (by first | (apply PRN.flat; rfl) | (apply PRN.flat; simp; done) | (repeat' first | exact PRN.nil | apply PRN.cons | exact RN.self rfl | exact RN.top | exact RN.ptr rfl | exact RN.sl rfl | exact RN.slf rfl | apply RN.agg | apply RN.fn | exact RNs.nil | apply RNs.cons)) .nil)) (by rw [show sameM r c A r' c' B = false from decide_eq_false (fun h => hc2 (by rw [h.2.2]))]; exact (by repeat' first | exact RN.self rfl | exact RN.top | exact RN.ptr rfl | exact RN.sl rfl | exact RN.slf rfl | apply RN.agg | apply RN.tuple | apply RN.fn | exact RNs.nil | apply RNs.cons | (apply RNs.flat; simp; done)))
            · try simp only [decide_eq_true_eq, decide_eq_false_iff_not, bne_iff_ne, beq_iff_eq, bne_eq_false_iff_eq, beq_eq_false_iff_ne, ne_eq, Bool.not_eq_true', Bool.not_eq_false'] at hc2
              refine AW.skip ?_
              refine AW.region (by kernel_rfl) ?_
              refine RunF.q (o_move rfl) rfl ?_
              refine RunF.q (o_add rfl rfl (by first | exact i64_in _ (by omega) | rfl)) rfl ?_
              refine RunF.q (o_assign rfl) rfl ?_
              exact ⟨⟨i + 1, by omega, upto_succ hxs hc2⟩, Wk.same rfl (.cons rfl (.cons rfl (.cons rfl .nil))), by dsimp only; omega⟩
          · try simp only [decide_eq_true_eq, decide_eq_false_iff_not, bne_iff_ne, beq_iff_eq, bne_eq_false_iff_eq, beq_eq_false_iff_ne, ne_eq, Bool.not_eq_true', Bool.not_eq_false'] at hc1
            refine AW.exit ?_
            refine AW.seq ?_
            refine AW.region (by kernel_rfl) ?_
            refine RunF.q (o_assign rfl) rfl ?_
            refine AW.ret ?_
            exact FinQ.ret [] [] (ress_tmp rfl ress_nil) rfl .nil (.cons rfl rfl (by first | (apply PRN.flat; rfl) | (apply PRN.flat; simp; done) | (repeat' first | exact PRN.nil | apply PRN.cons | exact RN.self rfl | exact RN.top | exact RN.ptr rfl | exact RN.sl rfl | exact RN.slf rfl | apply RN.agg | apply RN.fn | exact RNs.nil | apply RNs.cons)) (.cons rfl rfl (by first | (apply PRN.flat; rfl) | (apply PRN.flat; simp; done) | (repeat' first | exact PRN.nil | apply PRN.cons | exact RN.self rfl | exact RN.top | exact RN.ptr rfl | exact RN.sl rfl | exact RN.slf rfl | apply RN.agg | apply RN.fn | exact RNs.nil | apply RNs.cons)) .nil)) (by rw [show sameM r c A r' c' B = true from decide_eq_true ⟨by omega, by omega, eq_of_getD (by omega) (fun j hj => hxs j (by omega))⟩]; exact (by repeat' first | exact RN.self rfl | exact RN.top | exact RN.ptr rfl | exact RN.sl rfl | exact RN.slf rfl | apply RN.agg | apply RN.tuple | apply RN.fn | exact RNs.nil | apply RNs.cons | (apply RNs.flat; simp; done)))
        · exact Wk.same rfl (.cons rfl (.cons rfl (.cons rfl .nil)))

set_option maxHeartbeats 1000000 in
theorem rsame_nil (r c r' c' : Int) : SoundC Try.prog 28 [.agg [.int .i64 r, .int .i64 c, .nilsl], .agg [.int .i64 r', .int .i64 c', .nilsl]] ⟨[], []⟩ { val := .bool (sameM r c [] r' c' []) } := by
  refine SoundC.of (N := 45) Try.func28 rfl rfl rfl rfl ?_
  refine AW.seq ?_
  refine AW.region (by kernel_rfl) ?_
  refine RunF.w (o_box (nm := 0) rfl rfl rfl) (by simp only [H.app, appO, patchAll, patch, List.map_cons, List.map_nil, List.append_nil, List.nil_append, List.cons_append, List.set_cons_zero, List.set_cons_succ, Option.map_some, Option.map_none, List.contains_cons, List.contains_nil, Nat.reduceAdd, Nat.reduceEqDiff, Nat.reduceBEq, Bool.or_false, Bool.false_eq_true, reduceIte, Nat.zero_add]; rfl) ?_
  refine RunF.w (o_box (nm := 1) rfl rfl rfl) (by simp only [H.app, appO, patchAll, patch, List.map_cons, List.map_nil, List.append_nil, List.nil_append, List.cons_append, List.set_cons_zero, List.set_cons_succ, Option.map_some, Option.map_none, List.contains_cons, List.contains_nil, Nat.reduceAdd, Nat.reduceEqDiff, Nat.reduceBEq, Bool.or_false, Bool.false_eq_true, reduceIte, Nat.zero_add]; rfl) ?_
  refine RunF.q (o_assign rfl) rfl ?_
  refine AW.seq ?_
  refine AW.seq ?_
  refine AW.region (by kernel_rfl) ?_
  refine RunF.q (o_fieldAddr rfl tk24 rfl ts3 rfl) rfl ?_
  refine RunF.q (o_load rfl tk3 ts3 rfl rfl rfl) rfl ?_
  refine RunF.q (o_fieldAddr rfl tk24 rfl ts3 rfl) rfl ?_
  refine RunF.q (o_load rfl tk3 ts3 rfl rfl rfl) rfl ?_
  refine RunF.q (o_neq rfl rfl) rfl ?_
  refine RunF.br (o_move rfl) rfl (fun hb1_5 => ?_) (fun hb1_5 => ?_)
  · try simp only [decide_eq_true_eq, decide_eq_false_iff_not, bne_iff_ne, beq_iff_eq, bne_eq_false_iff_eq, beq_eq_false_iff_ne, ne_eq, Bool.not_eq_true', Bool.not_eq_false'] at hb1_5
    refine RunF.gs (b := true) rfl rfl ?_
    refine RunF.gs (b := true) rfl rfl ?_
    refine RunF.gs (b := true) rfl rfl ?_
    refine RunF.gs (b := true) rfl rfl ?_
    refine RunF.gs (b := true) rfl rfl ?_
    refine RunF.q (o_pick_t rfl rfl) rfl ?_
    refine RunF.q (o_move rfl) rfl ?_
    refine RunF.gs (b := true) rfl rfl ?_
    refine RunF.gs (b := true) rfl rfl ?_
    refine RunF.gs (b := true) rfl rfl ?_
    refine RunF.gs (b := true) rfl rfl ?_
    refine RunF.gs (b := true) rfl rfl ?_
    refine RunF.gs (b := true) rfl rfl ?_
    refine RunF.gs (b := true) rfl rfl ?_
    refine RunF.q (o_pick_t rfl rfl) rfl ?_
    refine AW.cond rfl (fun hc0 => ?_) (fun hc0 => absurd hc0 (by simp))
    refine AW.seq ?_
    refine AW.region (by kernel_rfl) ?_
    refine RunF.q (o_assign rfl) rfl ?_
    refine AW.ret ?_
    first | (exact absurd rfl (by simp)) | exact FinQ.ret [] [] (ress_tmp rfl ress_nil) rfl .nil .nil (by rw [show sameM r c [] r' c' [] = false from decide_eq_false (by rintro ⟨h1, h2, h3⟩; first | omega | exact hc0 (by rw [h3]))]; exact (by repeat' first | exact RN.self rfl | exact RN.top | exact RN.ptr rfl | exact RN.sl rfl | exact RN.slf rfl | apply RN.agg | apply RN.tuple | apply RN.fn | exact RNs.nil | apply RNs.cons | (apply RNs.flat; simp; done)))
  · try simp only [decide_eq_true_eq, decide_eq_false_iff_not, bne_iff_ne, beq_iff_eq, bne_eq_false_iff_eq, beq_eq_false_iff_ne, ne_eq, Bool.not_eq_true', Bool.not_eq_false'] at hb1_5
    refine RunF.gq rfl (o_fieldAddr rfl tk24 rfl ts3 rfl) rfl ?_
    refine RunF.gq rfl (o_load rfl tk3 ts3 rfl rfl rfl) rfl ?_
    refine RunF.gq rfl (o_fieldAddr rfl tk24 rfl ts3 rfl) rfl ?_
    refine RunF.gq rfl (o_load rfl tk3 ts3 rfl rfl rfl) rfl ?_
    refine RunF.gq rfl (o_neq rfl rfl) rfl ?_
    refine RunF.q (o_pick_f rfl rfl) rfl ?_
    refine RunF.br (o_move rfl) rfl (fun hb1_12 => ?_) (fun hb1_12 => ?_)
    · try simp only [decide_eq_true_eq, decide_eq_false_iff_not, bne_iff_ne, beq_iff_eq, bne_eq_false_iff_eq, beq_eq_false_iff_ne, ne_eq, Bool.not_eq_true', Bool.not_eq_false'] at hb1_12
      refine RunF.gs (b := true) rfl rfl ?_
      refine RunF.gs (b := true) rfl rfl ?_
      refine RunF.gs (b := true) rfl rfl ?_
      refine RunF.gs (b := true) rfl rfl ?_
      refine RunF.gs (b := true) rfl rfl ?_
      refine RunF.gs (b := true) rfl rfl ?_
      refine RunF.gs (b := true) rfl rfl ?_
      refine RunF.q (o_pick_t rfl rfl) rfl ?_
      refine AW.cond rfl (fun hc0 => ?_) (fun hc0 => absurd hc0 (by simp))
      refine AW.seq ?_
      refine AW.region (by kernel_rfl) ?_
      refine RunF.q (o_assign rfl) rfl ?_
      refine AW.ret ?_
      first | (exact absurd rfl (by simp)) | exact FinQ.ret [] [] (ress_tmp rfl ress_nil) rfl .nil .nil (by rw [show sameM r c [] r' c' [] = false from decide_eq_false (by rintro ⟨h1, h2, h3⟩; first | omega | exact hc0 (by rw [h3]))]; exact (by repeat' first | exact RN.self rfl | exact RN.top | exact RN.ptr rfl | exact RN.sl rfl | exact RN.slf rfl | apply RN.agg | apply RN.tuple | apply RN.fn | exact RNs.nil | apply RNs.cons | (apply RNs.flat; simp; done)))
    · try simp only [decide_eq_true_eq, decide_eq_false_iff_not, bne_iff_ne, beq_iff_eq, bne_eq_false_iff_eq, beq_eq_false_iff_ne, ne_eq, Bool.not_eq_true', Bool.not_eq_false'] at hb1_12
      refine RunF.gq rfl (o_fieldAddr rfl tk24 rfl ts22 rfl) rfl ?_
      refine RunF.gq rfl (o_load rfl tk22 ts22 rfl rfl rfl) rfl ?_
      first | refine RunF.gq rfl (o_len tk22 rfl) rfl ?_ | refine RunF.gq rfl (o_len_nil tk22 rfl) rfl ?_
      refine RunF.gq rfl (o_fieldAddr rfl tk24 rfl ts22 rfl) rfl ?_
      refine RunF.gq rfl (o_load rfl tk22 ts22 rfl rfl rfl) rfl ?_
      first | refine RunF.gq rfl (o_len tk22 rfl) rfl ?_ | refine RunF.gq rfl (o_len_nil tk22 rfl) rfl ?_
      refine RunF.gq rfl (o_neq rfl rfl) rfl ?_
      refine RunF.q (o_pick_f rfl rfl) rfl ?_
      refine AW.cond rfl (fun hc0 => absurd hc0 (by simp)) (fun hc0 => ?_)
      refine AW.skip ?_
      refine AW.seq ?_
      refine AW.seq ?_
      refine AW.region (by kernel_rfl) ?_
      refine RunF.q (o_assign rfl) rfl ?_
      refine AW.block ?_
      refine AW.loop (α := Unit) (fun x : Unit => ([(2, .ptr (.o 0) 0), (3, .ptr (.o 1) 0), (5, .int .i64 0)], ⟨[], [some [.int .i64 r, .int .i64 c, .nilsl], some [.int .i64 r', .int .i64 c', .nilsl]]⟩)) (fun x => 0) (fun x => ?_) () ?_
      · skip
        refine AW.seq ?_
        refine AW.seq ?_
        refine AW.region (by kernel_rfl) ?_
        refine RunF.q (o_move rfl) rfl ?_
        refine RunF.q (o_fieldAddr rfl tk24 rfl ts22 rfl) rfl ?_
        refine RunF.q (o_load rfl tk22 ts22 rfl rfl rfl) rfl ?_
        first | refine RunF.q (o_len tk22 rfl) rfl ?_ | refine RunF.q (o_len_nil tk22 rfl) rfl ?_
        refine RunF.q (o_lss rfl rfl) rfl ?_
        refine AW.cond rfl (fun hc1 => absurd hc1 (by simp)) (fun hc1 => ?_)
        refine AW.exit ?_
        refine AW.seq ?_
        refine AW.region (by kernel_rfl) ?_
        refine RunF.q (o_assign rfl) rfl ?_
        refine AW.ret ?_
        exact FinQ.ret [] [] (ress_tmp rfl ress_nil) rfl .nil .nil (by rw [show sameM r c [] r' c' [] = true from decide_eq_true ⟨by omega, by omega, rfl⟩]; exact (by repeat' first | exact RN.self rfl | exact RN.top | exact RN.ptr rfl | exact RN.sl rfl | exact RN.slf rfl | apply RN.agg | apply RN.tuple | apply RN.fn | exact RNs.nil | apply RNs.cons | (apply RNs.flat; simp; done)))
      · exact Wk.same rfl (.cons rfl (.cons rfl (.cons rfl .nil)))

end Go.Proofs.Ytnkijhpikeokfaa
