/- Diagonals, by their contracts. -/
import Derived.Test.YtnkijhpikeokfaaF9
set_option linter.unusedSimpArgs false
set_option linter.unusedVariables false
namespace Go.Proofs.Ytnkijhpikeokfaa
open Go Go.Sym Go.IntWalk

def diagL (L : List Int) : List Int := tab (fun i k => if i = k then L.getD i 0 else 0) L.length (L.length * L.length)
theorem diagL_length (L : List Int) : (diagL L).length = L.length * L.length := by simp [diagL, tab_length]

set_option maxHeartbeats 1000000 in
theorem diag1_ok (L : List Int) (f : Bool) (h0 : 0 < L.length) (hn : L.length ≤ 8) (i k : Nat) (hi : i < L.length) : SoundC Try.prog 84 [.int .i64 i, .int .i64 k, .ptr (.o 0) 0] ⟨[ints L], [some [.sl (.r 0) 0 L.length 1 f]]⟩ { val := .tuple [.int .i64 (if i = k then L.getD i 0 else 0), .bool false] } := by
  refine SoundC.of (N := 14) Try.func84 rfl rfl rfl rfl ?_
  refine AW.seq ?_
  refine AW.region (by kernel_rfl) ?_
  refine RunF.q (o_assign rfl) rfl ?_
  refine RunF.q (o_assign rfl) rfl ?_
  refine AW.seq ?_
  refine AW.seq ?_
  refine AW.region (by kernel_rfl) ?_
  refine RunF.q (o_move rfl) rfl ?_
  refine RunF.q (o_move rfl) rfl ?_
  refine RunF.q (o_eql rfl rfl) rfl ?_
  refine AW.cond rfl (fun hc0 => ?_) (fun hc0 => ?_)
  · try simp only [decide_eq_true_eq, decide_eq_false_iff_not, bne_iff_ne, beq_iff_eq, bne_eq_false_iff_eq, beq_eq_false_iff_ne, ne_eq, Bool.not_eq_true', Bool.not_eq_false'] at hc0
    refine AW.seq ?_
    refine AW.region (by kernel_rfl) ?_
    refine RunF.q (o_load rfl tk22 ts22 rfl rfl rfl) rfl ?_
    refine RunF.q (o_move rfl) rfl ?_
    refine RunF.q (o_indexAddr (m := i) tk22 ts30 rfl rfl (by omega) (by omega)) rfl ?_
    refine RunF.q (o_load rfl tk30 ts30 rfl rfl (ints_getD L i (by omega))) rfl ?_
    refine RunF.q (o_assign rfl) rfl ?_
    refine RunF.q (o_assign rfl) rfl ?_
    refine AW.ret ?_
    exact FinQ.ret [] [] (ress_tmp rfl (ress_tmp rfl ress_nil)) rfl (.some rfl rfl (by first | (apply PRN.flat; rfl) | (apply PRN.flat; simp; done) | (repeat' first | exact PRN.nil | apply PRN.cons | exact RN.self rfl | exact RN.top | exact RN.ptr rfl | exact RN.sl rfl | exact RN.slf rfl | apply RN.agg | apply RN.fn | exact RNs.nil | apply RNs.cons)) .nil) (.cons rfl rfl (by first | (apply PRN.flat; rfl) | (apply PRN.flat; simp; done) | (repeat' first | exact PRN.nil | apply PRN.cons | exact RN.self rfl | exact RN.top | exact RN.ptr rfl | exact RN.sl rfl | exact RN.slf rfl | apply RN.agg | apply RN.fn | exact RNs.nil | apply RNs.cons)) .nil) (by rw [if_pos (show i = k by omega)]; exact (by repeat' first | exact RN.self rfl | exact RN.top | exact RN.ptr rfl | exact RN.sl rfl | exact RN.slf rfl | apply RN.agg | apply RN.tuple | apply RN.fn | exact RNs.nil | apply RNs.cons | (apply RNs.flat; simp; done)))
  · try simp only [decide_eq_true_eq, decide_eq_false_iff_not, bne_iff_ne, beq_iff_eq, bne_eq_false_iff_eq, beq_eq_false_iff_ne, ne_eq, Bool.not_eq_true', Bool.not_eq_false'] at hc0
    refine AW.skip ?_
    refine AW.seq ?_
    refine AW.region (by kernel_rfl) ?_
    refine RunF.q (o_assign rfl) rfl ?_
    refine RunF.q (o_assign rfl) rfl ?_
    refine AW.ret ?_
    exact FinQ.ret [] [] (ress_tmp rfl (ress_tmp rfl ress_nil)) rfl (.some rfl rfl (by first | (apply PRN.flat; rfl) | (apply PRN.flat; simp; done) | (repeat' first | exact PRN.nil | apply PRN.cons | exact RN.self rfl | exact RN.top | exact RN.ptr rfl | exact RN.sl rfl | exact RN.slf rfl | apply RN.agg | apply RN.fn | exact RNs.nil | apply RNs.cons)) .nil) (.cons rfl rfl (by first | (apply PRN.flat; rfl) | (apply PRN.flat; simp; done) | (repeat' first | exact PRN.nil | apply PRN.cons | exact RN.self rfl | exact RN.top | exact RN.ptr rfl | exact RN.sl rfl | exact RN.slf rfl | apply RN.agg | apply RN.fn | exact RNs.nil | apply RNs.cons)) .nil) (by rw [if_neg (show ¬ i = k by omega)]; exact (by repeat' first | exact RN.self rfl | exact RN.top | exact RN.ptr rfl | exact RN.sl rfl | exact RN.slf rfl | apply RN.agg | apply RN.tuple | apply RN.fn | exact RNs.nil | apply RNs.cons | (apply RNs.flat; simp; done)))

set_option maxHeartbeats 1000000 in
theorem madeD_ok (L : List Int) (f : Bool) (h0 : 0 < L.length) (hn : L.length ≤ 8) : SoundC Try.prog 76 [.agg [.int .i64 L.length, .int .i64 L.length], .func 84 [] [.ptr (.o 0) 0]] ⟨[ints L], [some [.sl (.r 0) 0 L.length 1 f]]⟩ { val := .tuple [.agg [.int .i64 L.length, .int .i64 L.length, .sl (.o 1) 0 (tab (fun i k => if i = k then L.getD i 0 else 0) L.length (L.length * L.length)).length 1 false], .bool (anyT (fun _ _ => false) L.length (L.length * L.length))], newo := [ints (tab (fun i k => if i = k then L.getD i 0 else 0) L.length (L.length * L.length))] } := by
  have hR8 := hn
  have hC8 := hn
  have hR := h0
  have hC := h0
  refine SoundC.of (N := 48) Try.func76 rfl rfl rfl rfl ?_
  refine AW.seq ?_
  refine AW.region (by kernel_rfl) ?_
  refine RunF.w (o_box (nm := 1) rfl rfl rfl) rfl ?_
  refine RunF.w (o_alloc (nm := 2) tz24 rfl) rfl ?_
  refine RunF.q (o_assign rfl) rfl ?_
  refine AW.seq ?_
  refine AW.region (by kernel_rfl) ?_
  refine RunF.q (o_fieldAddr rfl tk132 rfl ts3 rfl) rfl ?_
  refine RunF.q (o_load rfl tk3 ts3 rfl rfl rfl) rfl ?_
  refine RunF.q (o_fieldAddr rfl tk132 rfl ts3 rfl) rfl ?_
  refine RunF.q (o_load rfl tk3 ts3 rfl rfl rfl) rfl ?_
  refine RunF.q (o_build tk24 tz24 pl24 rfl rfl) rfl ?_
  refine RunF.w (o_alloc (nm := 3) tz24 rfl) rfl ?_
  refine RunF.wn (o_store rfl rfl rfl ts24 rfl rfl) rfl ?_
  refine AW.seq ?_
  refine AW.region (by kernel_rfl) ?_
  refine RunF.q (o_assign rfl) rfl ?_
  refine AW.seq ?_
  refine AW.seq ?_
  refine AW.region (by kernel_rfl) ?_
  refine RunF.q (o_fieldAddr rfl tk132 rfl ts3 rfl) rfl ?_
  refine RunF.q (o_load rfl tk3 ts3 rfl rfl rfl) rfl ?_
  refine RunF.q (o_move rfl) rfl ?_
  refine AW.block ?_
  refine AW.loop (α := {x : Nat × List Int × Bool // x.1 ≤ L.length ∧ x.2.1 = tab (fun i k => if i = k then L.getD i 0 else 0) L.length (x.1 * L.length) ∧ x.2.2 = anyT (fun _ _ => false) L.length (x.1 * L.length)}) (fun x : {x : Nat × List Int × Bool // x.1 ≤ L.length ∧ x.2.1 = tab (fun i k => if i = k then L.getD i 0 else 0) L.length (x.1 * L.length) ∧ x.2.2 = anyT (fun _ _ => false) L.length (x.1 * L.length)} => ([(1, .func 84 [] [.ptr (.o 0) 0]), (2, .ptr (.o 1) 0), (4, .ptr (.o 2) 0), (6, .ptr (.o 3) 0), (7, .bool x.1.2.2), (18, .int .i64 L.length), (19, .int .i64 x.1.1)], ⟨[ints L], [some [.sl (.r 0) 0 L.length 1 f], some [.int .i64 L.length, .int .i64 L.length], some [.int .i64 0, .int .i64 0, .nilsl], some [.int .i64 L.length, .int .i64 L.length, slOf 4 x.1.2.1], rowOf x.1.2.1]⟩)) (fun x => L.length - x.1.1) (fun x => ?_) ⟨(0, [], false), by simp, by simp [tab], by simp [anyT]⟩ ?_
  · obtain ⟨⟨i, L0, z0⟩, hx1, hx2, hx3⟩ := x
    dsimp only at hx1 hx2 hx3
    dsimp only
    refine AW.seq ?_
    refine AW.region (by kernel_rfl) ?_
    refine RunF.q (o_lss rfl rfl) rfl ?_
    refine AW.seq ?_
    refine AW.cond rfl (fun hc0 => ?_) (fun hc0 => ?_)
    · try simp only [decide_eq_true_eq, decide_eq_false_iff_not, bne_iff_ne, beq_iff_eq, bne_eq_false_iff_eq, beq_eq_false_iff_ne, ne_eq, Bool.not_eq_true', Bool.not_eq_false'] at hc0
      have hi : i < L.length := by omega
      refine AW.skip ?_
      refine AW.seq ?_
      refine AW.block ?_
      refine AW.seq ?_
      refine AW.region (by kernel_rfl) ?_
      refine RunF.q (o_move rfl) rfl ?_
      refine RunF.q (o_assign rfl) rfl ?_
      refine AW.seq ?_
      refine AW.region (by kernel_rfl) ?_
      refine RunF.q (o_fieldAddr rfl tk132 rfl ts3 rfl) rfl ?_
      refine RunF.q (o_load rfl tk3 ts3 rfl rfl rfl) rfl ?_
      refine RunF.q (o_move rfl) rfl ?_
      refine AW.block ?_
      refine AW.loop (α := {x : Nat × List Int × Bool // x.1 ≤ L.length ∧ x.2.1 = tab (fun i k => if i = k then L.getD i 0 else 0) L.length (i * L.length + x.1) ∧ x.2.2 = anyT (fun _ _ => false) L.length (i * L.length + x.1)}) (fun x : {x : Nat × List Int × Bool // x.1 ≤ L.length ∧ x.2.1 = tab (fun i k => if i = k then L.getD i 0 else 0) L.length (i * L.length + x.1) ∧ x.2.2 = anyT (fun _ _ => false) L.length (i * L.length + x.1)} => ([(1, .func 84 [] [.ptr (.o 0) 0]), (2, .ptr (.o 1) 0), (4, .ptr (.o 2) 0), (6, .ptr (.o 3) 0), (7, .bool x.1.2.2), (8, .int .i64 i), (18, .int .i64 L.length), (19, .int .i64 i), (23, .int .i64 L.length), (24, .int .i64 x.1.1)], ⟨[ints L], [some [.sl (.r 0) 0 L.length 1 f], some [.int .i64 L.length, .int .i64 L.length], some [.int .i64 0, .int .i64 0, .nilsl], some [.int .i64 L.length, .int .i64 L.length, slOf 4 x.1.2.1], rowOf x.1.2.1]⟩)) (fun x => L.length - x.1.1) (fun x => ?_) ⟨(0, L0, z0), by omega, by simpa using hx2, by simpa using hx3⟩ ?_
      · obtain ⟨⟨k, y1, y2⟩, hy1, hy2, hy3⟩ := x
        dsimp only at hy1 hy2 hy3
        dsimp only
        refine AW.seq ?_
        refine AW.region (by kernel_rfl) ?_
        refine RunF.q (o_lss rfl rfl) rfl ?_
        refine AW.seq ?_
        refine AW.cond rfl (fun hc1 => ?_) (fun hc1 => ?_)
        · try simp only [decide_eq_true_eq, decide_eq_false_iff_not, bne_iff_ne, beq_iff_eq, bne_eq_false_iff_eq, beq_eq_false_iff_ne, ne_eq, Bool.not_eq_true', Bool.not_eq_false'] at hc1
          have hk : k < L.length := by omega
          have hlen : y1.length ≤ 64 := by rw [hy2, tab_length]; have := idx_lt hi hk; have := small_mul hR8 hC8; omega
          rcases y1 with _ | ⟨a, l⟩
          · refine AW.skip ?_
            refine AW.seq ?_
            refine AW.block ?_
            refine AW.seq ?_
            refine AW.region (by kernel_rfl) ?_
            refine RunF.q (o_move rfl) rfl ?_
            refine RunF.q (o_assign rfl) rfl ?_
            refine AW.seq ?_
            refine AW.region (by kernel_rfl) ?_
            refine RunF.q (o_move rfl) rfl ?_
            refine RunF.q (o_move rfl) rfl ?_
            refine RunF.q (o_move rfl) rfl ?_
            refine RunF.q (o_call (no := 5) (nr := 1) rfl rfl rfl (by (repeat' first | exact cl_nil | exact cL_flat rfl | exact cL_flat (ints_flat _) | apply cL_vs | apply cl_cons | exact cv_flat rfl | apply cv_agg | apply cv_ptr_o | apply cv_sl_o rfl | apply cv_func | exact cO_old rfl | (apply cO_new; (focus rfl); (focus rfl)) | (apply cv_sl_r; (focus rfl); (focus rfl); (focus (simp; done)); (focus (first | exact ints_all _ | rfl))) | (apply cv_ptr_r rfl ?_ rfl rfl) | (simp only [List.nil_append, List.cons_append, List.length_cons, List.length_nil, Nat.zero_add, Nat.reduceAdd, List.set_cons_zero, List.set_cons_succ]; rfl) | rfl)) (by rfl) (by exact diag1_ok L f h0 hn i k hi) (by rfl) rfl rfl (by first | exact reV_bare _ _ rfl | (simp only [reV, reVs, List.all_cons, List.all_nil, AV.flat, Bool.and_true, Bool.true_and, Bool.false_and, Bool.and_false, Bool.false_eq_true, reduceIte, CS.de, List.getElem?_cons_zero, List.getElem?_cons_succ, List.getElem?_nil, List.length_cons, List.length_nil, Nat.reduceSub, Nat.reduceAdd, Nat.zero_add, Nat.add_zero, Nat.sub_self]; rfl)) rfl) (by rfl) ?_
            refine RunF.q (o_move rfl) rfl ?_
            refine RunF.q (o_extract rfl rfl) rfl ?_
            refine RunF.q (o_extract rfl rfl) rfl ?_
            refine RunF.q (o_assign rfl) rfl ?_
            refine RunF.q (o_assign rfl) rfl ?_
            refine AW.seq ?_
            refine AW.region (by kernel_rfl) ?_
            refine RunF.q (o_fieldAddr rfl tk24 rfl ts22 rfl) rfl ?_
            refine RunF.q (o_load rfl tk22 ts22 rfl rfl rfl) rfl ?_
            refine RunF.q (o_move rfl) rfl ?_
            refine RunF.w (o_buildSlice (nm := 5) tk22 ts30 tz30 rfl rfl rfl rfl) rfl ?_
            refine RunF.w (o_append_nil (nm := 6) tk22 tk22 ts30 tb30 tz30 rfl rfl rfl rfl ⟨by decide, Nat.le_refl 1, by decide, by decide⟩ rfl rfl rfl) rfl ?_
            refine RunF.q (o_fieldAddr rfl tk24 rfl ts22 rfl) rfl ?_
            refine RunF.wn (o_store rfl rfl rfl ts22 rfl rfl) rfl ?_
            refine AW.region (by kernel_rfl) ?_
            refine RunF.q (o_move rfl) rfl ?_
            refine RunF.q (o_move rfl) rfl ?_
            refine RunF.gm rfl (o_move rfl) ?_
            first | refine RunF.q (o_pick_t rfl rfl) rfl ?_ | refine RunF.q (o_pick_f rfl rfl) rfl ?_ | refine RunF.q (o_pick_b rfl rfl rfl) rfl ?_ | refine RunF.q (o_pick_or rfl rfl rfl) rfl ?_ | refine RunF.q (o_pick_and rfl rfl rfl) rfl ?_
            refine RunF.q (o_assign rfl) rfl ?_
            refine AW.region (by kernel_rfl) ?_
            refine RunF.q (o_add rfl rfl (by first | exact i64_in _ (by omega) | rfl)) rfl ?_
            refine RunF.q (o_move rfl) rfl ?_
            exact ⟨⟨(k + 1, ([] : List Int) ++ [(fun i k => if i = k then L.getD i 0 else 0) i k], y2 || (fun _ _ => false) i k), by dsimp only; omega, by dsimp only; rw [← Nat.add_assoc, tab_succ _ hk, ← hy2], by dsimp only; rw [← Nat.add_assoc, anyT_succ _ hk, ← hy3]⟩, Wk.of [1, 2, 3, 6] [] rfl (.some rfl rfl (by first | (apply PRN.flat; rfl) | (apply PRN.flat; simp; done) | (repeat' first | exact PRN.nil | apply PRN.cons | exact RN.self rfl | exact RN.top | exact RN.ptr rfl | exact RN.sl rfl | exact RN.slf rfl | apply RN.agg | apply RN.fn | exact RNs.nil | apply RNs.cons)) (.some rfl rfl (by first | (apply PRN.flat; rfl) | (apply PRN.flat; simp; done) | (repeat' first | exact PRN.nil | apply PRN.cons | exact RN.self rfl | exact RN.top | exact RN.ptr rfl | exact RN.sl rfl | exact RN.slf rfl | apply RN.agg | apply RN.fn | exact RNs.nil | apply RNs.cons)) (.some rfl rfl (by first | (apply PRN.flat; rfl) | (apply PRN.flat; simp; done) | (repeat' first | exact PRN.nil | apply PRN.cons | exact RN.self rfl | exact RN.top | exact RN.ptr rfl | exact RN.sl rfl | exact RN.slf rfl | apply RN.agg | apply RN.fn | exact RNs.nil | apply RNs.cons)) (.some rfl rfl (by first | (apply PRN.flat; rfl) | (apply PRN.flat; simp; done) | (repeat' first | exact PRN.nil | apply PRN.cons | exact RN.self rfl | exact RN.top | exact RN.ptr rfl | exact RN.sl rfl | exact RN.slf rfl | apply RN.agg | apply RN.fn | exact RNs.nil | apply RNs.cons)) (.some rfl rfl (by first | (apply PRN.flat; rfl) | (apply PRN.flat; simp; done) | (repeat' first | exact PRN.nil | apply PRN.cons | exact RN.self rfl | exact RN.top | exact RN.ptr rfl | exact RN.sl rfl | exact RN.slf rfl | apply RN.agg | apply RN.fn | exact RNs.nil | apply RNs.cons)) .nil))))) (.cons rfl rfl (by first | (apply PRN.flat; rfl) | (apply PRN.flat; simp; done) | (repeat' first | exact PRN.nil | apply PRN.cons | exact RN.self rfl | exact RN.top | exact RN.ptr rfl | exact RN.sl rfl | exact RN.slf rfl | apply RN.agg | apply RN.fn | exact RNs.nil | apply RNs.cons)) .nil) (.cons rfl (.fn .nil (.cons (.ptr rfl) .nil)) (.cons rfl (.ptr rfl) (.cons rfl (.ptr rfl) (.cons rfl (.ptr rfl) (.cons rfl (.self rfl) (.cons rfl (.self rfl) (.cons rfl (.self rfl) (.cons rfl (.self rfl) (.cons rfl (.self rfl) (.cons rfl (.self rfl) .nil)))))))))), by dsimp only; omega⟩
          · refine AW.skip ?_
            refine AW.seq ?_
            refine AW.block ?_
            refine AW.seq ?_
            refine AW.region (by kernel_rfl) ?_
            refine RunF.q (o_move rfl) rfl ?_
            refine RunF.q (o_assign rfl) rfl ?_
            refine AW.seq ?_
            refine AW.region (by kernel_rfl) ?_
            refine RunF.q (o_move rfl) rfl ?_
            refine RunF.q (o_move rfl) rfl ?_
            refine RunF.q (o_move rfl) rfl ?_
            refine RunF.q (o_call (no := 5) (nr := 1) rfl rfl rfl (by (repeat' first | exact cl_nil | exact cL_flat rfl | exact cL_flat (ints_flat _) | apply cL_vs | apply cl_cons | exact cv_flat rfl | apply cv_agg | apply cv_ptr_o | apply cv_sl_o rfl | apply cv_func | exact cO_old rfl | (apply cO_new; (focus rfl); (focus rfl)) | (apply cv_sl_r; (focus rfl); (focus rfl); (focus (simp; done)); (focus (first | exact ints_all _ | rfl))) | (apply cv_ptr_r rfl ?_ rfl rfl) | (simp only [List.nil_append, List.cons_append, List.length_cons, List.length_nil, Nat.zero_add, Nat.reduceAdd, List.set_cons_zero, List.set_cons_succ]; rfl) | rfl)) (by rfl) (by exact diag1_ok L f h0 hn i k hi) (by rfl) rfl rfl (by first | exact reV_bare _ _ rfl | (simp only [reV, reVs, List.all_cons, List.all_nil, AV.flat, Bool.and_true, Bool.true_and, Bool.false_and, Bool.and_false, Bool.false_eq_true, reduceIte, CS.de, List.getElem?_cons_zero, List.getElem?_cons_succ, List.getElem?_nil, List.length_cons, List.length_nil, Nat.reduceSub, Nat.reduceAdd, Nat.zero_add, Nat.add_zero, Nat.sub_self]; rfl)) rfl) (by rfl) ?_
            refine RunF.q (o_move rfl) rfl ?_
            refine RunF.q (o_extract rfl rfl) rfl ?_
            refine RunF.q (o_extract rfl rfl) rfl ?_
            refine RunF.q (o_assign rfl) rfl ?_
            refine RunF.q (o_assign rfl) rfl ?_
            refine AW.seq ?_
            refine AW.region (by kernel_rfl) ?_
            refine RunF.q (o_fieldAddr rfl tk24 rfl ts22 rfl) rfl ?_
            refine RunF.q (o_load rfl tk22 ts22 rfl rfl rfl) rfl ?_
            refine RunF.q (o_move rfl) rfl ?_
            refine RunF.w (o_buildSlice (nm := 5) tk22 ts30 tz30 rfl rfl rfl rfl) rfl ?_
            refine RunF.w (o_append_own (nm := 6) (mn := ((a :: l) ++ [(fun i k => if i = k then L.getD i 0 else 0) i k]).length) tk22 tk22 ts30 tb30 tz30 rfl rfl rfl rfl rfl ⟨by decide, Nat.le_refl 1, by simp, by simp only [List.length_cons] at hlen ⊢; omega, by simp only [List.length_cons] at hlen ⊢; omega⟩ rfl (ints_all (a :: l)) rfl rfl (by simp)) rfl ?_
            refine RunF.q (o_fieldAddr rfl tk24 rfl ts22 rfl) rfl ?_
            refine RunF.wn (o_store rfl rfl rfl ts22 rfl rfl) rfl ?_
            refine AW.region (by kernel_rfl) ?_
            refine RunF.q (o_move rfl) rfl ?_
            refine RunF.q (o_move rfl) rfl ?_
            refine RunF.gm rfl (o_move rfl) ?_
            first | refine RunF.q (o_pick_t rfl rfl) rfl ?_ | refine RunF.q (o_pick_f rfl rfl) rfl ?_ | refine RunF.q (o_pick_b rfl rfl rfl) rfl ?_ | refine RunF.q (o_pick_or rfl rfl rfl) rfl ?_ | refine RunF.q (o_pick_and rfl rfl rfl) rfl ?_
            refine RunF.q (o_assign rfl) rfl ?_
            refine AW.region (by kernel_rfl) ?_
            refine RunF.q (o_add rfl rfl (by first | exact i64_in _ (by omega) | rfl)) rfl ?_
            refine RunF.q (o_move rfl) rfl ?_
            exact ⟨⟨(k + 1, (a :: l) ++ [(fun i k => if i = k then L.getD i 0 else 0) i k], y2 || (fun _ _ => false) i k), by dsimp only; omega, by dsimp only; rw [← Nat.add_assoc, tab_succ _ hk, ← hy2], by dsimp only; rw [← Nat.add_assoc, anyT_succ _ hk, ← hy3]⟩, Wk.of [1, 2, 3, 6] [] rfl (.some rfl rfl (by first | (apply PRN.flat; rfl) | (apply PRN.flat; simp; done) | (repeat' first | exact PRN.nil | apply PRN.cons | exact RN.self rfl | exact RN.top | exact RN.ptr rfl | exact RN.sl rfl | exact RN.slf rfl | apply RN.agg | apply RN.fn | exact RNs.nil | apply RNs.cons)) (.some rfl rfl (by first | (apply PRN.flat; rfl) | (apply PRN.flat; simp; done) | (repeat' first | exact PRN.nil | apply PRN.cons | exact RN.self rfl | exact RN.top | exact RN.ptr rfl | exact RN.sl rfl | exact RN.slf rfl | apply RN.agg | apply RN.fn | exact RNs.nil | apply RNs.cons)) (.some rfl rfl (by first | (apply PRN.flat; rfl) | (apply PRN.flat; simp; done) | (repeat' first | exact PRN.nil | apply PRN.cons | exact RN.self rfl | exact RN.top | exact RN.ptr rfl | exact RN.sl rfl | exact RN.slf rfl | apply RN.agg | apply RN.fn | exact RNs.nil | apply RNs.cons)) (.some rfl rfl (by first | (apply PRN.flat; rfl) | (apply PRN.flat; simp; done) | (repeat' first | exact PRN.nil | apply PRN.cons | exact RN.self rfl | exact RN.top | exact RN.ptr rfl | exact RN.sl rfl | exact RN.slf rfl | apply RN.agg | apply RN.fn | exact RNs.nil | apply RNs.cons)) (.some rfl rfl (PRN.snoc (a :: l) ((fun i k => if i = k then L.getD i 0 else 0) i k)) .nil))))) (.cons rfl rfl (by first | (apply PRN.flat; rfl) | (apply PRN.flat; simp; done) | (repeat' first | exact PRN.nil | apply PRN.cons | exact RN.self rfl | exact RN.top | exact RN.ptr rfl | exact RN.sl rfl | exact RN.slf rfl | apply RN.agg | apply RN.fn | exact RNs.nil | apply RNs.cons)) .nil) (.cons rfl (.fn .nil (.cons (.ptr rfl) .nil)) (.cons rfl (.ptr rfl) (.cons rfl (.ptr rfl) (.cons rfl (.ptr rfl) (.cons rfl (.self rfl) (.cons rfl (.self rfl) (.cons rfl (.self rfl) (.cons rfl (.self rfl) (.cons rfl (.self rfl) (.cons rfl (.self rfl) .nil)))))))))), by dsimp only; omega⟩
        · try simp only [decide_eq_true_eq, decide_eq_false_iff_not, bne_iff_ne, beq_iff_eq, bne_eq_false_iff_eq, beq_eq_false_iff_ne, ne_eq, Bool.not_eq_true', Bool.not_eq_false'] at hc1
          refine AW.exit ?_
          refine AW.region (by kernel_rfl) ?_
          refine RunF.q (o_add rfl rfl (by first | exact i64_in _ (by omega) | rfl)) rfl ?_
          refine RunF.q (o_move rfl) rfl ?_
          exact ⟨⟨(i + 1, y1, y2), by dsimp only; omega, by dsimp only; rw [hy2, Nat.succ_mul]; congr 1; omega, by dsimp only; rw [hy3, Nat.succ_mul]; congr 1; omega⟩, Wk.same rfl (.cons rfl (.cons rfl (.cons rfl (.cons rfl (.cons rfl (.cons rfl (.cons rfl .nil))))))), by dsimp only; omega⟩
      · exact Wk.same rfl (.cons rfl (.cons rfl (.cons rfl (.cons rfl (.cons rfl (.cons rfl (.cons rfl (.cons rfl (.cons rfl (.cons rfl .nil))))))))))
    · try simp only [decide_eq_true_eq, decide_eq_false_iff_not, bne_iff_ne, beq_iff_eq, bne_eq_false_iff_eq, beq_eq_false_iff_ne, ne_eq, Bool.not_eq_true', Bool.not_eq_false'] at hc0
      have ei : i = L.length := by omega
      subst ei
      obtain ⟨a, l, rfl⟩ : ∃ a l, L0 = a :: l := by
        cases L0 with
        | nil => have := congrArg List.length hx2; rw [tab_length] at this; have := Nat.mul_pos hR hC; simp at *; omega
        | cons a l => exact ⟨a, l, rfl⟩
      refine AW.exit ?_
      refine AW.seq ?_
      refine AW.region (by kernel_rfl) ?_
      refine RunF.q (o_load_agg rfl tk24 ts24 rfl rfl rfl rfl) rfl ?_
      refine RunF.q (o_move rfl) rfl ?_
      refine RunF.wn (o_store rfl rfl rfl ts24 rfl rfl) rfl ?_
      refine RunF.q (o_assign rfl) rfl ?_
      refine AW.ret ?_
      apply FinQ.ret [4] []
      · exact (ress_agg rfl tk24 ts24 rfl rfl rfl (ress_tmp rfl ress_nil))
      · rfl
      · exact (.some rfl rfl (by first | (apply PRN.flat; rfl) | (apply PRN.flat; simp; done) | (repeat' first | exact PRN.nil | apply PRN.cons | exact RN.self rfl | exact RN.top | exact RN.ptr rfl | exact RN.sl rfl | exact RN.slf rfl | apply RN.agg | apply RN.fn | exact RNs.nil | apply RNs.cons)) (.some rfl rfl (by rw [← hx2]; exact PRN.flat (ints_flat _)) .nil))
      · exact (.cons rfl rfl (by first | (apply PRN.flat; rfl) | (apply PRN.flat; simp; done) | (repeat' first | exact PRN.nil | apply PRN.cons | exact RN.self rfl | exact RN.top | exact RN.ptr rfl | exact RN.sl rfl | exact RN.slf rfl | apply RN.agg | apply RN.fn | exact RNs.nil | apply RNs.cons)) .nil)
      · rw [← hx2, ← hx3]; exact (by repeat' first | exact RN.self rfl | exact RN.top | exact RN.ptr rfl | exact RN.sl rfl | exact RN.slf rfl | apply RN.agg | apply RN.tuple | apply RN.fn | exact RNs.nil | apply RNs.cons | (apply RNs.flat; simp; done))
  · exact Wk.of [1, 2, 3, 999] [] rfl (.some rfl rfl (by first | (apply PRN.flat; rfl) | (apply PRN.flat; simp; done) | (repeat' first | exact PRN.nil | apply PRN.cons | exact RN.self rfl | exact RN.top | exact RN.ptr rfl | exact RN.sl rfl | exact RN.slf rfl | apply RN.agg | apply RN.fn | exact RNs.nil | apply RNs.cons)) (.some rfl rfl (by first | (apply PRN.flat; rfl) | (apply PRN.flat; simp; done) | (repeat' first | exact PRN.nil | apply PRN.cons | exact RN.self rfl | exact RN.top | exact RN.ptr rfl | exact RN.sl rfl | exact RN.slf rfl | apply RN.agg | apply RN.fn | exact RNs.nil | apply RNs.cons)) (.some rfl rfl (by first | (apply PRN.flat; rfl) | (apply PRN.flat; simp; done) | (repeat' first | exact PRN.nil | apply PRN.cons | exact RN.self rfl | exact RN.top | exact RN.ptr rfl | exact RN.sl rfl | exact RN.slf rfl | apply RN.agg | apply RN.fn | exact RNs.nil | apply RNs.cons)) (.some rfl rfl (by first | (apply PRN.flat; rfl) | (apply PRN.flat; simp; done) | (repeat' first | exact PRN.nil | apply PRN.cons | exact RN.self rfl | exact RN.top | exact RN.ptr rfl | exact RN.sl rfl | exact RN.slf rfl | apply RN.agg | apply RN.fn | exact RNs.nil | apply RNs.cons)) (.none .nil))))) (.cons rfl rfl (by first | (apply PRN.flat; rfl) | (apply PRN.flat; simp; done) | (repeat' first | exact PRN.nil | apply PRN.cons | exact RN.self rfl | exact RN.top | exact RN.ptr rfl | exact RN.sl rfl | exact RN.slf rfl | apply RN.agg | apply RN.fn | exact RNs.nil | apply RNs.cons)) .nil) (.cons rfl (.fn .nil (.cons (.ptr rfl) .nil)) (.cons rfl (.ptr rfl) (.cons rfl (.ptr rfl) (.cons rfl (.ptr rfl) (.cons rfl (.self rfl) (.cons rfl (.self rfl) (.cons rfl (.self rfl) .nil)))))))

set_option maxHeartbeats 1000000 in
theorem diag_ok (L : List Int) (f : Bool) (h0 : 0 < L.length) (hn : L.length ≤ 8) (hQ : ∀ x ∈ L, inQ x) : SoundC Try.prog 34 [.sl (.r 0) 0 L.length 1 f] ⟨[ints L], []⟩ { val := .tuple [.agg [.int .i64 L.length, .int .i64 L.length, .sl (.o 0) 0 (diagL L).length 1 false], .int .i64 0], newo := [ints (diagL L)] } := by
  refine SoundC.of (N := 32) Try.func34 rfl rfl rfl rfl ?_
  refine AW.seq ?_
  refine AW.region (by kernel_rfl) ?_
  refine RunF.w (o_box (nm := 0) rfl rfl rfl) (by simp only [H.app, appO, patchAll, patch, List.map_cons, List.map_nil, List.append_nil, List.nil_append, List.cons_append, List.set_cons_zero, List.set_cons_succ, Option.map_some, Option.map_none, List.contains_cons, List.contains_nil, Nat.reduceAdd, Nat.reduceEqDiff, Nat.reduceBEq, Bool.or_false, Bool.false_eq_true, reduceIte, Nat.zero_add]; rfl) ?_
  refine RunF.w (o_alloc (nm := 1) tz24 rfl) (by simp only [H.app, appO, patchAll, patch, List.map_cons, List.map_nil, List.append_nil, List.nil_append, List.cons_append, List.set_cons_zero, List.set_cons_succ, Option.map_some, Option.map_none, List.contains_cons, List.contains_nil, Nat.reduceAdd, Nat.reduceEqDiff, Nat.reduceBEq, Bool.or_false, Bool.false_eq_true, reduceIte, Nat.zero_add]; rfl) ?_
  refine RunF.q (o_assign rfl) rfl ?_
  refine AW.seq ?_
  refine AW.region (by kernel_rfl) ?_
  refine RunF.q (o_load rfl tk22 ts22 rfl rfl rfl) rfl ?_
  first | refine RunF.q (o_len tk22 rfl) rfl ?_ | refine RunF.q (o_len_nil tk22 rfl) rfl ?_
  refine RunF.q (o_assign rfl) rfl ?_
  refine AW.seq ?_
  refine AW.seq ?_
  refine AW.region (by kernel_rfl) ?_
  refine RunF.q (o_move rfl) rfl ?_
  refine RunF.q (o_lss rfl rfl) rfl ?_
  refine RunF.br (o_move rfl) rfl (fun hb2_2 => ?_) (fun hb2_2 => ?_)
  · try simp only [decide_eq_true_eq, decide_eq_false_iff_not, bne_iff_ne, beq_iff_eq, bne_eq_false_iff_eq, beq_eq_false_iff_ne, ne_eq, Bool.not_eq_true', Bool.not_eq_false'] at hb2_2
    exfalso; omega
  · try simp only [decide_eq_true_eq, decide_eq_false_iff_not, bne_iff_ne, beq_iff_eq, bne_eq_false_iff_eq, beq_eq_false_iff_ne, ne_eq, Bool.not_eq_true', Bool.not_eq_false'] at hb2_2
    refine RunF.gq rfl (o_move rfl) rfl ?_
    refine RunF.gq rfl (o_gtr rfl rfl) rfl ?_
    refine RunF.q (o_pick_f rfl rfl) rfl ?_
    refine RunF.br (o_move rfl) rfl (fun hb2_6 => ?_) (fun hb2_6 => ?_)
    · try simp only [decide_eq_true_eq, decide_eq_false_iff_not, bne_iff_ne, beq_iff_eq, bne_eq_false_iff_eq, beq_eq_false_iff_ne, ne_eq, Bool.not_eq_true', Bool.not_eq_false'] at hb2_6
      exfalso; omega
    · try simp only [decide_eq_true_eq, decide_eq_false_iff_not, bne_iff_ne, beq_iff_eq, bne_eq_false_iff_eq, beq_eq_false_iff_ne, ne_eq, Bool.not_eq_true', Bool.not_eq_false'] at hb2_6
      refine RunF.gq rfl (o_move rfl) rfl ?_
      refine RunF.gq rfl (o_load rfl tk22 ts22 rfl rfl rfl) rfl ?_
      refine RunF.gq rfl (o_build tk24 tz24 pl24 rfl rfl) rfl ?_
      refine RunF.gq rfl (o_call (no := 2) (nr := 1) rfl rfl rfl (by (repeat' first | exact cl_nil | exact cL_flat rfl | exact cL_flat (ints_flat _) | apply cL_vs | apply cl_cons | exact cv_flat rfl | apply cv_agg | apply cv_ptr_o | apply cv_sl_o rfl | apply cv_func | exact cO_old rfl | (apply cO_new; (focus rfl); (focus rfl)) | (apply cv_sl_r; (focus rfl); (focus rfl); (focus (simp; done)); (focus (first | exact ints_all _ | rfl))) | (apply cv_ptr_r rfl ?_ rfl rfl) | (simp only [List.nil_append, List.cons_append, List.length_cons, List.length_nil, Nat.zero_add, Nat.reduceAdd, List.set_cons_zero, List.set_cons_succ]; rfl) | rfl)) (by rfl) (by exact mright_is (R := 1) (C := (L.length : Int)) (L := L) (z := true) (decide_eq_true ⟨by omega, by omega, by omega, by omega, by omega, hQ⟩)) (by rfl) rfl rfl (by first | exact reV_bare _ _ rfl | (simp only [reV, reVs, List.all_cons, List.all_nil, AV.flat, Bool.and_true, Bool.true_and, Bool.false_and, Bool.and_false, Bool.false_eq_true, reduceIte, CS.de, List.getElem?_cons_zero, List.getElem?_cons_succ, List.getElem?_nil, List.length_cons, List.length_nil, Nat.reduceSub, Nat.reduceAdd, Nat.zero_add, Nat.add_zero, Nat.sub_self]; rfl)) rfl) (by rfl) ?_
      refine RunF.gq rfl (o_not rfl) rfl ?_
      refine RunF.q (o_pick_f rfl rfl) rfl ?_
      refine AW.cond rfl (fun hc0 => absurd hc0 (by simp)) (fun hc0 => ?_)
      refine AW.skip ?_
      refine AW.seq ?_
      refine AW.region (by kernel_rfl) ?_
      refine RunF.q (o_move rfl) rfl ?_
      refine RunF.q (o_move rfl) rfl ?_
      refine RunF.q (o_build tk132 tz132 pl132 rfl rfl) rfl ?_
      refine RunF.q (o_makeFunc rfl rfl) rfl ?_
      refine RunF.w (o_call (no := 2) (nr := 1) rfl rfl rfl (by (repeat' first | exact cl_nil | exact cL_flat rfl | exact cL_flat (ints_flat _) | apply cL_vs | apply cl_cons | exact cv_flat rfl | apply cv_agg | apply cv_ptr_o | apply cv_sl_o rfl | apply cv_func | exact cO_old rfl | (apply cO_new; (focus rfl); (focus rfl)) | (apply cv_sl_r; (focus rfl); (focus rfl); (focus (simp; done)); (focus (first | exact ints_all _ | rfl))) | (apply cv_ptr_r rfl ?_ rfl rfl) | (simp only [List.nil_append, List.cons_append, List.length_cons, List.length_nil, Nat.zero_add, Nat.reduceAdd, List.set_cons_zero, List.set_cons_succ]; rfl) | rfl)) (by rfl) (by exact madeD_ok L f h0 hn) (by rfl) rfl rfl (by first | exact reV_bare _ _ rfl | (simp only [reV, reVs, List.all_cons, List.all_nil, AV.flat, Bool.and_true, Bool.true_and, Bool.false_and, Bool.and_false, Bool.false_eq_true, reduceIte, CS.de, List.getElem?_cons_zero, List.getElem?_cons_succ, List.getElem?_nil, List.length_cons, List.length_nil, Nat.reduceSub, Nat.reduceAdd, Nat.zero_add, Nat.add_zero, Nat.sub_self]; rfl)) (by simp only [CS.eff, rdsR, rdsO, List.map_cons, List.map_nil, reL_ints, num, List.nil_append, List.append_nil, List.cons_append]; rfl)) (by simp only [H.app, appO, patchAll, patch, List.map_cons, List.map_nil, List.append_nil, List.nil_append, List.cons_append, List.set_cons_zero, List.set_cons_succ, Option.map_some, Option.map_none, List.contains_cons, List.contains_nil, Nat.reduceAdd, Nat.reduceEqDiff, Nat.reduceBEq, Bool.or_false, Bool.false_eq_true, reduceIte, Nat.zero_add]; rfl) ?_
      refine RunF.q (o_move rfl) rfl ?_
      refine RunF.q (o_extract rfl rfl) rfl ?_
      refine RunF.q (o_extract rfl rfl) rfl ?_
      refine RunF.w (o_alloc (nm := 3) tz24 rfl) (by simp only [H.app, appO, patchAll, patch, List.map_cons, List.map_nil, List.append_nil, List.nil_append, List.cons_append, List.set_cons_zero, List.set_cons_succ, Option.map_some, Option.map_none, List.contains_cons, List.contains_nil, Nat.reduceAdd, Nat.reduceEqDiff, Nat.reduceBEq, Bool.or_false, Bool.false_eq_true, reduceIte, Nat.zero_add]; rfl) ?_
      refine RunF.wn (o_store rfl rfl rfl ts24 rfl rfl) (by simp only [H.app, appO, patchAll, patch, List.map_cons, List.map_nil, List.append_nil, List.nil_append, List.cons_append, List.set_cons_zero, List.set_cons_succ, Option.map_some, Option.map_none, List.contains_cons, List.contains_nil, Nat.reduceAdd, Nat.reduceEqDiff, Nat.reduceBEq, Bool.or_false, Bool.false_eq_true, reduceIte, Nat.zero_add]; rfl) ?_
      refine RunF.q (o_assign rfl) rfl ?_
      refine AW.seq ?_
      refine AW.region (by kernel_rfl) ?_
      refine RunF.q (o_load_agg rfl tk24 ts24 rfl rfl rfl (by simp only [List.take_succ_cons, List.drop_succ_cons, List.drop_zero, List.take_zero, List.take_nil, List.drop_nil, Nat.zero_add, Nat.reduceAdd]; rfl)) rfl ?_
      refine RunF.wn (o_store rfl rfl rfl ts24 rfl rfl) (by simp only [H.app, appO, patchAll, patch, List.map_cons, List.map_nil, List.append_nil, List.nil_append, List.cons_append, List.set_cons_zero, List.set_cons_succ, Option.map_some, Option.map_none, List.contains_cons, List.contains_nil, Nat.reduceAdd, Nat.reduceEqDiff, Nat.reduceBEq, Bool.or_false, Bool.false_eq_true, reduceIte, Nat.zero_add]; rfl) ?_
      refine RunF.q (o_assign rfl) rfl ?_
      refine AW.ret ?_
      exact FinQ.ret [2] [] (ress_agg rfl tk24 ts24 rfl rfl rfl (ress_tmp rfl ress_nil)) rfl (.some rfl rfl (PRN.flat (ints_flat _)) .nil) (.cons rfl rfl (by first | (apply PRN.flat; rfl) | (apply PRN.flat; simp; done) | (repeat' first | exact PRN.nil | apply PRN.cons | exact RN.self rfl | exact RN.top | exact RN.ptr rfl | exact RN.sl rfl | exact RN.slf rfl | apply RN.agg | apply RN.fn | exact RNs.nil | apply RNs.cons)) .nil) (by repeat' first | exact RN.self rfl | exact RN.top | exact RN.ptr rfl | exact RN.sl rfl | exact RN.slf rfl | apply RN.agg | apply RN.tuple | apply RN.fn | exact RNs.nil | apply RNs.cons | (apply RNs.flat; simp; done))

end Go.Proofs.Ytnkijhpikeokfaa
