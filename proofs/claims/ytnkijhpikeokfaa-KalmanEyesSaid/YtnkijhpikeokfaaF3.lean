/- Matrices: sums, differences, and what is made even, by their contracts. -/
import Derived.Test.YtnkijhpikeokfaaF2
set_option linter.unusedSimpArgs false
set_option linter.unusedVariables false
namespace Go.Proofs.Ytnkijhpikeokfaa
open Go Go.Sym Go.IntWalk

/-- two matrices, number by number -/
def zipM (D : Int → Int → Int × Bool) (A B : List Int) (r c : Nat) : List Int := tab (fun i j => (D (A.getD (i * c + j) 0) (B.getD (i * c + j) 0)).1) c (r * c)
def zipX (D : Int → Int → Int × Bool) (A B : List Int) (r c : Nat) : Bool := anyT (fun i j => (D (A.getD (i * c + j) 0) (B.getD (i * c + j) 0)).2) c (r * c)
def addD (x y : Int) : Int × Bool := (addQ x y, addF x y)
def subD (x y : Int) : Int × Bool := (subQ x y, subF x y)

theorem ko132 : kindsOf Try.prog 20 132 = some [.int .i64, .int .i64] := by kernel_rfl
theorem eg132 : Try.prog.eqGuardType Try.prog.depth 132 = false := by kernel_rfl

set_option maxHeartbeats 1000000 in
theorem madeE_ok (r c : Nat) (hr : r ≤ 8) (hc : c ≤ 8) (hR : 0 < r) (hC : 0 < c) (A B : List Int) (hA : A.length = r * c) (hB : B.length = r * c) (fa fb : Bool) (kd : Nat) (D : Int → Int → Int × Bool) (hD : ∀ x ∈ A, ∀ y ∈ B, SoundC Try.prog kd [.int .i64 x, .int .i64 y] ⟨[], []⟩ { val := .tuple [.int .i64 (D x y).1, .bool (D x y).2] }) : SoundC Try.prog 76 [.agg [.int .i64 r, .int .i64 c], .func 114 [] [.ptr (.o 0) 0, .ptr (.o 1) 0, .ptr (.o 2) 0]] ⟨[ints A, ints B], [some [.func kd [] []], some [.int .i64 r, .int .i64 c, .sl (.r 0) 0 A.length 1 fa], some [.int .i64 r, .int .i64 c, .sl (.r 1) 0 B.length 1 fb]]⟩ { val := .tuple [.agg [.int .i64 r, .int .i64 c, .sl (.o 3) 0 (tab (fun i j => (D (A.getD (i * c + j) 0) (B.getD (i * c + j) 0)).1) c (r * c)).length 1 false], .bool (anyT (fun i j => (D (A.getD (i * c + j) 0) (B.getD (i * c + j) 0)).2) c (r * c))], newo := [ints (tab (fun i j => (D (A.getD (i * c + j) 0) (B.getD (i * c + j) 0)).1) c (r * c))] } := by
  have hR8 := hr
  have hC8 := hc
  refine SoundC.of (N := 48) Try.func76 rfl rfl rfl rfl ?_
  refine AW.seq ?_
  refine AW.region (by kernel_rfl) ?_
  refine RunF.w (o_box (nm := 3) rfl rfl rfl) rfl ?_
  refine RunF.w (o_alloc (nm := 4) tz24 rfl) rfl ?_
  refine RunF.q (o_assign rfl) rfl ?_
  refine AW.seq ?_
  refine AW.region (by kernel_rfl) ?_
  refine RunF.q (o_fieldAddr rfl tk132 rfl ts3 rfl) rfl ?_
  refine RunF.q (o_load rfl tk3 ts3 rfl rfl rfl) rfl ?_
  refine RunF.q (o_fieldAddr rfl tk132 rfl ts3 rfl) rfl ?_
  refine RunF.q (o_load rfl tk3 ts3 rfl rfl rfl) rfl ?_
  refine RunF.q (o_build tk24 tz24 pl24 rfl rfl) rfl ?_
  refine RunF.w (o_alloc (nm := 5) tz24 rfl) rfl ?_
  refine RunF.wn (o_store rfl rfl rfl ts24 rfl rfl) rfl ?_
  refine AW.seq ?_
  refine AW.region (by kernel_rfl) ?_
  refine RunF.q (o_assign rfl) rfl ?_
  refine AW.seq ?_
  refine AW.seq ?_
  refine AW.region (by kernel_rfl) ?_
  refine RunF.q (o_fieldAddr rfl tk132 rfl ts3 rfl) rfl ?_
  refine RunF.q (o_load rfl tk3 ts3 rfl rfl rfl) rfl ?_
  refine RunF.q (o_move rfl) rfl ?_
  refine AW.block ?_
  refine AW.loop (α := {x : Nat × List Int × Bool // x.1 ≤ r ∧ x.2.1 = tab (fun i j => (D (A.getD (i * c + j) 0) (B.getD (i * c + j) 0)).1) c (x.1 * c) ∧ x.2.2 = anyT (fun i j => (D (A.getD (i * c + j) 0) (B.getD (i * c + j) 0)).2) c (x.1 * c)}) (fun x : {x : Nat × List Int × Bool // x.1 ≤ r ∧ x.2.1 = tab (fun i j => (D (A.getD (i * c + j) 0) (B.getD (i * c + j) 0)).1) c (x.1 * c) ∧ x.2.2 = anyT (fun i j => (D (A.getD (i * c + j) 0) (B.getD (i * c + j) 0)).2) c (x.1 * c)} => ([(1, .func 114 [] [.ptr (.o 0) 0, .ptr (.o 1) 0, .ptr (.o 2) 0]), (2, .ptr (.o 3) 0), (4, .ptr (.o 4) 0), (6, .ptr (.o 5) 0), (7, .bool x.1.2.2), (18, .int .i64 r), (19, .int .i64 x.1.1)], ⟨[ints A, ints B], [some [.func kd [] []], some [.int .i64 r, .int .i64 c, .sl (.r 0) 0 A.length 1 fa], some [.int .i64 r, .int .i64 c, .sl (.r 1) 0 B.length 1 fb], some [.int .i64 r, .int .i64 c], some [.int .i64 0, .int .i64 0, .nilsl], some [.int .i64 r, .int .i64 c, slOf 6 x.1.2.1], rowOf x.1.2.1]⟩)) (fun x => r - x.1.1) (fun x => ?_) ⟨(0, [], false), by simp, by simp [tab], by simp [anyT]⟩ ?_
  · obtain ⟨⟨i, L0, z0⟩, hx1, hx2, hx3⟩ := x
    dsimp only at hx1 hx2 hx3
    dsimp only
    refine AW.seq ?_
    refine AW.region (by kernel_rfl) ?_
    refine RunF.q (o_lss rfl rfl) rfl ?_
    refine AW.seq ?_
    refine AW.cond rfl (fun hc0 => ?_) (fun hc0 => ?_)
    · try simp only [decide_eq_true_eq, decide_eq_false_iff_not, bne_iff_ne, beq_iff_eq, bne_eq_false_iff_eq, beq_eq_false_iff_ne, ne_eq, Bool.not_eq_true', Bool.not_eq_false'] at hc0
      have hi : i < r := by omega
      refine AW.skip ?_
      refine AW.seq ?_
      refine AW.block ?_
      refine AW.seq ?_
      refine AW.region (by kernel_rfl) ?_
      refine RunF.q (o_move rfl) rfl ?_
      refine RunF.q (o_assign rfl) rfl ?_
      refine AW.seq ?_
      refine AW.region (by kernel_rfl) ?_
      refine RunF.q (o_fieldAddr rfl tk132 rfl ts3 rfl) rfl ?_
      refine RunF.q (o_load rfl tk3 ts3 rfl rfl rfl) rfl ?_
      refine RunF.q (o_move rfl) rfl ?_
      refine AW.block ?_
      refine AW.loop (α := {x : Nat × List Int × Bool // x.1 ≤ c ∧ x.2.1 = tab (fun i j => (D (A.getD (i * c + j) 0) (B.getD (i * c + j) 0)).1) c (i * c + x.1) ∧ x.2.2 = anyT (fun i j => (D (A.getD (i * c + j) 0) (B.getD (i * c + j) 0)).2) c (i * c + x.1)}) (fun x : {x : Nat × List Int × Bool // x.1 ≤ c ∧ x.2.1 = tab (fun i j => (D (A.getD (i * c + j) 0) (B.getD (i * c + j) 0)).1) c (i * c + x.1) ∧ x.2.2 = anyT (fun i j => (D (A.getD (i * c + j) 0) (B.getD (i * c + j) 0)).2) c (i * c + x.1)} => ([(1, .func 114 [] [.ptr (.o 0) 0, .ptr (.o 1) 0, .ptr (.o 2) 0]), (2, .ptr (.o 3) 0), (4, .ptr (.o 4) 0), (6, .ptr (.o 5) 0), (7, .bool x.1.2.2), (8, .int .i64 i), (18, .int .i64 r), (19, .int .i64 i), (23, .int .i64 c), (24, .int .i64 x.1.1)], ⟨[ints A, ints B], [some [.func kd [] []], some [.int .i64 r, .int .i64 c, .sl (.r 0) 0 A.length 1 fa], some [.int .i64 r, .int .i64 c, .sl (.r 1) 0 B.length 1 fb], some [.int .i64 r, .int .i64 c], some [.int .i64 0, .int .i64 0, .nilsl], some [.int .i64 r, .int .i64 c, slOf 6 x.1.2.1], rowOf x.1.2.1]⟩)) (fun x => c - x.1.1) (fun x => ?_) ⟨(0, L0, z0), by omega, by simpa using hx2, by simpa using hx3⟩ ?_
      · obtain ⟨⟨k, y1, y2⟩, hy1, hy2, hy3⟩ := x
        dsimp only at hy1 hy2 hy3
        dsimp only
        refine AW.seq ?_
        refine AW.region (by kernel_rfl) ?_
        refine RunF.q (o_lss rfl rfl) rfl ?_
        refine AW.seq ?_
        refine AW.cond rfl (fun hc1 => ?_) (fun hc1 => ?_)
        · try simp only [decide_eq_true_eq, decide_eq_false_iff_not, bne_iff_ne, beq_iff_eq, bne_eq_false_iff_eq, beq_eq_false_iff_ne, ne_eq, Bool.not_eq_true', Bool.not_eq_false'] at hc1
          have hk : k < c := by omega
          have hlen : y1.length ≤ 64 := by rw [hy2, tab_length]; have := idx_lt hi hk; have := small_mul hR8 hC8; omega
          rcases y1 with _ | ⟨a, l⟩
          · refine AW.skip ?_
            refine AW.seq ?_
            refine AW.block ?_
            refine AW.seq ?_
            refine AW.region (by kernel_rfl) ?_
            refine RunF.q (o_move rfl) rfl ?_
            refine RunF.q (o_assign rfl) rfl ?_
            refine AW.seq ?_
            refine AW.region (by kernel_rfl) ?_
            refine RunF.q (o_move rfl) rfl ?_
            refine RunF.q (o_move rfl) rfl ?_
            refine RunF.q (o_move rfl) rfl ?_
            refine RunF.q (o_call (no := 7) (nr := 2) rfl rfl rfl (by (repeat' first | exact cl_nil | exact cL_flat rfl | exact cL_flat (ints_flat _) | apply cL_vs | apply cl_cons | exact cv_flat rfl | apply cv_agg | apply cv_ptr_o | apply cv_sl_o rfl | apply cv_func | exact cO_old rfl | (apply cO_new; (focus rfl); (focus rfl)) | (apply cv_sl_r; (focus rfl); (focus rfl); (focus (simp; done)); (focus (first | exact ints_all _ | rfl))) | (apply cv_ptr_r rfl ?_ rfl rfl) | (simp only [List.nil_append, List.cons_append, List.length_cons, List.length_nil, Nat.zero_add, Nat.reduceAdd, List.set_cons_zero, List.set_cons_succ]; rfl) | rfl)) (by rfl) (by exact each1_ok r c hr hc A B hA hB fa fb kd D hD i k hi hk) (by rfl) rfl rfl (by first | exact reV_bare _ _ rfl | (simp only [reV, reVs, List.all_cons, List.all_nil, AV.flat, Bool.and_true, Bool.true_and, Bool.false_and, Bool.and_false, Bool.false_eq_true, reduceIte, CS.de, List.getElem?_cons_zero, List.getElem?_cons_succ, List.getElem?_nil, List.length_cons, List.length_nil, Nat.reduceSub, Nat.reduceAdd, Nat.zero_add, Nat.add_zero, Nat.sub_self]; rfl)) rfl) (by rfl) ?_
            refine RunF.q (o_move rfl) rfl ?_
            refine RunF.q (o_extract rfl rfl) rfl ?_
            refine RunF.q (o_extract rfl rfl) rfl ?_
            refine RunF.q (o_assign rfl) rfl ?_
            refine RunF.q (o_assign rfl) rfl ?_
            refine AW.seq ?_
            refine AW.region (by kernel_rfl) ?_
            refine RunF.q (o_fieldAddr rfl tk24 rfl ts22 rfl) rfl ?_
            refine RunF.q (o_load rfl tk22 ts22 rfl rfl rfl) rfl ?_
            refine RunF.q (o_move rfl) rfl ?_
            refine RunF.w (o_buildSlice (nm := 7) tk22 ts30 tz30 rfl rfl rfl rfl) rfl ?_
            refine RunF.w (o_append_nil (nm := 8) tk22 tk22 ts30 tb30 tz30 rfl rfl rfl rfl ⟨by decide, Nat.le_refl 1, by decide, by decide⟩ rfl rfl rfl) rfl ?_
            refine RunF.q (o_fieldAddr rfl tk24 rfl ts22 rfl) rfl ?_
            refine RunF.wn (o_store rfl rfl rfl ts22 rfl rfl) rfl ?_
            refine AW.region (by kernel_rfl) ?_
            refine RunF.q (o_move rfl) rfl ?_
            refine RunF.q (o_move rfl) rfl ?_
            refine RunF.gm rfl (o_move rfl) ?_
            first | refine RunF.q (o_pick_t rfl rfl) rfl ?_ | refine RunF.q (o_pick_f rfl rfl) rfl ?_ | refine RunF.q (o_pick_b rfl rfl rfl) rfl ?_ | refine RunF.q (o_pick_or rfl rfl rfl) rfl ?_ | refine RunF.q (o_pick_and rfl rfl rfl) rfl ?_
            refine RunF.q (o_assign rfl) rfl ?_
            refine AW.region (by kernel_rfl) ?_
            refine RunF.q (o_add rfl rfl (by first | exact i64_in _ (by omega) | rfl)) rfl ?_
            refine RunF.q (o_move rfl) rfl ?_
            exact ⟨⟨(k + 1, ([] : List Int) ++ [(fun i j => (D (A.getD (i * c + j) 0) (B.getD (i * c + j) 0)).1) i k], y2 || (fun i j => (D (A.getD (i * c + j) 0) (B.getD (i * c + j) 0)).2) i k), by dsimp only; omega, by dsimp only; rw [← Nat.add_assoc, tab_succ _ hk, ← hy2], by dsimp only; rw [← Nat.add_assoc, anyT_succ _ hk, ← hy3]⟩, Wk.of [3, 4, 5, 8] [] rfl (.some rfl rfl (by first | (apply PRN.flat; rfl) | (apply PRN.flat; simp; done) | (repeat' first | exact PRN.nil | apply PRN.cons | exact RN.self rfl | exact RN.top | exact RN.ptr rfl | exact RN.sl rfl | exact RN.slf rfl | apply RN.agg | apply RN.fn | exact RNs.nil | apply RNs.cons)) (.some rfl rfl (by first | (apply PRN.flat; rfl) | (apply PRN.flat; simp; done) | (repeat' first | exact PRN.nil | apply PRN.cons | exact RN.self rfl | exact RN.top | exact RN.ptr rfl | exact RN.sl rfl | exact RN.slf rfl | apply RN.agg | apply RN.fn | exact RNs.nil | apply RNs.cons)) (.some rfl rfl (by first | (apply PRN.flat; rfl) | (apply PRN.flat; simp; done) | (repeat' first | exact PRN.nil | apply PRN.cons | exact RN.self rfl | exact RN.top | exact RN.ptr rfl | exact RN.sl rfl | exact RN.slf rfl | apply RN.agg | apply RN.fn | exact RNs.nil | apply RNs.cons)) (.some rfl rfl (by first | (apply PRN.flat; rfl) | (apply PRN.flat; simp; done) | (repeat' first | exact PRN.nil | apply PRN.cons | exact RN.self rfl | exact RN.top | exact RN.ptr rfl | exact RN.sl rfl | exact RN.slf rfl | apply RN.agg | apply RN.fn | exact RNs.nil | apply RNs.cons)) (.some rfl rfl (by first | (apply PRN.flat; rfl) | (apply PRN.flat; simp; done) | (repeat' first | exact PRN.nil | apply PRN.cons | exact RN.self rfl | exact RN.top | exact RN.ptr rfl | exact RN.sl rfl | exact RN.slf rfl | apply RN.agg | apply RN.fn | exact RNs.nil | apply RNs.cons)) (.some rfl rfl (by first | (apply PRN.flat; rfl) | (apply PRN.flat; simp; done) | (repeat' first | exact PRN.nil | apply PRN.cons | exact RN.self rfl | exact RN.top | exact RN.ptr rfl | exact RN.sl rfl | exact RN.slf rfl | apply RN.agg | apply RN.fn | exact RNs.nil | apply RNs.cons)) (.some rfl rfl (by first | (apply PRN.flat; rfl) | (apply PRN.flat; simp; done) | (repeat' first | exact PRN.nil | apply PRN.cons | exact RN.self rfl | exact RN.top | exact RN.ptr rfl | exact RN.sl rfl | exact RN.slf rfl | apply RN.agg | apply RN.fn | exact RNs.nil | apply RNs.cons)) .nil))))))) (.cons rfl rfl (by first | (apply PRN.flat; rfl) | (apply PRN.flat; simp; done) | (repeat' first | exact PRN.nil | apply PRN.cons | exact RN.self rfl | exact RN.top | exact RN.ptr rfl | exact RN.sl rfl | exact RN.slf rfl | apply RN.agg | apply RN.fn | exact RNs.nil | apply RNs.cons)) (.cons rfl rfl (by first | (apply PRN.flat; rfl) | (apply PRN.flat; simp; done) | (repeat' first | exact PRN.nil | apply PRN.cons | exact RN.self rfl | exact RN.top | exact RN.ptr rfl | exact RN.sl rfl | exact RN.slf rfl | apply RN.agg | apply RN.fn | exact RNs.nil | apply RNs.cons)) .nil)) (.cons rfl (.fn .nil (.cons (.ptr rfl) (.cons (.ptr rfl) (.cons (.ptr rfl) .nil)))) (.cons rfl (.ptr rfl) (.cons rfl (.ptr rfl) (.cons rfl (.ptr rfl) (.cons rfl (.self rfl) (.cons rfl (.self rfl) (.cons rfl (.self rfl) (.cons rfl (.self rfl) (.cons rfl (.self rfl) (.cons rfl (.self rfl) .nil)))))))))), by dsimp only; omega⟩
          · refine AW.skip ?_
            refine AW.seq ?_
            refine AW.block ?_
            refine AW.seq ?_
            refine AW.region (by kernel_rfl) ?_
            refine RunF.q (o_move rfl) rfl ?_
            refine RunF.q (o_assign rfl) rfl ?_
            refine AW.seq ?_
            refine AW.region (by kernel_rfl) ?_
            refine RunF.q (o_move rfl) rfl ?_
            refine RunF.q (o_move rfl) rfl ?_
            refine RunF.q (o_move rfl) rfl ?_
            refine RunF.q (o_call (no := 7) (nr := 2) rfl rfl rfl (by (repeat' first | exact cl_nil | exact cL_flat rfl | exact cL_flat (ints_flat _) | apply cL_vs | apply cl_cons | exact cv_flat rfl | apply cv_agg | apply cv_ptr_o | apply cv_sl_o rfl | apply cv_func | exact cO_old rfl | (apply cO_new; (focus rfl); (focus rfl)) | (apply cv_sl_r; (focus rfl); (focus rfl); (focus (simp; done)); (focus (first | exact ints_all _ | rfl))) | (apply cv_ptr_r rfl ?_ rfl rfl) | (simp only [List.nil_append, List.cons_append, List.length_cons, List.length_nil, Nat.zero_add, Nat.reduceAdd, List.set_cons_zero, List.set_cons_succ]; rfl) | rfl)) (by rfl) (by exact each1_ok r c hr hc A B hA hB fa fb kd D hD i k hi hk) (by rfl) rfl rfl (by first | exact reV_bare _ _ rfl | (simp only [reV, reVs, List.all_cons, List.all_nil, AV.flat, Bool.and_true, Bool.true_and, Bool.false_and, Bool.and_false, Bool.false_eq_true, reduceIte, CS.de, List.getElem?_cons_zero, List.getElem?_cons_succ, List.getElem?_nil, List.length_cons, List.length_nil, Nat.reduceSub, Nat.reduceAdd, Nat.zero_add, Nat.add_zero, Nat.sub_self]; rfl)) rfl) (by rfl) ?_
            refine RunF.q (o_move rfl) rfl ?_
            refine RunF.q (o_extract rfl rfl) rfl ?_
            refine RunF.q (o_extract rfl rfl) rfl ?_
            refine RunF.q (o_assign rfl) rfl ?_
            refine RunF.q (o_assign rfl) rfl ?_
            refine AW.seq ?_
            refine AW.region (by kernel_rfl) ?_
            refine RunF.q (o_fieldAddr rfl tk24 rfl ts22 rfl) rfl ?_
            refine RunF.q (o_load rfl tk22 ts22 rfl rfl rfl) rfl ?_
            refine RunF.q (o_move rfl) rfl ?_
            refine RunF.w (o_buildSlice (nm := 7) tk22 ts30 tz30 rfl rfl rfl rfl) rfl ?_
            refine RunF.w (o_append_own (nm := 8) (mn := ((a :: l) ++ [(fun i j => (D (A.getD (i * c + j) 0) (B.getD (i * c + j) 0)).1) i k]).length) tk22 tk22 ts30 tb30 tz30 rfl rfl rfl rfl rfl ⟨by decide, Nat.le_refl 1, by simp, by simp only [List.length_cons] at hlen ⊢; omega, by simp only [List.length_cons] at hlen ⊢; omega⟩ rfl (ints_all (a :: l)) rfl rfl (by simp)) rfl ?_
            refine RunF.q (o_fieldAddr rfl tk24 rfl ts22 rfl) rfl ?_
            refine RunF.wn (o_store rfl rfl rfl ts22 rfl rfl) rfl ?_
            refine AW.region (by kernel_rfl) ?_
            refine RunF.q (o_move rfl) rfl ?_
            refine RunF.q (o_move rfl) rfl ?_
            refine RunF.gm rfl (o_move rfl) ?_
            first | refine RunF.q (o_pick_t rfl rfl) rfl ?_ | refine RunF.q (o_pick_f rfl rfl) rfl ?_ | refine RunF.q (o_pick_b rfl rfl rfl) rfl ?_ | refine RunF.q (o_pick_or rfl rfl rfl) rfl ?_ | refine RunF.q (o_pick_and rfl rfl rfl) rfl ?_
            refine RunF.q (o_assign rfl) rfl ?_
            refine AW.region (by kernel_rfl) ?_
            refine RunF.q (o_add rfl rfl (by first | exact i64_in _ (by omega) | rfl)) rfl ?_
            refine RunF.q (o_move rfl) rfl ?_
            exact ⟨⟨(k + 1, (a :: l) ++ [(fun i j => (D (A.getD (i * c + j) 0) (B.getD (i * c + j) 0)).1) i k], y2 || (fun i j => (D (A.getD (i * c + j) 0) (B.getD (i * c + j) 0)).2) i k), by dsimp only; omega, by dsimp only; rw [← Nat.add_assoc, tab_succ _ hk, ← hy2], by dsimp only; rw [← Nat.add_assoc, anyT_succ _ hk, ← hy3]⟩, Wk.of [3, 4, 5, 8] [] rfl (.some rfl rfl (by first | (apply PRN.flat; rfl) | (apply PRN.flat; simp; done) | (repeat' first | exact PRN.nil | apply PRN.cons | exact RN.self rfl | exact RN.top | exact RN.ptr rfl | exact RN.sl rfl | exact RN.slf rfl | apply RN.agg | apply RN.fn | exact RNs.nil | apply RNs.cons)) (.some rfl rfl (by first | (apply PRN.flat; rfl) | (apply PRN.flat; simp; done) | (repeat' first | exact PRN.nil | apply PRN.cons | exact RN.self rfl | exact RN.top | exact RN.ptr rfl | exact RN.sl rfl | exact RN.slf rfl | apply RN.agg | apply RN.fn | exact RNs.nil | apply RNs.cons)) (.some rfl rfl (by first | (apply PRN.flat; rfl) | (apply PRN.flat; simp; done) | (repeat' first | exact PRN.nil | apply PRN.cons | exact RN.self rfl | exact RN.top | exact RN.ptr rfl | exact RN.sl rfl | exact RN.slf rfl | apply RN.agg | apply RN.fn | exact RNs.nil | apply RNs.cons)) (.some rfl rfl (by first | (apply PRN.flat; rfl) | (apply PRN.flat; simp; done) | (repeat' first | exact PRN.nil | apply PRN.cons | exact RN.self rfl | exact RN.top | exact RN.ptr rfl | exact RN.sl rfl | exact RN.slf rfl | apply RN.agg | apply RN.fn | exact RNs.nil | apply RNs.cons)) (.some rfl rfl (by first | (apply PRN.flat; rfl) | (apply PRN.flat; simp; done) | (repeat' first | exact PRN.nil | apply PRN.cons | exact RN.self rfl | exact RN.top | exact RN.ptr rfl | exact RN.sl rfl | exact RN.slf rfl | apply RN.agg | apply RN.fn | exact RNs.nil | apply RNs.cons)) (.some rfl rfl (by first | (apply PRN.flat; rfl) | (apply PRN.flat; simp; done) | (repeat' first | exact PRN.nil | apply PRN.cons | exact RN.self rfl | exact RN.top | exact RN.ptr rfl | exact RN.sl rfl | exact RN.slf rfl | apply RN.agg | apply RN.fn | exact RNs.nil | apply RNs.cons)) (.some rfl rfl (PRN.snoc (a :: l) ((fun i j => (D (A.getD (i * c + j) 0) (B.getD (i * c + j) 0)).1) i k)) .nil))))))) (.cons rfl rfl (by first | (apply PRN.flat; rfl) | (apply PRN.flat; simp; done) | (repeat' first | exact PRN.nil | apply PRN.cons | exact RN.self rfl | exact RN.top | exact RN.ptr rfl | exact RN.sl rfl | exact RN.slf rfl | apply RN.agg | apply RN.fn | exact RNs.nil | apply RNs.cons)) (.cons rfl rfl (by first | (apply PRN.flat; rfl) | (apply PRN.flat; simp; done) | (repeat' first | exact PRN.nil | apply PRN.cons | exact RN.self rfl | exact RN.top | exact RN.ptr rfl | exact RN.sl rfl | exact RN.slf rfl | apply RN.agg | apply RN.fn | exact RNs.nil | apply RNs.cons)) .nil)) (.cons rfl (.fn .nil (.cons (.ptr rfl) (.cons (.ptr rfl) (.cons (.ptr rfl) .nil)))) (.cons rfl (.ptr rfl) (.cons rfl (.ptr rfl) (.cons rfl (.ptr rfl) (.cons rfl (.self rfl) (.cons rfl (.self rfl) (.cons rfl (.self rfl) (.cons rfl (.self rfl) (.cons rfl (.self rfl) (.cons rfl (.self rfl) .nil)))))))))), by dsimp only; omega⟩
        · try simp only [decide_eq_true_eq, decide_eq_false_iff_not, bne_iff_ne, beq_iff_eq, bne_eq_false_iff_eq, beq_eq_false_iff_ne, ne_eq, Bool.not_eq_true', Bool.not_eq_false'] at hc1
          refine AW.exit ?_
          refine AW.region (by kernel_rfl) ?_
          refine RunF.q (o_add rfl rfl (by first | exact i64_in _ (by omega) | rfl)) rfl ?_
          refine RunF.q (o_move rfl) rfl ?_
          exact ⟨⟨(i + 1, y1, y2), by dsimp only; omega, by dsimp only; rw [hy2, Nat.succ_mul]; congr 1; omega, by dsimp only; rw [hy3, Nat.succ_mul]; congr 1; omega⟩, Wk.same rfl (.cons rfl (.cons rfl (.cons rfl (.cons rfl (.cons rfl (.cons rfl (.cons rfl .nil))))))), by dsimp only; omega⟩
      · exact Wk.same rfl (.cons rfl (.cons rfl (.cons rfl (.cons rfl (.cons rfl (.cons rfl (.cons rfl (.cons rfl (.cons rfl (.cons rfl .nil))))))))))
    · try simp only [decide_eq_true_eq, decide_eq_false_iff_not, bne_iff_ne, beq_iff_eq, bne_eq_false_iff_eq, beq_eq_false_iff_ne, ne_eq, Bool.not_eq_true', Bool.not_eq_false'] at hc0
      have ei : i = r := by omega
      subst ei
      obtain ⟨a, l, rfl⟩ : ∃ a l, L0 = a :: l := by
        cases L0 with
        | nil => have := congrArg List.length hx2; rw [tab_length] at this; have := Nat.mul_pos hR hC; simp at *; omega
        | cons a l => exact ⟨a, l, rfl⟩
      refine AW.exit ?_
      refine AW.seq ?_
      refine AW.region (by kernel_rfl) ?_
      refine RunF.q (o_load_agg rfl tk24 ts24 rfl rfl rfl rfl) rfl ?_
      refine RunF.q (o_move rfl) rfl ?_
      refine RunF.wn (o_store rfl rfl rfl ts24 rfl rfl) rfl ?_
      refine RunF.q (o_assign rfl) rfl ?_
      refine AW.ret ?_
      apply FinQ.ret [6] []
      · exact (ress_agg rfl tk24 ts24 rfl rfl rfl (ress_tmp rfl ress_nil))
      · rfl
      · exact (.some rfl rfl (by first | (apply PRN.flat; rfl) | (apply PRN.flat; simp; done) | (repeat' first | exact PRN.nil | apply PRN.cons | exact RN.self rfl | exact RN.top | exact RN.ptr rfl | exact RN.sl rfl | exact RN.slf rfl | apply RN.agg | apply RN.fn | exact RNs.nil | apply RNs.cons)) (.some rfl rfl (by first | (apply PRN.flat; rfl) | (apply PRN.flat; simp; done) | (repeat' first | exact PRN.nil | apply PRN.cons | exact RN.self rfl | exact RN.top | exact RN.ptr rfl | exact RN.sl rfl | exact RN.slf rfl | apply RN.agg | apply RN.fn | exact RNs.nil | apply RNs.cons)) (.some rfl rfl (by first | (apply PRN.flat; rfl) | (apply PRN.flat; simp; done) | (repeat' first | exact PRN.nil | apply PRN.cons | exact RN.self rfl | exact RN.top | exact RN.ptr rfl | exact RN.sl rfl | exact RN.slf rfl | apply RN.agg | apply RN.fn | exact RNs.nil | apply RNs.cons)) (.some rfl rfl (by rw [← hx2]; exact PRN.flat (ints_flat _)) .nil))))
      · exact (.cons rfl rfl (by first | (apply PRN.flat; rfl) | (apply PRN.flat; simp; done) | (repeat' first | exact PRN.nil | apply PRN.cons | exact RN.self rfl | exact RN.top | exact RN.ptr rfl | exact RN.sl rfl | exact RN.slf rfl | apply RN.agg | apply RN.fn | exact RNs.nil | apply RNs.cons)) (.cons rfl rfl (by first | (apply PRN.flat; rfl) | (apply PRN.flat; simp; done) | (repeat' first | exact PRN.nil | apply PRN.cons | exact RN.self rfl | exact RN.top | exact RN.ptr rfl | exact RN.sl rfl | exact RN.slf rfl | apply RN.agg | apply RN.fn | exact RNs.nil | apply RNs.cons)) .nil))
      · rw [← hx2, ← hx3]; exact (by repeat' first | exact RN.self rfl | exact RN.top | exact RN.ptr rfl | exact RN.sl rfl | exact RN.slf rfl | apply RN.agg | apply RN.tuple | apply RN.fn | exact RNs.nil | apply RNs.cons | (apply RNs.flat; simp; done))
  · exact Wk.of [3, 4, 5, 999] [] rfl (.some rfl rfl (by first | (apply PRN.flat; rfl) | (apply PRN.flat; simp; done) | (repeat' first | exact PRN.nil | apply PRN.cons | exact RN.self rfl | exact RN.top | exact RN.ptr rfl | exact RN.sl rfl | exact RN.slf rfl | apply RN.agg | apply RN.fn | exact RNs.nil | apply RNs.cons)) (.some rfl rfl (by first | (apply PRN.flat; rfl) | (apply PRN.flat; simp; done) | (repeat' first | exact PRN.nil | apply PRN.cons | exact RN.self rfl | exact RN.top | exact RN.ptr rfl | exact RN.sl rfl | exact RN.slf rfl | apply RN.agg | apply RN.fn | exact RNs.nil | apply RNs.cons)) (.some rfl rfl (by first | (apply PRN.flat; rfl) | (apply PRN.flat; simp; done) | (repeat' first | exact PRN.nil | apply PRN.cons | exact RN.self rfl | exact RN.top | exact RN.ptr rfl | exact RN.sl rfl | exact RN.slf rfl | apply RN.agg | apply RN.fn | exact RNs.nil | apply RNs.cons)) (.some rfl rfl (by first | (apply PRN.flat; rfl) | (apply PRN.flat; simp; done) | (repeat' first | exact PRN.nil | apply PRN.cons | exact RN.self rfl | exact RN.top | exact RN.ptr rfl | exact RN.sl rfl | exact RN.slf rfl | apply RN.agg | apply RN.fn | exact RNs.nil | apply RNs.cons)) (.some rfl rfl (by first | (apply PRN.flat; rfl) | (apply PRN.flat; simp; done) | (repeat' first | exact PRN.nil | apply PRN.cons | exact RN.self rfl | exact RN.top | exact RN.ptr rfl | exact RN.sl rfl | exact RN.slf rfl | apply RN.agg | apply RN.fn | exact RNs.nil | apply RNs.cons)) (.some rfl rfl (by first | (apply PRN.flat; rfl) | (apply PRN.flat; simp; done) | (repeat' first | exact PRN.nil | apply PRN.cons | exact RN.self rfl | exact RN.top | exact RN.ptr rfl | exact RN.sl rfl | exact RN.slf rfl | apply RN.agg | apply RN.fn | exact RNs.nil | apply RNs.cons)) (.none .nil))))))) (.cons rfl rfl (by first | (apply PRN.flat; rfl) | (apply PRN.flat; simp; done) | (repeat' first | exact PRN.nil | apply PRN.cons | exact RN.self rfl | exact RN.top | exact RN.ptr rfl | exact RN.sl rfl | exact RN.slf rfl | apply RN.agg | apply RN.fn | exact RNs.nil | apply RNs.cons)) (.cons rfl rfl (by first | (apply PRN.flat; rfl) | (apply PRN.flat; simp; done) | (repeat' first | exact PRN.nil | apply PRN.cons | exact RN.self rfl | exact RN.top | exact RN.ptr rfl | exact RN.sl rfl | exact RN.slf rfl | apply RN.agg | apply RN.fn | exact RNs.nil | apply RNs.cons)) .nil)) (.cons rfl (.fn .nil (.cons (.ptr rfl) (.cons (.ptr rfl) (.cons (.ptr rfl) .nil)))) (.cons rfl (.ptr rfl) (.cons rfl (.ptr rfl) (.cons rfl (.ptr rfl) (.cons rfl (.self rfl) (.cons rfl (.self rfl) (.cons rfl (.self rfl) .nil)))))))

set_option maxHeartbeats 1000000 in
theorem each_ok (r c : Nat) (hr : r ≤ 8) (hc : c ≤ 8) (hR : 0 < r) (hC : 0 < c) (A B : List Int) (hA : A.length = r * c) (hB : B.length = r * c) (fa fb : Bool) (kd : Nat) (D : Int → Int → Int × Bool) (hD : ∀ x ∈ A, ∀ y ∈ B, SoundC Try.prog kd [.int .i64 x, .int .i64 y] ⟨[], []⟩ { val := .tuple [.int .i64 (D x y).1, .bool (D x y).2] }) : SoundC Try.prog 71 [.agg [.int .i64 r, .int .i64 c, .sl (.r 0) 0 A.length 1 fa], .agg [.int .i64 r, .int .i64 c, .sl (.r 1) 0 B.length 1 fb], .func kd [] []] ⟨[ints A, ints B], []⟩ { val := .tuple [.agg [.int .i64 r, .int .i64 c, .sl (.o 0) 0 (zipM D A B r c).length 1 false], .bool (zipX D A B r c), .int .i64 0], newo := [ints (zipM D A B r c)] } := by
  refine SoundC.of (N := 26) Try.func71 rfl rfl rfl rfl ?_
  refine AW.seq ?_
  refine AW.region (by kernel_rfl) ?_
  refine RunF.w (o_box (nm := 0) rfl rfl rfl) (by simp only [H.app, appO, patchAll, patch, List.map_cons, List.map_nil, List.append_nil, List.nil_append, List.cons_append, List.set_cons_zero, List.set_cons_succ, Option.map_some, Option.map_none, List.contains_cons, List.contains_nil, Nat.reduceAdd, Nat.reduceEqDiff, Nat.reduceBEq, Bool.or_false, Bool.false_eq_true, reduceIte, Nat.zero_add]; rfl) ?_
  refine RunF.w (o_box (nm := 1) rfl rfl rfl) (by simp only [H.app, appO, patchAll, patch, List.map_cons, List.map_nil, List.append_nil, List.nil_append, List.cons_append, List.set_cons_zero, List.set_cons_succ, Option.map_some, Option.map_none, List.contains_cons, List.contains_nil, Nat.reduceAdd, Nat.reduceEqDiff, Nat.reduceBEq, Bool.or_false, Bool.false_eq_true, reduceIte, Nat.zero_add]; rfl) ?_
  refine RunF.w (o_box (nm := 2) rfl rfl rfl) (by simp only [H.app, appO, patchAll, patch, List.map_cons, List.map_nil, List.append_nil, List.nil_append, List.cons_append, List.set_cons_zero, List.set_cons_succ, Option.map_some, Option.map_none, List.contains_cons, List.contains_nil, Nat.reduceAdd, Nat.reduceEqDiff, Nat.reduceBEq, Bool.or_false, Bool.false_eq_true, reduceIte, Nat.zero_add]; rfl) ?_
  refine RunF.w (o_alloc (nm := 3) tz24 rfl) (by simp only [H.app, appO, patchAll, patch, List.map_cons, List.map_nil, List.append_nil, List.nil_append, List.cons_append, List.set_cons_zero, List.set_cons_succ, Option.map_some, Option.map_none, List.contains_cons, List.contains_nil, Nat.reduceAdd, Nat.reduceEqDiff, Nat.reduceBEq, Bool.or_false, Bool.false_eq_true, reduceIte, Nat.zero_add]; rfl) ?_
  refine RunF.q (o_assign rfl) rfl ?_
  refine RunF.q (o_assign rfl) rfl ?_
  refine AW.seq ?_
  refine AW.seq ?_
  refine AW.draws (by kernel_rfl) (by kernel_rfl) ?_
  refine RunV.q (o_load_agg rfl tk24 ts24 rfl rfl rfl (by simp only [List.take_succ_cons, List.drop_succ_cons, List.drop_zero, List.take_zero, List.take_nil, List.drop_nil, Nat.zero_add, Nat.reduceAdd]; rfl)) rfl ?_
  refine RunV.q (o_call (no := 4) (nr := 2) rfl rfl rfl (by (repeat' first | exact cl_nil | exact cL_flat rfl | exact cL_flat (ints_flat _) | apply cL_vs | apply cl_cons | exact cv_flat rfl | apply cv_agg | apply cv_ptr_o | apply cv_sl_o rfl | apply cv_func | exact cO_old rfl | (apply cO_new; (focus rfl); (focus rfl)) | (apply cv_sl_r; (focus rfl); (focus rfl); (focus (simp; done)); (focus (first | exact ints_all _ | rfl))) | (apply cv_ptr_r rfl ?_ rfl rfl) | (simp only [List.nil_append, List.cons_append, List.length_cons, List.length_nil, Nat.zero_add, Nat.reduceAdd, List.set_cons_zero, List.set_cons_succ]; rfl) | rfl)) (by rfl) (by exact of_ok r c A fa) (by rfl) rfl rfl (by first | exact reV_bare _ _ rfl | (simp only [reV, reVs, List.all_cons, List.all_nil, AV.flat, Bool.and_true, Bool.true_and, Bool.false_and, Bool.and_false, Bool.false_eq_true, reduceIte, CS.de, List.getElem?_cons_zero, List.getElem?_cons_succ, List.getElem?_nil, List.length_cons, List.length_nil, Nat.reduceSub, Nat.reduceAdd, Nat.zero_add, Nat.add_zero, Nat.sub_self]; rfl)) rfl) (by rfl) ?_
  refine RunV.q (o_load_agg rfl tk24 ts24 rfl rfl rfl (by simp only [List.take_succ_cons, List.drop_succ_cons, List.drop_zero, List.take_zero, List.take_nil, List.drop_nil, Nat.zero_add, Nat.reduceAdd]; rfl)) rfl ?_
  refine RunV.q (o_call (no := 4) (nr := 2) rfl rfl rfl (by (repeat' first | exact cl_nil | exact cL_flat rfl | exact cL_flat (ints_flat _) | apply cL_vs | apply cl_cons | exact cv_flat rfl | apply cv_agg | apply cv_ptr_o | apply cv_sl_o rfl | apply cv_func | exact cO_old rfl | (apply cO_new; (focus rfl); (focus rfl)) | (apply cv_sl_r; (focus rfl); (focus rfl); (focus (simp; done)); (focus (first | exact ints_all _ | rfl))) | (apply cv_ptr_r rfl ?_ rfl rfl) | (simp only [List.nil_append, List.cons_append, List.length_cons, List.length_nil, Nat.zero_add, Nat.reduceAdd, List.set_cons_zero, List.set_cons_succ]; rfl) | rfl)) (by rfl) (by exact of_ok r c B fb) (by rfl) rfl rfl (by first | exact reV_bare _ _ rfl | (simp only [reV, reVs, List.all_cons, List.all_nil, AV.flat, Bool.and_true, Bool.true_and, Bool.false_and, Bool.and_false, Bool.false_eq_true, reduceIte, CS.de, List.getElem?_cons_zero, List.getElem?_cons_succ, List.getElem?_nil, List.length_cons, List.length_nil, Nat.reduceSub, Nat.reduceAdd, Nat.zero_add, Nat.add_zero, Nat.sub_self]; rfl)) rfl) (by rfl) ?_
  refine RunV.q (o_nea (z := true) rfl rfl tk132 ko132 (by rw [eg132]; rfl) (by simp [eqCells])) rfl ?_
  refine And.intro (by kernel_rfl) ?_
  refine AW.cond rfl (fun hc0 => absurd hc0 (by simp)) (fun hc0 => ?_)
  refine AW.skip ?_
  refine AW.seq ?_
  refine AW.region (by kernel_rfl) ?_
  refine RunF.q (o_load_agg rfl tk24 ts24 rfl rfl rfl (by simp only [List.take_succ_cons, List.drop_succ_cons, List.drop_zero, List.take_zero, List.take_nil, List.drop_nil, Nat.zero_add, Nat.reduceAdd]; rfl)) rfl ?_
  refine RunF.q (o_call (no := 4) (nr := 2) rfl rfl rfl (by (repeat' first | exact cl_nil | exact cL_flat rfl | exact cL_flat (ints_flat _) | apply cL_vs | apply cl_cons | exact cv_flat rfl | apply cv_agg | apply cv_ptr_o | apply cv_sl_o rfl | apply cv_func | exact cO_old rfl | (apply cO_new; (focus rfl); (focus rfl)) | (apply cv_sl_r; (focus rfl); (focus rfl); (focus (simp; done)); (focus (first | exact ints_all _ | rfl))) | (apply cv_ptr_r rfl ?_ rfl rfl) | (simp only [List.nil_append, List.cons_append, List.length_cons, List.length_nil, Nat.zero_add, Nat.reduceAdd, List.set_cons_zero, List.set_cons_succ]; rfl) | rfl)) (by rfl) (by exact of_ok r c A fa) (by rfl) rfl rfl (by first | exact reV_bare _ _ rfl | (simp only [reV, reVs, List.all_cons, List.all_nil, AV.flat, Bool.and_true, Bool.true_and, Bool.false_and, Bool.and_false, Bool.false_eq_true, reduceIte, CS.de, List.getElem?_cons_zero, List.getElem?_cons_succ, List.getElem?_nil, List.length_cons, List.length_nil, Nat.reduceSub, Nat.reduceAdd, Nat.zero_add, Nat.add_zero, Nat.sub_self]; rfl)) rfl) (by rfl) ?_
  refine RunF.q (o_makeFunc rfl rfl) rfl ?_
  refine RunF.w (o_call (no := 4) (nr := 2) rfl rfl rfl (by (repeat' first | exact cl_nil | exact cL_flat rfl | exact cL_flat (ints_flat _) | apply cL_vs | apply cl_cons | exact cv_flat rfl | apply cv_agg | apply cv_ptr_o | apply cv_sl_o rfl | apply cv_func | exact cO_old rfl | (apply cO_new; (focus rfl); (focus rfl)) | (apply cv_sl_r; (focus rfl); (focus rfl); (focus (simp; done)); (focus (first | exact ints_all _ | rfl))) | (apply cv_ptr_r rfl ?_ rfl rfl) | (simp only [List.nil_append, List.cons_append, List.length_cons, List.length_nil, Nat.zero_add, Nat.reduceAdd, List.set_cons_zero, List.set_cons_succ]; rfl) | rfl)) (by rfl) (by exact madeE_ok r c hr hc hR hC A B hA hB fa fb kd D hD) (by rfl) rfl rfl (by first | exact reV_bare _ _ rfl | (simp only [reV, reVs, List.all_cons, List.all_nil, AV.flat, Bool.and_true, Bool.true_and, Bool.false_and, Bool.and_false, Bool.false_eq_true, reduceIte, CS.de, List.getElem?_cons_zero, List.getElem?_cons_succ, List.getElem?_nil, List.length_cons, List.length_nil, Nat.reduceSub, Nat.reduceAdd, Nat.zero_add, Nat.add_zero, Nat.sub_self]; rfl)) (by simp only [CS.eff, rdsR, rdsO, List.map_cons, List.map_nil, reL_ints, num, List.nil_append, List.append_nil, List.cons_append]; rfl)) (by simp only [H.app, appO, patchAll, patch, List.map_cons, List.map_nil, List.append_nil, List.nil_append, List.cons_append, List.set_cons_zero, List.set_cons_succ, Option.map_some, Option.map_none, List.contains_cons, List.contains_nil, Nat.reduceAdd, Nat.reduceEqDiff, Nat.reduceBEq, Bool.or_false, Bool.false_eq_true, reduceIte, Nat.zero_add]; rfl) ?_
  refine RunF.q (o_move rfl) rfl ?_
  refine RunF.q (o_extract rfl rfl) rfl ?_
  refine RunF.q (o_extract rfl rfl) rfl ?_
  refine RunF.w (o_alloc (nm := 5) tz24 rfl) (by simp only [H.app, appO, patchAll, patch, List.map_cons, List.map_nil, List.append_nil, List.nil_append, List.cons_append, List.set_cons_zero, List.set_cons_succ, Option.map_some, Option.map_none, List.contains_cons, List.contains_nil, Nat.reduceAdd, Nat.reduceEqDiff, Nat.reduceBEq, Bool.or_false, Bool.false_eq_true, reduceIte, Nat.zero_add]; rfl) ?_
  refine RunF.wn (o_store rfl rfl rfl ts24 rfl rfl) (by simp only [H.app, appO, patchAll, patch, List.map_cons, List.map_nil, List.append_nil, List.nil_append, List.cons_append, List.set_cons_zero, List.set_cons_succ, Option.map_some, Option.map_none, List.contains_cons, List.contains_nil, Nat.reduceAdd, Nat.reduceEqDiff, Nat.reduceBEq, Bool.or_false, Bool.false_eq_true, reduceIte, Nat.zero_add]; rfl) ?_
  refine RunF.q (o_assign rfl) rfl ?_
  refine AW.seq ?_
  refine AW.region (by kernel_rfl) ?_
  refine RunF.q (o_load_agg rfl tk24 ts24 rfl rfl rfl (by simp only [List.take_succ_cons, List.drop_succ_cons, List.drop_zero, List.take_zero, List.take_nil, List.drop_nil, Nat.zero_add, Nat.reduceAdd]; rfl)) rfl ?_
  refine RunF.q (o_move rfl) rfl ?_
  refine RunF.wn (o_store rfl rfl rfl ts24 rfl rfl) (by simp only [H.app, appO, patchAll, patch, List.map_cons, List.map_nil, List.append_nil, List.nil_append, List.cons_append, List.set_cons_zero, List.set_cons_succ, Option.map_some, Option.map_none, List.contains_cons, List.contains_nil, Nat.reduceAdd, Nat.reduceEqDiff, Nat.reduceBEq, Bool.or_false, Bool.false_eq_true, reduceIte, Nat.zero_add]; rfl) ?_
  refine RunF.q (o_assign rfl) rfl ?_
  refine RunF.q (o_assign rfl) rfl ?_
  refine AW.ret ?_
  exact FinQ.ret [4] [] (ress_agg rfl tk24 ts24 rfl rfl rfl (ress_tmp rfl (ress_tmp rfl ress_nil))) rfl (.some rfl rfl (PRN.flat (ints_flat _)) .nil) (.cons rfl rfl (by first | (apply PRN.flat; rfl) | (apply PRN.flat; simp; done) | (repeat' first | exact PRN.nil | apply PRN.cons | exact RN.self rfl | exact RN.top | exact RN.ptr rfl | exact RN.sl rfl | exact RN.slf rfl | apply RN.agg | apply RN.fn | exact RNs.nil | apply RNs.cons)) (.cons rfl rfl (by first | (apply PRN.flat; rfl) | (apply PRN.flat; simp; done) | (repeat' first | exact PRN.nil | apply PRN.cons | exact RN.self rfl | exact RN.top | exact RN.ptr rfl | exact RN.sl rfl | exact RN.slf rfl | apply RN.agg | apply RN.fn | exact RNs.nil | apply RNs.cons)) .nil)) (by repeat' first | exact RN.self rfl | exact RN.top | exact RN.ptr rfl | exact RN.sl rfl | exact RN.slf rfl | apply RN.agg | apply RN.tuple | apply RN.fn | exact RNs.nil | apply RNs.cons | (apply RNs.flat; simp; done))

set_option maxHeartbeats 1000000 in
theorem each_no (r c r2 c2 : Nat) (A B : List Int) (fa fb : Bool) (hne : ¬ (r = r2 ∧ c = c2)) (kd : Nat) : SoundC Try.prog 71 [.agg [.int .i64 r, .int .i64 c, .sl (.r 0) 0 A.length 1 fa], .agg [.int .i64 r2, .int .i64 c2, .sl (.r 1) 0 B.length 1 fb], .func kd [] []] ⟨[ints A, ints B], []⟩ { val := .tuple [.agg [.int .i64 0, .int .i64 0, .nilsl], .bool false, .int .i64 9] } := by
  have hb : ((r : Int) == r2 && ((c : Int) == c2 && true)) = false := by simp; intro h; exact fun h2 => hne ⟨by omega, by omega⟩
  refine SoundC.of (N := 26) Try.func71 rfl rfl rfl rfl ?_
  refine AW.seq ?_
  refine AW.region (by kernel_rfl) ?_
  refine RunF.w (o_box (nm := 0) rfl rfl rfl) (by simp only [H.app, appO, patchAll, patch, List.map_cons, List.map_nil, List.append_nil, List.nil_append, List.cons_append, List.set_cons_zero, List.set_cons_succ, Option.map_some, Option.map_none, List.contains_cons, List.contains_nil, Nat.reduceAdd, Nat.reduceEqDiff, Nat.reduceBEq, Bool.or_false, Bool.false_eq_true, reduceIte, Nat.zero_add]; rfl) ?_
  refine RunF.w (o_box (nm := 1) rfl rfl rfl) (by simp only [H.app, appO, patchAll, patch, List.map_cons, List.map_nil, List.append_nil, List.nil_append, List.cons_append, List.set_cons_zero, List.set_cons_succ, Option.map_some, Option.map_none, List.contains_cons, List.contains_nil, Nat.reduceAdd, Nat.reduceEqDiff, Nat.reduceBEq, Bool.or_false, Bool.false_eq_true, reduceIte, Nat.zero_add]; rfl) ?_
  refine RunF.w (o_box (nm := 2) rfl rfl rfl) (by simp only [H.app, appO, patchAll, patch, List.map_cons, List.map_nil, List.append_nil, List.nil_append, List.cons_append, List.set_cons_zero, List.set_cons_succ, Option.map_some, Option.map_none, List.contains_cons, List.contains_nil, Nat.reduceAdd, Nat.reduceEqDiff, Nat.reduceBEq, Bool.or_false, Bool.false_eq_true, reduceIte, Nat.zero_add]; rfl) ?_
  refine RunF.w (o_alloc (nm := 3) tz24 rfl) (by simp only [H.app, appO, patchAll, patch, List.map_cons, List.map_nil, List.append_nil, List.nil_append, List.cons_append, List.set_cons_zero, List.set_cons_succ, Option.map_some, Option.map_none, List.contains_cons, List.contains_nil, Nat.reduceAdd, Nat.reduceEqDiff, Nat.reduceBEq, Bool.or_false, Bool.false_eq_true, reduceIte, Nat.zero_add]; rfl) ?_
  refine RunF.q (o_assign rfl) rfl ?_
  refine RunF.q (o_assign rfl) rfl ?_
  refine AW.seq ?_
  refine AW.seq ?_
  refine AW.draws (by kernel_rfl) (by kernel_rfl) ?_
  refine RunV.q (o_load_agg rfl tk24 ts24 rfl rfl rfl (by simp only [List.take_succ_cons, List.drop_succ_cons, List.drop_zero, List.take_zero, List.take_nil, List.drop_nil, Nat.zero_add, Nat.reduceAdd]; rfl)) rfl ?_
  refine RunV.q (o_call (no := 4) (nr := 2) rfl rfl rfl (by (repeat' first | exact cl_nil | exact cL_flat rfl | exact cL_flat (ints_flat _) | apply cL_vs | apply cl_cons | exact cv_flat rfl | apply cv_agg | apply cv_ptr_o | apply cv_sl_o rfl | apply cv_func | exact cO_old rfl | (apply cO_new; (focus rfl); (focus rfl)) | (apply cv_sl_r; (focus rfl); (focus rfl); (focus (simp; done)); (focus (first | exact ints_all _ | rfl))) | (apply cv_ptr_r rfl ?_ rfl rfl) | (simp only [List.nil_append, List.cons_append, List.length_cons, List.length_nil, Nat.zero_add, Nat.reduceAdd, List.set_cons_zero, List.set_cons_succ]; rfl) | rfl)) (by rfl) (by exact of_ok r c A fa) (by rfl) rfl rfl (by first | exact reV_bare _ _ rfl | (simp only [reV, reVs, List.all_cons, List.all_nil, AV.flat, Bool.and_true, Bool.true_and, Bool.false_and, Bool.and_false, Bool.false_eq_true, reduceIte, CS.de, List.getElem?_cons_zero, List.getElem?_cons_succ, List.getElem?_nil, List.length_cons, List.length_nil, Nat.reduceSub, Nat.reduceAdd, Nat.zero_add, Nat.add_zero, Nat.sub_self]; rfl)) rfl) (by rfl) ?_
  refine RunV.q (o_load_agg rfl tk24 ts24 rfl rfl rfl (by simp only [List.take_succ_cons, List.drop_succ_cons, List.drop_zero, List.take_zero, List.take_nil, List.drop_nil, Nat.zero_add, Nat.reduceAdd]; rfl)) rfl ?_
  refine RunV.q (o_call (no := 4) (nr := 2) rfl rfl rfl (by (repeat' first | exact cl_nil | exact cL_flat rfl | exact cL_flat (ints_flat _) | apply cL_vs | apply cl_cons | exact cv_flat rfl | apply cv_agg | apply cv_ptr_o | apply cv_sl_o rfl | apply cv_func | exact cO_old rfl | (apply cO_new; (focus rfl); (focus rfl)) | (apply cv_sl_r; (focus rfl); (focus rfl); (focus (simp; done)); (focus (first | exact ints_all _ | rfl))) | (apply cv_ptr_r rfl ?_ rfl rfl) | (simp only [List.nil_append, List.cons_append, List.length_cons, List.length_nil, Nat.zero_add, Nat.reduceAdd, List.set_cons_zero, List.set_cons_succ]; rfl) | rfl)) (by rfl) (by exact of_ok r2 c2 B fb) (by rfl) rfl rfl (by first | exact reV_bare _ _ rfl | (simp only [reV, reVs, List.all_cons, List.all_nil, AV.flat, Bool.and_true, Bool.true_and, Bool.false_and, Bool.and_false, Bool.false_eq_true, reduceIte, CS.de, List.getElem?_cons_zero, List.getElem?_cons_succ, List.getElem?_nil, List.length_cons, List.length_nil, Nat.reduceSub, Nat.reduceAdd, Nat.zero_add, Nat.add_zero, Nat.sub_self]; rfl)) rfl) (by rfl) ?_
  refine RunV.q (o_nea (z := false) rfl rfl tk132 ko132 (by rw [eg132]; rfl) (by simp only [eqCells, Option.map_some, if_true]; rw [hb])) rfl ?_
  refine And.intro (by kernel_rfl) ?_
  refine AW.cond rfl (fun hc0 => ?_) (fun hc0 => absurd hc0 (by simp))
  refine AW.seq ?_
  refine AW.region (by kernel_rfl) ?_
  refine RunF.q (o_build tk24 tz24 pl24 rfl rfl) rfl ?_
  refine RunF.wn (o_store rfl rfl rfl ts24 rfl rfl) (by simp only [H.app, appO, patchAll, patch, List.map_cons, List.map_nil, List.append_nil, List.nil_append, List.cons_append, List.set_cons_zero, List.set_cons_succ, Option.map_some, Option.map_none, List.contains_cons, List.contains_nil, Nat.reduceAdd, Nat.reduceEqDiff, Nat.reduceBEq, Bool.or_false, Bool.false_eq_true, reduceIte, Nat.zero_add]; rfl) ?_
  refine RunF.q (o_assign rfl) rfl ?_
  refine RunF.q (o_assign rfl) rfl ?_
  refine AW.ret ?_
  exact FinQ.ret [] [] (ress_agg rfl tk24 ts24 rfl rfl rfl (ress_tmp rfl (ress_tmp rfl ress_nil))) rfl .nil (.cons rfl rfl (by first | (apply PRN.flat; rfl) | (apply PRN.flat; simp; done) | (repeat' first | exact PRN.nil | apply PRN.cons | exact RN.self rfl | exact RN.top | exact RN.ptr rfl | exact RN.sl rfl | exact RN.slf rfl | apply RN.agg | apply RN.fn | exact RNs.nil | apply RNs.cons)) (.cons rfl rfl (by first | (apply PRN.flat; rfl) | (apply PRN.flat; simp; done) | (repeat' first | exact PRN.nil | apply PRN.cons | exact RN.self rfl | exact RN.top | exact RN.ptr rfl | exact RN.sl rfl | exact RN.slf rfl | apply RN.agg | apply RN.fn | exact RNs.nil | apply RNs.cons)) .nil)) (by repeat' first | exact RN.self rfl | exact RN.top | exact RN.ptr rfl | exact RN.sl rfl | exact RN.slf rfl | apply RN.agg | apply RN.tuple | apply RN.fn | exact RNs.nil | apply RNs.cons | (apply RNs.flat; simp; done))

set_option maxHeartbeats 1000000 in
theorem madd_ok (r c : Nat) (hr : r ≤ 8) (hc : c ≤ 8) (hR : 0 < r) (hC : 0 < c) (A B : List Int) (hA : A.length = r * c) (hB : B.length = r * c) (fa fb : Bool) : SoundC Try.prog 26 [.agg [.int .i64 r, .int .i64 c, .sl (.r 0) 0 A.length 1 fa], .agg [.int .i64 r, .int .i64 c, .sl (.r 1) 0 B.length 1 fb]] ⟨[ints A, ints B], []⟩ { val := .tuple [.agg [.int .i64 r, .int .i64 c, .sl (.o 0) 0 (zipM addD A B r c).length 1 false], .bool (zipX addD A B r c), .int .i64 0], newo := [ints (zipM addD A B r c)] } := by
  refine SoundC.of (N := 13) Try.func26 rfl rfl rfl rfl ?_
  refine AW.seq ?_
  refine AW.region (by kernel_rfl) ?_
  refine RunF.w (o_box (nm := 0) rfl rfl rfl) (by simp only [H.app, appO, patchAll, patch, List.map_cons, List.map_nil, List.append_nil, List.nil_append, List.cons_append, List.set_cons_zero, List.set_cons_succ, Option.map_some, Option.map_none, List.contains_cons, List.contains_nil, Nat.reduceAdd, Nat.reduceEqDiff, Nat.reduceBEq, Bool.or_false, Bool.false_eq_true, reduceIte, Nat.zero_add]; rfl) ?_
  refine RunF.w (o_box (nm := 1) rfl rfl rfl) (by simp only [H.app, appO, patchAll, patch, List.map_cons, List.map_nil, List.append_nil, List.nil_append, List.cons_append, List.set_cons_zero, List.set_cons_succ, Option.map_some, Option.map_none, List.contains_cons, List.contains_nil, Nat.reduceAdd, Nat.reduceEqDiff, Nat.reduceBEq, Bool.or_false, Bool.false_eq_true, reduceIte, Nat.zero_add]; rfl) ?_
  refine RunF.w (o_alloc (nm := 2) tz24 rfl) (by simp only [H.app, appO, patchAll, patch, List.map_cons, List.map_nil, List.append_nil, List.nil_append, List.cons_append, List.set_cons_zero, List.set_cons_succ, Option.map_some, Option.map_none, List.contains_cons, List.contains_nil, Nat.reduceAdd, Nat.reduceEqDiff, Nat.reduceBEq, Bool.or_false, Bool.false_eq_true, reduceIte, Nat.zero_add]; rfl) ?_
  refine RunF.q (o_assign rfl) rfl ?_
  refine RunF.q (o_assign rfl) rfl ?_
  refine AW.seq ?_
  refine AW.region (by kernel_rfl) ?_
  refine RunF.q (o_load_agg rfl tk24 ts24 rfl rfl rfl (by simp only [List.take_succ_cons, List.drop_succ_cons, List.drop_zero, List.take_zero, List.take_nil, List.drop_nil, Nat.zero_add, Nat.reduceAdd]; rfl)) rfl ?_
  refine RunF.q (o_load_agg rfl tk24 ts24 rfl rfl rfl (by simp only [List.take_succ_cons, List.drop_succ_cons, List.drop_zero, List.take_zero, List.take_nil, List.drop_nil, Nat.zero_add, Nat.reduceAdd]; rfl)) rfl ?_
  refine RunF.w (o_call (no := 3) (nr := 2) rfl rfl rfl (by (repeat' first | exact cl_nil | exact cL_flat rfl | exact cL_flat (ints_flat _) | apply cL_vs | apply cl_cons | exact cv_flat rfl | apply cv_agg | apply cv_ptr_o | apply cv_sl_o rfl | apply cv_func | exact cO_old rfl | (apply cO_new; (focus rfl); (focus rfl)) | (apply cv_sl_r; (focus rfl); (focus rfl); (focus (simp; done)); (focus (first | exact ints_all _ | rfl))) | (apply cv_ptr_r rfl ?_ rfl rfl) | (simp only [List.nil_append, List.cons_append, List.length_cons, List.length_nil, Nat.zero_add, Nat.reduceAdd, List.set_cons_zero, List.set_cons_succ]; rfl) | rfl)) (by rfl) (by exact each_ok r c hr hc hR hC A B hA hB fa fb _ addD (fun x _ y _ => add_ok x y)) (by rfl) rfl rfl (by first | exact reV_bare _ _ rfl | (simp only [reV, reVs, List.all_cons, List.all_nil, AV.flat, Bool.and_true, Bool.true_and, Bool.false_and, Bool.and_false, Bool.false_eq_true, reduceIte, CS.de, List.getElem?_cons_zero, List.getElem?_cons_succ, List.getElem?_nil, List.length_cons, List.length_nil, Nat.reduceSub, Nat.reduceAdd, Nat.zero_add, Nat.add_zero, Nat.sub_self]; rfl)) (by simp only [CS.eff, rdsR, rdsO, List.map_cons, List.map_nil, reL_ints, num, List.nil_append, List.append_nil, List.cons_append]; rfl)) (by simp only [H.app, appO, patchAll, patch, List.map_cons, List.map_nil, List.append_nil, List.nil_append, List.cons_append, List.set_cons_zero, List.set_cons_succ, Option.map_some, Option.map_none, List.contains_cons, List.contains_nil, Nat.reduceAdd, Nat.reduceEqDiff, Nat.reduceBEq, Bool.or_false, Bool.false_eq_true, reduceIte, Nat.zero_add]; rfl) ?_
  refine RunF.q (o_extract rfl rfl) rfl ?_
  refine RunF.q (o_extract rfl rfl) rfl ?_
  refine RunF.q (o_extract rfl rfl) rfl ?_
  refine RunF.wn (o_store rfl rfl rfl ts24 rfl rfl) (by simp only [H.app, appO, patchAll, patch, List.map_cons, List.map_nil, List.append_nil, List.nil_append, List.cons_append, List.set_cons_zero, List.set_cons_succ, Option.map_some, Option.map_none, List.contains_cons, List.contains_nil, Nat.reduceAdd, Nat.reduceEqDiff, Nat.reduceBEq, Bool.or_false, Bool.false_eq_true, reduceIte, Nat.zero_add]; rfl) ?_
  refine RunF.q (o_assign rfl) rfl ?_
  refine RunF.q (o_assign rfl) rfl ?_
  refine AW.ret ?_
  exact FinQ.ret [3] [] (ress_agg rfl tk24 ts24 rfl rfl rfl (ress_tmp rfl (ress_tmp rfl ress_nil))) rfl (.some rfl rfl (PRN.flat (ints_flat _)) .nil) (.cons rfl rfl (by first | (apply PRN.flat; rfl) | (apply PRN.flat; simp; done) | (repeat' first | exact PRN.nil | apply PRN.cons | exact RN.self rfl | exact RN.top | exact RN.ptr rfl | exact RN.sl rfl | exact RN.slf rfl | apply RN.agg | apply RN.fn | exact RNs.nil | apply RNs.cons)) (.cons rfl rfl (by first | (apply PRN.flat; rfl) | (apply PRN.flat; simp; done) | (repeat' first | exact PRN.nil | apply PRN.cons | exact RN.self rfl | exact RN.top | exact RN.ptr rfl | exact RN.sl rfl | exact RN.slf rfl | apply RN.agg | apply RN.fn | exact RNs.nil | apply RNs.cons)) .nil)) (by repeat' first | exact RN.self rfl | exact RN.top | exact RN.ptr rfl | exact RN.sl rfl | exact RN.slf rfl | apply RN.agg | apply RN.tuple | apply RN.fn | exact RNs.nil | apply RNs.cons | (apply RNs.flat; simp; done))

set_option maxHeartbeats 1000000 in
theorem msub_ok (r c : Nat) (hr : r ≤ 8) (hc : c ≤ 8) (hR : 0 < r) (hC : 0 < c) (A B : List Int) (hA : A.length = r * c) (hB : B.length = r * c) (fa fb : Bool) : SoundC Try.prog 27 [.agg [.int .i64 r, .int .i64 c, .sl (.r 0) 0 A.length 1 fa], .agg [.int .i64 r, .int .i64 c, .sl (.r 1) 0 B.length 1 fb]] ⟨[ints A, ints B], []⟩ { val := .tuple [.agg [.int .i64 r, .int .i64 c, .sl (.o 0) 0 (zipM subD A B r c).length 1 false], .bool (zipX subD A B r c), .int .i64 0], newo := [ints (zipM subD A B r c)] } := by
  refine SoundC.of (N := 13) Try.func27 rfl rfl rfl rfl ?_
  refine AW.seq ?_
  refine AW.region (by kernel_rfl) ?_
  refine RunF.w (o_box (nm := 0) rfl rfl rfl) (by simp only [H.app, appO, patchAll, patch, List.map_cons, List.map_nil, List.append_nil, List.nil_append, List.cons_append, List.set_cons_zero, List.set_cons_succ, Option.map_some, Option.map_none, List.contains_cons, List.contains_nil, Nat.reduceAdd, Nat.reduceEqDiff, Nat.reduceBEq, Bool.or_false, Bool.false_eq_true, reduceIte, Nat.zero_add]; rfl) ?_
  refine RunF.w (o_box (nm := 1) rfl rfl rfl) (by simp only [H.app, appO, patchAll, patch, List.map_cons, List.map_nil, List.append_nil, List.nil_append, List.cons_append, List.set_cons_zero, List.set_cons_succ, Option.map_some, Option.map_none, List.contains_cons, List.contains_nil, Nat.reduceAdd, Nat.reduceEqDiff, Nat.reduceBEq, Bool.or_false, Bool.false_eq_true, reduceIte, Nat.zero_add]; rfl) ?_
  refine RunF.w (o_alloc (nm := 2) tz24 rfl) (by simp only [H.app, appO, patchAll, patch, List.map_cons, List.map_nil, List.append_nil, List.nil_append, List.cons_append, List.set_cons_zero, List.set_cons_succ, Option.map_some, Option.map_none, List.contains_cons, List.contains_nil, Nat.reduceAdd, Nat.reduceEqDiff, Nat.reduceBEq, Bool.or_false, Bool.false_eq_true, reduceIte, Nat.zero_add]; rfl) ?_
  refine RunF.q (o_assign rfl) rfl ?_
  refine RunF.q (o_assign rfl) rfl ?_
  refine AW.seq ?_
  refine AW.region (by kernel_rfl) ?_
  refine RunF.q (o_load_agg rfl tk24 ts24 rfl rfl rfl (by simp only [List.take_succ_cons, List.drop_succ_cons, List.drop_zero, List.take_zero, List.take_nil, List.drop_nil, Nat.zero_add, Nat.reduceAdd]; rfl)) rfl ?_
  refine RunF.q (o_load_agg rfl tk24 ts24 rfl rfl rfl (by simp only [List.take_succ_cons, List.drop_succ_cons, List.drop_zero, List.take_zero, List.take_nil, List.drop_nil, Nat.zero_add, Nat.reduceAdd]; rfl)) rfl ?_
  refine RunF.w (o_call (no := 3) (nr := 2) rfl rfl rfl (by (repeat' first | exact cl_nil | exact cL_flat rfl | exact cL_flat (ints_flat _) | apply cL_vs | apply cl_cons | exact cv_flat rfl | apply cv_agg | apply cv_ptr_o | apply cv_sl_o rfl | apply cv_func | exact cO_old rfl | (apply cO_new; (focus rfl); (focus rfl)) | (apply cv_sl_r; (focus rfl); (focus rfl); (focus (simp; done)); (focus (first | exact ints_all _ | rfl))) | (apply cv_ptr_r rfl ?_ rfl rfl) | (simp only [List.nil_append, List.cons_append, List.length_cons, List.length_nil, Nat.zero_add, Nat.reduceAdd, List.set_cons_zero, List.set_cons_succ]; rfl) | rfl)) (by rfl) (by exact each_ok r c hr hc hR hC A B hA hB fa fb _ subD (fun x _ y _ => sub_ok x y)) (by rfl) rfl rfl (by first | exact reV_bare _ _ rfl | (simp only [reV, reVs, List.all_cons, List.all_nil, AV.flat, Bool.and_true, Bool.true_and, Bool.false_and, Bool.and_false, Bool.false_eq_true, reduceIte, CS.de, List.getElem?_cons_zero, List.getElem?_cons_succ, List.getElem?_nil, List.length_cons, List.length_nil, Nat.reduceSub, Nat.reduceAdd, Nat.zero_add, Nat.add_zero, Nat.sub_self]; rfl)) (by simp only [CS.eff, rdsR, rdsO, List.map_cons, List.map_nil, reL_ints, num, List.nil_append, List.append_nil, List.cons_append]; rfl)) (by simp only [H.app, appO, patchAll, patch, List.map_cons, List.map_nil, List.append_nil, List.nil_append, List.cons_append, List.set_cons_zero, List.set_cons_succ, Option.map_some, Option.map_none, List.contains_cons, List.contains_nil, Nat.reduceAdd, Nat.reduceEqDiff, Nat.reduceBEq, Bool.or_false, Bool.false_eq_true, reduceIte, Nat.zero_add]; rfl) ?_
  refine RunF.q (o_extract rfl rfl) rfl ?_
  refine RunF.q (o_extract rfl rfl) rfl ?_
  refine RunF.q (o_extract rfl rfl) rfl ?_
  refine RunF.wn (o_store rfl rfl rfl ts24 rfl rfl) (by simp only [H.app, appO, patchAll, patch, List.map_cons, List.map_nil, List.append_nil, List.nil_append, List.cons_append, List.set_cons_zero, List.set_cons_succ, Option.map_some, Option.map_none, List.contains_cons, List.contains_nil, Nat.reduceAdd, Nat.reduceEqDiff, Nat.reduceBEq, Bool.or_false, Bool.false_eq_true, reduceIte, Nat.zero_add]; rfl) ?_
  refine RunF.q (o_assign rfl) rfl ?_
  refine RunF.q (o_assign rfl) rfl ?_
  refine AW.ret ?_
  exact FinQ.ret [3] [] (ress_agg rfl tk24 ts24 rfl rfl rfl (ress_tmp rfl (ress_tmp rfl ress_nil))) rfl (.some rfl rfl (PRN.flat (ints_flat _)) .nil) (.cons rfl rfl (by first | (apply PRN.flat; rfl) | (apply PRN.flat; simp; done) | (repeat' first | exact PRN.nil | apply PRN.cons | exact RN.self rfl | exact RN.top | exact RN.ptr rfl | exact RN.sl rfl | exact RN.slf rfl | apply RN.agg | apply RN.fn | exact RNs.nil | apply RNs.cons)) (.cons rfl rfl (by first | (apply PRN.flat; rfl) | (apply PRN.flat; simp; done) | (repeat' first | exact PRN.nil | apply PRN.cons | exact RN.self rfl | exact RN.top | exact RN.ptr rfl | exact RN.sl rfl | exact RN.slf rfl | apply RN.agg | apply RN.fn | exact RNs.nil | apply RNs.cons)) .nil)) (by repeat' first | exact RN.self rfl | exact RN.top | exact RN.ptr rfl | exact RN.sl rfl | exact RN.slf rfl | apply RN.agg | apply RN.tuple | apply RN.fn | exact RNs.nil | apply RNs.cons | (apply RNs.flat; simp; done))

end Go.Proofs.Ytnkijhpikeokfaa
