/- Diagonals: a diagonal times a diagonal is the products; Eye is the diagonal of ones. -/
import Derived.Test.YtnkijhpikeokfaaF13
import Derived.Test.YtnkijhpikeokfaaF14
set_option linter.unusedSimpArgs false
set_option linter.unusedVariables false
namespace Go.Proofs.Ytnkijhpikeokfaa
open Go Go.Sym Go.IntWalk

theorem mulQ_zero_left {x : Int} (h : inQ x) : mulQ 0 x = 0 ∧ mulF 0 x = false := by rw [mulQ_comm, mulF_comm]; exact mulQ_zero h
theorem signed_tiny {q : Nat} {z : Bool} (h : q ≤ 70368744177663) : signedQ ((q / 18446744073709551616 : Nat) : Int) ((q % 18446744073709551616 : Nat) : Int) z = (if z then 0 - (q : Int) else q) ∧ signedF ((q / 18446744073709551616 : Nat) : Int) ((q % 18446744073709551616 : Nat) : Int) z = false := signed_small h
theorem mulQ_whole {a b : Int} (ha : -128 ≤ a ∧ a ≤ 127) (hb : -128 ≤ b ∧ b ≤ 127) : mulQ (a * 16777216) (b * 16777216) = a * b * 16777216 ∧ mulF (a * 16777216) (b * 16777216) = false := by
  have ia : inQ (a * 16777216) := by unfold inQ; omega
  have ib : inQ (b * 16777216) := by unfold inQ; omega
  have e : mulN2 (a * 16777216) (b * 16777216) = a.natAbs * b.natAbs * 16777216 := by
    unfold mulN2
    rw [clampQ_inQ ia, clampQ_inQ ib, Int.natAbs_mul, Int.natAbs_mul]
    have : a.natAbs * (16777216 : Int).natAbs * (b.natAbs * (16777216 : Int).natAbs) = (a.natAbs * b.natAbs * 16777216) * 16777216 := by
      show a.natAbs * 16777216 * (b.natAbs * 16777216) = _
      rw [Nat.mul_mul_mul_comm, Nat.mul_assoc (a.natAbs * b.natAbs)]
    rw [this]; exact rnd24_whole _
  have hab : a.natAbs * b.natAbs ≤ 128 * 128 := Nat.mul_le_mul (by omega) (by omega)
  have ez : mulZ (a * 16777216) (b * 16777216) = (decide (a < 0) != decide (b < 0)) := by
    unfold mulZ
    rw [clampQ_inQ ia, clampQ_inQ ib]
    congr 1 <;> exact decide_eq_decide.2 (by omega)
  unfold mulQ mulF
  rw [e, both2_inQ ia ib, ez]
  have h1 := signed_small (q := a.natAbs * b.natAbs * 16777216) (z := (decide (a < 0) != decide (b < 0))) (by omega)
  rw [h1.1, h1.2]
  refine ⟨?_, rfl⟩
  have hn : ((a.natAbs * b.natAbs * 16777216 : Nat) : Int) = (a.natAbs : Int) * (b.natAbs : Int) * 16777216 := by simp
  rw [hn]
  by_cases h2 : a < 0
  · have e2 : (a.natAbs : Int) = -a := by omega
    by_cases h3 : b < 0
    · have e3 : (b.natAbs : Int) = -b := by omega
      rw [decide_eq_true h2, decide_eq_true h3, e2, e3]; simp [Int.neg_mul, Int.mul_neg]
    · have e3 : (b.natAbs : Int) = b := by omega
      rw [decide_eq_true h2, decide_eq_false h3, e2, e3]; simp [Int.neg_mul, Int.mul_neg]
  · have e2 : (a.natAbs : Int) = a := by omega
    by_cases h3 : b < 0
    · have e3 : (b.natAbs : Int) = -b := by omega
      rw [decide_eq_false h2, decide_eq_true h3, e2, e3]; simp [Int.neg_mul, Int.mul_neg]
    · have e3 : (b.natAbs : Int) = b := by omega
      rw [decide_eq_false h2, decide_eq_false h3, e2, e3]; simp [Int.neg_mul, Int.mul_neg]

theorem dot_one {X Y : Nat → Int} {i : Nat} (hX : ∀ j, j ≠ i → X j = 0) (hY : ∀ j, inQ (Y j)) (hf : mulF (X i) (Y i) = false) (hp : inQ (mulQ (X i) (Y i))) : ∀ n, dot X Y n = (if i < n then mulQ (X i) (Y i) else 0, false)
  | 0 => rfl
  | n + 1 => by
    have ih := dot_one hX hY hf hp n
    simp only [dot, ih]
    by_cases e : n = i
    · subst e
      simp only [Nat.lt_irrefl, if_false, Nat.lt_succ_self, if_true, hf, addQ_zero_left hp, addF_zero_left hp, Bool.or_false]
    · have := mulQ_zero_left (hY n)
      have hin : inQ (if i < n then mulQ (X i) (Y i) else 0) := by split; exact hp; exact inQ_zero
      have e2 : (if i < n + 1 then mulQ (X i) (Y i) else 0) = (if i < n then mulQ (X i) (Y i) else 0) := by
        by_cases h : i < n
        · rw [if_pos h, if_pos (by omega)]
        · rw [if_neg h, if_neg (by omega)]
      simp only [hX n e, this.1, this.2, addQ_zero hin, addF_zero hin, Bool.or_false, e2]

/-- whole numbers of eight bits -/
def i8 (x : Int) : Prop := -128 ≤ x ∧ x ≤ 127
theorem diag_mul {a0 a1 a2 b0 b1 b2 : Int} (h0 : i8 a0) (h1 : i8 a1) (h2 : i8 a2) (k0 : i8 b0) (k1 : i8 b1) (k2 : i8 b2) (i k : Nat) (hi : i < 3) (hk : k < 3) :
    mulD (diagL [a0 * 16777216, a1 * 16777216, a2 * 16777216]) (diagL [b0 * 16777216, b1 * 16777216, b2 * 16777216]) 3 3 i k =
      (if i = k then [a0 * b0 * 16777216, a1 * b1 * 16777216, a2 * b2 * 16777216].getD i 0 else 0, false) := by
  have hb : ∀ j, inQ ([b0 * 16777216, b1 * 16777216, b2 * 16777216].getD j 0) := getD_inQ (by unfold i8 at *; simp only [List.mem_cons, List.not_mem_nil, or_false]; rintro x (rfl | rfl | rfl) <;> unfold inQ <;> omega)
  unfold mulD
  rw [dot_congr (X' := fun j => if i = j then [a0 * 16777216, a1 * 16777216, a2 * 16777216].getD i 0 else 0) (Y' := fun j => if j = k then [b0 * 16777216, b1 * 16777216, b2 * 16777216].getD j 0 else 0)
    (fun j hj => ⟨by unfold diagL; exact tab_at (r := 3) (c := 3) hi hj, by unfold diagL; exact tab_at (r := 3) (c := 3) hj hk⟩)]
  have hm : mulQ ([a0 * 16777216, a1 * 16777216, a2 * 16777216].getD i 0) (if i = k then [b0 * 16777216, b1 * 16777216, b2 * 16777216].getD i 0 else 0) = (if i = k then [a0 * b0 * 16777216, a1 * b1 * 16777216, a2 * b2 * 16777216].getD i 0 else 0) ∧
      mulF ([a0 * 16777216, a1 * 16777216, a2 * 16777216].getD i 0) (if i = k then [b0 * 16777216, b1 * 16777216, b2 * 16777216].getD i 0 else 0) = false := by
    have hin : inQ ([a0 * 16777216, a1 * 16777216, a2 * 16777216].getD i 0) := getD_inQ (by unfold i8 at *; simp only [List.mem_cons, List.not_mem_nil, or_false]; rintro x (rfl | rfl | rfl) <;> unfold inQ <;> omega) i
    by_cases e : i = k
    · rw [if_pos e, if_pos e]
      have : i = 0 ∨ i = 1 ∨ i = 2 := by omega
      rcases this with rfl | rfl | rfl
      · exact mulQ_whole h0 k0
      · exact mulQ_whole h1 k1
      · exact mulQ_whole h2 k2
    · rw [if_neg e, if_neg e]
      exact mulQ_zero hin
  have hbound : inQ (if i = k then [a0 * b0 * 16777216, a1 * b1 * 16777216, a2 * b2 * 16777216].getD i 0 else 0) := by rw [← hm.1]; exact signedQ_in _ _ _
  rw [dot_one (i := i) (fun j hj => if_neg (fun e => hj e.symm)) (fun j => by split; exact hb j; exact inQ_zero) (by simpa using hm.2) (by simp only [if_true]; rw [hm.1]; exact hbound) 3]
  simp only [if_true, if_pos hi, hm.1]
theorem diags_mulL {a0 a1 a2 b0 b1 b2 : Int} (h0 : i8 a0) (h1 : i8 a1) (h2 : i8 a2) (k0 : i8 b0) (k1 : i8 b1) (k2 : i8 b2) :
    mulL (diagL [a0 * 16777216, a1 * 16777216, a2 * 16777216]) (diagL [b0 * 16777216, b1 * 16777216, b2 * 16777216]) 3 3 3 = diagL [a0 * b0 * 16777216, a1 * b1 * 16777216, a2 * b2 * 16777216] := by
  unfold mulL
  conv => rhs; unfold diagL
  exact tab_congr (r := 3) (c := 3) fun i k hi hk => by rw [diag_mul h0 h1 h2 k0 k1 k2 i k hi hk]
theorem diags_mulX {a0 a1 a2 b0 b1 b2 : Int} (h0 : i8 a0) (h1 : i8 a1) (h2 : i8 a2) (k0 : i8 b0) (k1 : i8 b1) (k2 : i8 b2) :
    mulX (diagL [a0 * 16777216, a1 * 16777216, a2 * 16777216]) (diagL [b0 * 16777216, b1 * 16777216, b2 * 16777216]) 3 3 3 = false := by
  unfold mulX
  exact anyT_none fun i k hi hk => by rw [diag_mul h0 h1 h2 k0 k1 k2 i k hi hk]
theorem eyeL_diag : diagL [16777216, 16777216, 16777216] = eyeL 3 := by decide
theorem inQ3 {x y z : Int} (hx : inQ x) (hy : inQ y) (hz : inQ z) : ∀ v ∈ [x, y, z], inQ v := by
  simp only [List.mem_cons, List.not_mem_nil, or_false]
  rintro v (rfl | rfl | rfl) <;> assumption
theorem i8_inQ {x : Int} (h : i8 x) : inQ (x * 16777216) := by unfold i8 at h; unfold inQ; omega
theorem i8_mul {x y : Int} (h : i8 x) (k : i8 y) : -16384 ≤ x * y ∧ x * y ≤ 16384 := by
  unfold i8 at h k
  have h1 : (x * y).natAbs ≤ 128 * 128 := by rw [Int.natAbs_mul]; exact Nat.mul_le_mul (by omega) (by omega)
  omega
theorem i8_mul_inQ {x y : Int} (h : i8 x) (k : i8 y) : inQ (x * y * 16777216) := by have := i8_mul h k; unfold inQ; omega

set_option maxHeartbeats 1000000 in
theorem matDiags_any (a0 a1 a2 b0 b1 b2 : Int) (h0 : i8 a0) (h1 : i8 a1) (h2 : i8 a2) (k0 : i8 b0) (k1 : i8 b1) (k2 : i8 b2) : SoundC Try.prog 6 [.agg [.int .i8 a0, .int .i8 a1, .int .i8 a2], .agg [.int .i8 b0, .int .i8 b1, .int .i8 b2]] ⟨[], []⟩ { val := .bool true } := by
  have m0 := i8_mul h0 k0
  have m1 := i8_mul h1 k1
  have m2 := i8_mul h2 k2
  have g0 := h0
  have g1 := h1
  have g2 := h2
  have l0 := k0
  have l1 := k1
  have l2 := k2
  unfold i8 at g0 g1 g2 l0 l1 l2
  refine SoundC.of (N := 133) Try.func6 rfl rfl rfl rfl ?_
  refine AW.seq ?_
  refine AW.region (by kernel_rfl) ?_
  refine RunF.w (o_box (nm := 0) rfl rfl rfl) (by simp only [H.app, appO, patchAll, patch, List.map_cons, List.map_nil, List.append_nil, List.nil_append, List.cons_append, List.set_cons_zero, List.set_cons_succ, Option.map_some, Option.map_none, List.contains_cons, List.contains_nil, Nat.reduceAdd, Nat.reduceEqDiff, Nat.reduceBEq, Bool.or_false, Bool.false_eq_true, reduceIte, Nat.zero_add]; rfl) ?_
  refine RunF.w (o_box (nm := 1) rfl rfl rfl) (by simp only [H.app, appO, patchAll, patch, List.map_cons, List.map_nil, List.append_nil, List.nil_append, List.cons_append, List.set_cons_zero, List.set_cons_succ, Option.map_some, Option.map_none, List.contains_cons, List.contains_nil, Nat.reduceAdd, Nat.reduceEqDiff, Nat.reduceBEq, Bool.or_false, Bool.false_eq_true, reduceIte, Nat.zero_add]; rfl) ?_
  refine RunF.q (o_assign rfl) rfl ?_
  refine AW.seq ?_
  refine AW.region (by kernel_rfl) ?_
  refine RunF.q (o_call (no := 2) (nr := 0) rfl rfl rfl (by (repeat' first | exact cl_nil | exact cL_flat rfl | exact cL_flat (ints_flat _) | apply cL_vs | apply cl_cons | exact cv_flat rfl | apply cv_agg | apply cv_ptr_o | apply cv_sl_o rfl | apply cv_func | exact cO_old rfl | (apply cO_new; (focus rfl); (focus rfl)) | (apply cv_sl_r; (focus rfl); (focus rfl); (focus (simp; done)); (focus (first | exact ints_all _ | rfl))) | (apply cv_ptr_r rfl ?_ rfl rfl) | (simp only [List.nil_append, List.cons_append, List.length_cons, List.length_nil, Nat.zero_add, Nat.reduceAdd, List.set_cons_zero, List.set_cons_succ]; rfl) | rfl)) (by rfl) (by exact shown03_ok) (by rfl) rfl rfl (by first | exact reV_bare _ _ rfl | (simp only [reV, reVs, List.all_cons, List.all_nil, AV.flat, Bool.and_true, Bool.true_and, Bool.false_and, Bool.and_false, Bool.false_eq_true, reduceIte, CS.de, List.getElem?_cons_zero, List.getElem?_cons_succ, List.getElem?_nil, List.length_cons, List.length_nil, Nat.reduceSub, Nat.reduceAdd, Nat.zero_add, Nat.add_zero, Nat.sub_self]; rfl)) rfl) (by rfl) ?_
  refine RunF.q (o_assign rfl) rfl ?_
  refine AW.seq ?_
  refine AW.region (by kernel_rfl) ?_
  refine RunF.q (o_assign rfl) rfl ?_
  refine AW.seq ?_
  refine AW.region (by kernel_rfl) ?_
  refine RunF.q (o_assign rfl) rfl ?_
  refine AW.seq ?_
  refine AW.region (by kernel_rfl) ?_
  refine RunF.q (o_assign rfl) rfl ?_
  refine AW.seq ?_
  refine AW.region (by kernel_rfl) ?_
  refine RunF.q (o_assign rfl) rfl ?_
  refine AW.seq ?_
  refine AW.seq ?_
  refine AW.region (by kernel_rfl) ?_
  refine RunF.q (o_assign rfl) rfl ?_
  refine AW.block ?_
  refine AWin.loop ?_
  refine AWin.go ?_
  refine AW.seq ?_
  refine AW.seq ?_
  refine AW.region (by kernel_rfl) ?_
  refine RunF.q (o_move rfl) rfl ?_
  refine RunF.q (o_lss rfl rfl) rfl ?_
  refine AW.cond rfl (fun hc0 => ?_) (fun hc0 => absurd hc0 (by decide))
  refine AW.skip ?_
  refine AW.seq ?_
  refine AW.block ?_
  refine AW.seq ?_
  refine AW.region (by kernel_rfl) ?_
  refine RunF.q (o_move rfl) rfl ?_
  refine RunF.q (o_move rfl) rfl ?_
  refine RunF.q (o_indexAddr_arr tk37 ts36 rfl rfl (by first | decide | (constructor <;> omega)) rfl) rfl ?_
  refine RunF.q (o_load rfl tk36 ts36 rfl rfl rfl) rfl ?_
  refine RunF.q (o_convert tk36 tk30 rfl (i64_in _ (by omega))) rfl ?_
  refine RunF.q (o_mul rfl rfl (i64_in _ (by omega))) rfl ?_
  refine RunF.w (o_buildSlice (nm := 2) tk22 ts30 tz30 rfl rfl rfl rfl) (by simp only [H.app, appO, patchAll, patch, List.map_cons, List.map_nil, List.append_nil, List.nil_append, List.cons_append, List.set_cons_zero, List.set_cons_succ, Option.map_some, Option.map_none, List.contains_cons, List.contains_nil, Nat.reduceAdd, Nat.reduceEqDiff, Nat.reduceBEq, Bool.or_false, Bool.false_eq_true, reduceIte, Nat.zero_add]; rfl) ?_
  refine RunF.w (o_append_nil (nm := 3) tk22 tk22 ts30 tb30 tz30 rfl rfl rfl rfl (by first | exact ⟨by decide, Nat.le_of_ble_eq_true rfl, by decide, by decide⟩ | exact ⟨by decide, Nat.le_of_ble_eq_true rfl, Nat.le_of_ble_eq_true rfl, by decide, by decide⟩ | (simp; omega)) rfl rfl rfl) (by simp only [H.app, appO, patchAll, patch, List.map_cons, List.map_nil, List.append_nil, List.nil_append, List.cons_append, List.set_cons_zero, List.set_cons_succ, Option.map_some, Option.map_none, List.contains_cons, List.contains_nil, Nat.reduceAdd, Nat.reduceEqDiff, Nat.reduceBEq, Bool.or_false, Bool.false_eq_true, reduceIte, Nat.zero_add]; rfl) ?_
  refine RunF.q (o_assign rfl) rfl ?_
  refine AW.seq ?_
  refine AW.region (by kernel_rfl) ?_
  refine RunF.q (o_move rfl) rfl ?_
  refine RunF.q (o_move rfl) rfl ?_
  refine RunF.q (o_indexAddr_arr tk37 ts36 rfl rfl (by first | decide | (constructor <;> omega)) rfl) rfl ?_
  refine RunF.q (o_load rfl tk36 ts36 rfl rfl rfl) rfl ?_
  refine RunF.q (o_convert tk36 tk30 rfl (i64_in _ (by omega))) rfl ?_
  refine RunF.q (o_mul rfl rfl (i64_in _ (by omega))) rfl ?_
  refine RunF.w (o_buildSlice (nm := 4) tk22 ts30 tz30 rfl rfl rfl rfl) (by simp only [H.app, appO, patchAll, patch, List.map_cons, List.map_nil, List.append_nil, List.nil_append, List.cons_append, List.set_cons_zero, List.set_cons_succ, Option.map_some, Option.map_none, List.contains_cons, List.contains_nil, Nat.reduceAdd, Nat.reduceEqDiff, Nat.reduceBEq, Bool.or_false, Bool.false_eq_true, reduceIte, Nat.zero_add]; rfl) ?_
  refine RunF.w (o_append_nil (nm := 5) tk22 tk22 ts30 tb30 tz30 rfl rfl rfl rfl (by first | exact ⟨by decide, Nat.le_of_ble_eq_true rfl, by decide, by decide⟩ | exact ⟨by decide, Nat.le_of_ble_eq_true rfl, Nat.le_of_ble_eq_true rfl, by decide, by decide⟩ | (simp; omega)) rfl rfl rfl) (by simp only [H.app, appO, patchAll, patch, List.map_cons, List.map_nil, List.append_nil, List.nil_append, List.cons_append, List.set_cons_zero, List.set_cons_succ, Option.map_some, Option.map_none, List.contains_cons, List.contains_nil, Nat.reduceAdd, Nat.reduceEqDiff, Nat.reduceBEq, Bool.or_false, Bool.false_eq_true, reduceIte, Nat.zero_add]; rfl) ?_
  refine RunF.q (o_assign rfl) rfl ?_
  refine AW.seq ?_
  refine AW.draws (by kernel_rfl) (by kernel_rfl) ?_
  refine RunV.q (o_move rfl) rfl ?_
  refine RunV.q (o_move rfl) rfl ?_
  refine RunV.q (o_indexAddr_arr tk37 ts36 rfl rfl (by first | decide | (constructor <;> omega)) rfl) rfl ?_
  refine RunV.q (o_load rfl tk36 ts36 rfl rfl rfl) rfl ?_
  refine RunV.q (o_convert tk36 tk3 rfl (i64_in _ (by omega))) rfl ?_
  refine RunV.q (o_move rfl) rfl ?_
  refine RunV.q (o_indexAddr_arr tk37 ts36 rfl rfl (by first | decide | (constructor <;> omega)) rfl) rfl ?_
  refine RunV.q (o_load rfl tk36 ts36 rfl rfl rfl) rfl ?_
  refine RunV.q (o_convert tk36 tk3 rfl (i64_in _ (by omega))) rfl ?_
  refine RunV.q (o_mul rfl rfl (i64_in _ (by omega))) rfl ?_
  refine RunV.q (o_mul rfl rfl (i64_in _ (by omega))) rfl ?_
  refine RunV.w (o_buildSlice (nm := 6) tk22 ts30 tz30 rfl rfl rfl rfl) (by simp only [H.app, appO, patchAll, patch, List.map_cons, List.map_nil, List.append_nil, List.nil_append, List.cons_append, List.set_cons_zero, List.set_cons_succ, Option.map_some, Option.map_none, List.contains_cons, List.contains_nil, Nat.reduceAdd, Nat.reduceEqDiff, Nat.reduceBEq, Bool.or_false, Bool.false_eq_true, reduceIte, Nat.zero_add]; rfl) ?_
  refine RunV.w (o_append_nil (nm := 7) tk22 tk22 ts30 tb30 tz30 rfl rfl rfl rfl (by first | exact ⟨by decide, Nat.le_of_ble_eq_true rfl, by decide, by decide⟩ | exact ⟨by decide, Nat.le_of_ble_eq_true rfl, Nat.le_of_ble_eq_true rfl, by decide, by decide⟩ | (simp; omega)) rfl rfl rfl) (by simp only [H.app, appO, patchAll, patch, List.map_cons, List.map_nil, List.append_nil, List.nil_append, List.cons_append, List.set_cons_zero, List.set_cons_succ, Option.map_some, Option.map_none, List.contains_cons, List.contains_nil, Nat.reduceAdd, Nat.reduceEqDiff, Nat.reduceBEq, Bool.or_false, Bool.false_eq_true, reduceIte, Nat.zero_add]; rfl) ?_
  refine RunV.q (o_assign rfl) rfl ?_
  refine And.intro (by kernel_rfl) ?_
  refine AW.region (by kernel_rfl) ?_
  refine RunF.q (o_move rfl) rfl ?_
  refine RunF.w (o_buildSlice (nm := 8) tk22 ts30 tz30 rfl rfl rfl rfl) (by simp only [H.app, appO, patchAll, patch, List.map_cons, List.map_nil, List.append_nil, List.nil_append, List.cons_append, List.set_cons_zero, List.set_cons_succ, Option.map_some, Option.map_none, List.contains_cons, List.contains_nil, Nat.reduceAdd, Nat.reduceEqDiff, Nat.reduceBEq, Bool.or_false, Bool.false_eq_true, reduceIte, Nat.zero_add]; rfl) ?_
  refine RunF.w (o_append_nil (nm := 9) tk22 tk22 ts30 tb30 tz30 rfl rfl rfl rfl (by first | exact ⟨by decide, Nat.le_of_ble_eq_true rfl, by decide, by decide⟩ | exact ⟨by decide, Nat.le_of_ble_eq_true rfl, Nat.le_of_ble_eq_true rfl, by decide, by decide⟩ | (simp; omega)) rfl rfl rfl) (by simp only [H.app, appO, patchAll, patch, List.map_cons, List.map_nil, List.append_nil, List.nil_append, List.cons_append, List.set_cons_zero, List.set_cons_succ, Option.map_some, Option.map_none, List.contains_cons, List.contains_nil, Nat.reduceAdd, Nat.reduceEqDiff, Nat.reduceBEq, Bool.or_false, Bool.false_eq_true, reduceIte, Nat.zero_add]; rfl) ?_
  refine RunF.q (o_assign rfl) rfl ?_
  refine AW.region (by kernel_rfl) ?_
  refine RunF.q (o_move rfl) rfl ?_
  refine RunF.q (o_add rfl rfl (by first | exact i64_in _ (by omega) | rfl)) rfl ?_
  refine RunF.q (o_assign rfl) rfl ?_
  refine AWin.go ?_
  refine AW.seq ?_
  refine AW.seq ?_
  refine AW.region (by kernel_rfl) ?_
  refine RunF.q (o_move rfl) rfl ?_
  refine RunF.q (o_lss rfl rfl) rfl ?_
  refine AW.cond rfl (fun hc0 => ?_) (fun hc0 => absurd hc0 (by decide))
  refine AW.skip ?_
  refine AW.seq ?_
  refine AW.block ?_
  refine AW.seq ?_
  refine AW.region (by kernel_rfl) ?_
  refine RunF.q (o_move rfl) rfl ?_
  refine RunF.q (o_move rfl) rfl ?_
  refine RunF.q (o_indexAddr_arr tk37 ts36 rfl rfl (by first | decide | (constructor <;> omega)) rfl) rfl ?_
  refine RunF.q (o_load rfl tk36 ts36 rfl rfl rfl) rfl ?_
  refine RunF.q (o_convert tk36 tk30 rfl (i64_in _ (by omega))) rfl ?_
  refine RunF.q (o_mul rfl rfl (i64_in _ (by omega))) rfl ?_
  refine RunF.w (o_buildSlice (nm := 10) tk22 ts30 tz30 rfl rfl rfl rfl) (by simp only [H.app, appO, patchAll, patch, List.map_cons, List.map_nil, List.append_nil, List.nil_append, List.cons_append, List.set_cons_zero, List.set_cons_succ, Option.map_some, Option.map_none, List.contains_cons, List.contains_nil, Nat.reduceAdd, Nat.reduceEqDiff, Nat.reduceBEq, Bool.or_false, Bool.false_eq_true, reduceIte, Nat.zero_add]; rfl) ?_
  refine RunF.w (o_append_own (nm := 11) tk22 tk22 ts30 tb30 tz30 rfl rfl rfl rfl rfl (by first | exact ⟨by decide, Nat.le_of_ble_eq_true rfl, by decide, by decide⟩ | exact ⟨by decide, Nat.le_of_ble_eq_true rfl, Nat.le_of_ble_eq_true rfl, by decide, by decide⟩ | (simp; omega)) rfl rfl rfl rfl rfl) (by simp only [H.app, appO, patchAll, patch, List.map_cons, List.map_nil, List.append_nil, List.nil_append, List.cons_append, List.set_cons_zero, List.set_cons_succ, Option.map_some, Option.map_none, List.contains_cons, List.contains_nil, Nat.reduceAdd, Nat.reduceEqDiff, Nat.reduceBEq, Bool.or_false, Bool.false_eq_true, reduceIte, Nat.zero_add]; rfl) ?_
  refine RunF.q (o_assign rfl) rfl ?_
  refine AW.seq ?_
  refine AW.region (by kernel_rfl) ?_
  refine RunF.q (o_move rfl) rfl ?_
  refine RunF.q (o_move rfl) rfl ?_
  refine RunF.q (o_indexAddr_arr tk37 ts36 rfl rfl (by first | decide | (constructor <;> omega)) rfl) rfl ?_
  refine RunF.q (o_load rfl tk36 ts36 rfl rfl rfl) rfl ?_
  refine RunF.q (o_convert tk36 tk30 rfl (i64_in _ (by omega))) rfl ?_
  refine RunF.q (o_mul rfl rfl (i64_in _ (by omega))) rfl ?_
  refine RunF.w (o_buildSlice (nm := 12) tk22 ts30 tz30 rfl rfl rfl rfl) (by simp only [H.app, appO, patchAll, patch, List.map_cons, List.map_nil, List.append_nil, List.nil_append, List.cons_append, List.set_cons_zero, List.set_cons_succ, Option.map_some, Option.map_none, List.contains_cons, List.contains_nil, Nat.reduceAdd, Nat.reduceEqDiff, Nat.reduceBEq, Bool.or_false, Bool.false_eq_true, reduceIte, Nat.zero_add]; rfl) ?_
  refine RunF.w (o_append_own (nm := 13) tk22 tk22 ts30 tb30 tz30 rfl rfl rfl rfl rfl (by first | exact ⟨by decide, Nat.le_of_ble_eq_true rfl, by decide, by decide⟩ | exact ⟨by decide, Nat.le_of_ble_eq_true rfl, Nat.le_of_ble_eq_true rfl, by decide, by decide⟩ | (simp; omega)) rfl rfl rfl rfl rfl) (by simp only [H.app, appO, patchAll, patch, List.map_cons, List.map_nil, List.append_nil, List.nil_append, List.cons_append, List.set_cons_zero, List.set_cons_succ, Option.map_some, Option.map_none, List.contains_cons, List.contains_nil, Nat.reduceAdd, Nat.reduceEqDiff, Nat.reduceBEq, Bool.or_false, Bool.false_eq_true, reduceIte, Nat.zero_add]; rfl) ?_
  refine RunF.q (o_assign rfl) rfl ?_
  refine AW.seq ?_
  refine AW.draws (by kernel_rfl) (by kernel_rfl) ?_
  refine RunV.q (o_move rfl) rfl ?_
  refine RunV.q (o_move rfl) rfl ?_
  refine RunV.q (o_indexAddr_arr tk37 ts36 rfl rfl (by first | decide | (constructor <;> omega)) rfl) rfl ?_
  refine RunV.q (o_load rfl tk36 ts36 rfl rfl rfl) rfl ?_
  refine RunV.q (o_convert tk36 tk3 rfl (i64_in _ (by omega))) rfl ?_
  refine RunV.q (o_move rfl) rfl ?_
  refine RunV.q (o_indexAddr_arr tk37 ts36 rfl rfl (by first | decide | (constructor <;> omega)) rfl) rfl ?_
  refine RunV.q (o_load rfl tk36 ts36 rfl rfl rfl) rfl ?_
  refine RunV.q (o_convert tk36 tk3 rfl (i64_in _ (by omega))) rfl ?_
  refine RunV.q (o_mul rfl rfl (i64_in _ (by omega))) rfl ?_
  refine RunV.q (o_mul rfl rfl (i64_in _ (by omega))) rfl ?_
  refine RunV.w (o_buildSlice (nm := 14) tk22 ts30 tz30 rfl rfl rfl rfl) (by simp only [H.app, appO, patchAll, patch, List.map_cons, List.map_nil, List.append_nil, List.nil_append, List.cons_append, List.set_cons_zero, List.set_cons_succ, Option.map_some, Option.map_none, List.contains_cons, List.contains_nil, Nat.reduceAdd, Nat.reduceEqDiff, Nat.reduceBEq, Bool.or_false, Bool.false_eq_true, reduceIte, Nat.zero_add]; rfl) ?_
  refine RunV.w (o_append_own (nm := 15) tk22 tk22 ts30 tb30 tz30 rfl rfl rfl rfl rfl (by first | exact ⟨by decide, Nat.le_of_ble_eq_true rfl, by decide, by decide⟩ | exact ⟨by decide, Nat.le_of_ble_eq_true rfl, Nat.le_of_ble_eq_true rfl, by decide, by decide⟩ | (simp; omega)) rfl rfl rfl rfl rfl) (by simp only [H.app, appO, patchAll, patch, List.map_cons, List.map_nil, List.append_nil, List.nil_append, List.cons_append, List.set_cons_zero, List.set_cons_succ, Option.map_some, Option.map_none, List.contains_cons, List.contains_nil, Nat.reduceAdd, Nat.reduceEqDiff, Nat.reduceBEq, Bool.or_false, Bool.false_eq_true, reduceIte, Nat.zero_add]; rfl) ?_
  refine RunV.q (o_assign rfl) rfl ?_
  refine And.intro (by kernel_rfl) ?_
  refine AW.region (by kernel_rfl) ?_
  refine RunF.q (o_move rfl) rfl ?_
  refine RunF.w (o_buildSlice (nm := 16) tk22 ts30 tz30 rfl rfl rfl rfl) (by simp only [H.app, appO, patchAll, patch, List.map_cons, List.map_nil, List.append_nil, List.nil_append, List.cons_append, List.set_cons_zero, List.set_cons_succ, Option.map_some, Option.map_none, List.contains_cons, List.contains_nil, Nat.reduceAdd, Nat.reduceEqDiff, Nat.reduceBEq, Bool.or_false, Bool.false_eq_true, reduceIte, Nat.zero_add]; rfl) ?_
  refine RunF.w (o_append_own (nm := 17) tk22 tk22 ts30 tb30 tz30 rfl rfl rfl rfl rfl (by first | exact ⟨by decide, Nat.le_of_ble_eq_true rfl, by decide, by decide⟩ | exact ⟨by decide, Nat.le_of_ble_eq_true rfl, Nat.le_of_ble_eq_true rfl, by decide, by decide⟩ | (simp; omega)) rfl rfl rfl rfl rfl) (by simp only [H.app, appO, patchAll, patch, List.map_cons, List.map_nil, List.append_nil, List.nil_append, List.cons_append, List.set_cons_zero, List.set_cons_succ, Option.map_some, Option.map_none, List.contains_cons, List.contains_nil, Nat.reduceAdd, Nat.reduceEqDiff, Nat.reduceBEq, Bool.or_false, Bool.false_eq_true, reduceIte, Nat.zero_add]; rfl) ?_
  refine RunF.q (o_assign rfl) rfl ?_
  refine AW.region (by kernel_rfl) ?_
  refine RunF.q (o_move rfl) rfl ?_
  refine RunF.q (o_add rfl rfl (by first | exact i64_in _ (by omega) | rfl)) rfl ?_
  refine RunF.q (o_assign rfl) rfl ?_
  refine AWin.go ?_
  refine AW.seq ?_
  refine AW.seq ?_
  refine AW.region (by kernel_rfl) ?_
  refine RunF.q (o_move rfl) rfl ?_
  refine RunF.q (o_lss rfl rfl) rfl ?_
  refine AW.cond rfl (fun hc0 => ?_) (fun hc0 => absurd hc0 (by decide))
  refine AW.skip ?_
  refine AW.seq ?_
  refine AW.block ?_
  refine AW.seq ?_
  refine AW.region (by kernel_rfl) ?_
  refine RunF.q (o_move rfl) rfl ?_
  refine RunF.q (o_move rfl) rfl ?_
  refine RunF.q (o_indexAddr_arr tk37 ts36 rfl rfl (by first | decide | (constructor <;> omega)) rfl) rfl ?_
  refine RunF.q (o_load rfl tk36 ts36 rfl rfl rfl) rfl ?_
  refine RunF.q (o_convert tk36 tk30 rfl (i64_in _ (by omega))) rfl ?_
  refine RunF.q (o_mul rfl rfl (i64_in _ (by omega))) rfl ?_
  refine RunF.w (o_buildSlice (nm := 18) tk22 ts30 tz30 rfl rfl rfl rfl) (by simp only [H.app, appO, patchAll, patch, List.map_cons, List.map_nil, List.append_nil, List.nil_append, List.cons_append, List.set_cons_zero, List.set_cons_succ, Option.map_some, Option.map_none, List.contains_cons, List.contains_nil, Nat.reduceAdd, Nat.reduceEqDiff, Nat.reduceBEq, Bool.or_false, Bool.false_eq_true, reduceIte, Nat.zero_add]; rfl) ?_
  refine RunF.w (o_append_own (nm := 19) tk22 tk22 ts30 tb30 tz30 rfl rfl rfl rfl rfl (by first | exact ⟨by decide, Nat.le_of_ble_eq_true rfl, by decide, by decide⟩ | exact ⟨by decide, Nat.le_of_ble_eq_true rfl, Nat.le_of_ble_eq_true rfl, by decide, by decide⟩ | (simp; omega)) rfl rfl rfl rfl rfl) (by simp only [H.app, appO, patchAll, patch, List.map_cons, List.map_nil, List.append_nil, List.nil_append, List.cons_append, List.set_cons_zero, List.set_cons_succ, Option.map_some, Option.map_none, List.contains_cons, List.contains_nil, Nat.reduceAdd, Nat.reduceEqDiff, Nat.reduceBEq, Bool.or_false, Bool.false_eq_true, reduceIte, Nat.zero_add]; rfl) ?_
  refine RunF.q (o_assign rfl) rfl ?_
  refine AW.seq ?_
  refine AW.region (by kernel_rfl) ?_
  refine RunF.q (o_move rfl) rfl ?_
  refine RunF.q (o_move rfl) rfl ?_
  refine RunF.q (o_indexAddr_arr tk37 ts36 rfl rfl (by first | decide | (constructor <;> omega)) rfl) rfl ?_
  refine RunF.q (o_load rfl tk36 ts36 rfl rfl rfl) rfl ?_
  refine RunF.q (o_convert tk36 tk30 rfl (i64_in _ (by omega))) rfl ?_
  refine RunF.q (o_mul rfl rfl (i64_in _ (by omega))) rfl ?_
  refine RunF.w (o_buildSlice (nm := 20) tk22 ts30 tz30 rfl rfl rfl rfl) (by simp only [H.app, appO, patchAll, patch, List.map_cons, List.map_nil, List.append_nil, List.nil_append, List.cons_append, List.set_cons_zero, List.set_cons_succ, Option.map_some, Option.map_none, List.contains_cons, List.contains_nil, Nat.reduceAdd, Nat.reduceEqDiff, Nat.reduceBEq, Bool.or_false, Bool.false_eq_true, reduceIte, Nat.zero_add]; rfl) ?_
  refine RunF.w (o_append_own (nm := 21) tk22 tk22 ts30 tb30 tz30 rfl rfl rfl rfl rfl (by first | exact ⟨by decide, Nat.le_of_ble_eq_true rfl, by decide, by decide⟩ | exact ⟨by decide, Nat.le_of_ble_eq_true rfl, Nat.le_of_ble_eq_true rfl, by decide, by decide⟩ | (simp; omega)) rfl rfl rfl rfl rfl) (by simp only [H.app, appO, patchAll, patch, List.map_cons, List.map_nil, List.append_nil, List.nil_append, List.cons_append, List.set_cons_zero, List.set_cons_succ, Option.map_some, Option.map_none, List.contains_cons, List.contains_nil, Nat.reduceAdd, Nat.reduceEqDiff, Nat.reduceBEq, Bool.or_false, Bool.false_eq_true, reduceIte, Nat.zero_add]; rfl) ?_
  refine RunF.q (o_assign rfl) rfl ?_
  refine AW.seq ?_
  refine AW.draws (by kernel_rfl) (by kernel_rfl) ?_
  refine RunV.q (o_move rfl) rfl ?_
  refine RunV.q (o_move rfl) rfl ?_
  refine RunV.q (o_indexAddr_arr tk37 ts36 rfl rfl (by first | decide | (constructor <;> omega)) rfl) rfl ?_
  refine RunV.q (o_load rfl tk36 ts36 rfl rfl rfl) rfl ?_
  refine RunV.q (o_convert tk36 tk3 rfl (i64_in _ (by omega))) rfl ?_
  refine RunV.q (o_move rfl) rfl ?_
  refine RunV.q (o_indexAddr_arr tk37 ts36 rfl rfl (by first | decide | (constructor <;> omega)) rfl) rfl ?_
  refine RunV.q (o_load rfl tk36 ts36 rfl rfl rfl) rfl ?_
  refine RunV.q (o_convert tk36 tk3 rfl (i64_in _ (by omega))) rfl ?_
  refine RunV.q (o_mul rfl rfl (i64_in _ (by omega))) rfl ?_
  refine RunV.q (o_mul rfl rfl (i64_in _ (by omega))) rfl ?_
  refine RunV.w (o_buildSlice (nm := 22) tk22 ts30 tz30 rfl rfl rfl rfl) (by simp only [H.app, appO, patchAll, patch, List.map_cons, List.map_nil, List.append_nil, List.nil_append, List.cons_append, List.set_cons_zero, List.set_cons_succ, Option.map_some, Option.map_none, List.contains_cons, List.contains_nil, Nat.reduceAdd, Nat.reduceEqDiff, Nat.reduceBEq, Bool.or_false, Bool.false_eq_true, reduceIte, Nat.zero_add]; rfl) ?_
  refine RunV.w (o_append_own (nm := 23) tk22 tk22 ts30 tb30 tz30 rfl rfl rfl rfl rfl (by first | exact ⟨by decide, Nat.le_of_ble_eq_true rfl, by decide, by decide⟩ | exact ⟨by decide, Nat.le_of_ble_eq_true rfl, Nat.le_of_ble_eq_true rfl, by decide, by decide⟩ | (simp; omega)) rfl rfl rfl rfl rfl) (by simp only [H.app, appO, patchAll, patch, List.map_cons, List.map_nil, List.append_nil, List.nil_append, List.cons_append, List.set_cons_zero, List.set_cons_succ, Option.map_some, Option.map_none, List.contains_cons, List.contains_nil, Nat.reduceAdd, Nat.reduceEqDiff, Nat.reduceBEq, Bool.or_false, Bool.false_eq_true, reduceIte, Nat.zero_add]; rfl) ?_
  refine RunV.q (o_assign rfl) rfl ?_
  refine And.intro (by kernel_rfl) ?_
  refine AW.region (by kernel_rfl) ?_
  refine RunF.q (o_move rfl) rfl ?_
  refine RunF.w (o_buildSlice (nm := 24) tk22 ts30 tz30 rfl rfl rfl rfl) (by simp only [H.app, appO, patchAll, patch, List.map_cons, List.map_nil, List.append_nil, List.nil_append, List.cons_append, List.set_cons_zero, List.set_cons_succ, Option.map_some, Option.map_none, List.contains_cons, List.contains_nil, Nat.reduceAdd, Nat.reduceEqDiff, Nat.reduceBEq, Bool.or_false, Bool.false_eq_true, reduceIte, Nat.zero_add]; rfl) ?_
  refine RunF.w (o_append_own (nm := 25) tk22 tk22 ts30 tb30 tz30 rfl rfl rfl rfl rfl (by first | exact ⟨by decide, Nat.le_of_ble_eq_true rfl, by decide, by decide⟩ | exact ⟨by decide, Nat.le_of_ble_eq_true rfl, Nat.le_of_ble_eq_true rfl, by decide, by decide⟩ | (simp; omega)) rfl rfl rfl rfl rfl) (by simp only [H.app, appO, patchAll, patch, List.map_cons, List.map_nil, List.append_nil, List.nil_append, List.cons_append, List.set_cons_zero, List.set_cons_succ, Option.map_some, Option.map_none, List.contains_cons, List.contains_nil, Nat.reduceAdd, Nat.reduceEqDiff, Nat.reduceBEq, Bool.or_false, Bool.false_eq_true, reduceIte, Nat.zero_add]; rfl) ?_
  refine RunF.q (o_assign rfl) rfl ?_
  refine AW.region (by kernel_rfl) ?_
  refine RunF.q (o_move rfl) rfl ?_
  refine RunF.q (o_add rfl rfl (by first | exact i64_in _ (by omega) | rfl)) rfl ?_
  refine RunF.q (o_assign rfl) rfl ?_
  refine AWin.go ?_
  refine AW.seq ?_
  refine AW.seq ?_
  refine AW.region (by kernel_rfl) ?_
  refine RunF.q (o_move rfl) rfl ?_
  refine RunF.q (o_lss rfl rfl) rfl ?_
  refine AW.cond rfl (fun hc0 => absurd hc0 (by decide)) (fun hc0 => ?_)
  refine AW.exit ?_
  refine AW.seq ?_
  refine AW.region (by kernel_rfl) ?_
  refine RunF.q (o_move rfl) rfl ?_
  refine RunF.w (o_call (no := 26) (nr := 0) rfl rfl rfl (by (repeat' first | exact cl_nil | exact cL_flat rfl | exact cL_flat (ints_flat _) | apply cL_vs | apply cl_cons | exact cv_flat rfl | apply cv_agg | apply cv_ptr_o | apply cv_sl_o rfl | apply cv_func | exact cO_old rfl | (apply cO_new; (focus rfl); (focus rfl)) | (apply cv_sl_r; (focus rfl); (focus rfl); (focus (simp; done)); (focus (first | exact ints_all _ | rfl))) | (apply cv_ptr_r rfl ?_ rfl rfl) | (simp only [List.nil_append, List.cons_append, List.length_cons, List.length_nil, Nat.zero_add, Nat.reduceAdd, List.set_cons_zero, List.set_cons_succ]; rfl) | rfl)) (by rfl) (by exact diag_ok [a0 * 16777216, a1 * 16777216, a2 * 16777216] false (by simp) (by simp) (inQ3 (i8_inQ h0) (i8_inQ h1) (i8_inQ h2))) (by rfl) rfl rfl (by first | exact reV_bare _ _ rfl | (simp only [reV, reVs, List.all_cons, List.all_nil, AV.flat, Bool.and_true, Bool.true_and, Bool.false_and, Bool.and_false, Bool.false_eq_true, reduceIte, CS.de, List.getElem?_cons_zero, List.getElem?_cons_succ, List.getElem?_nil, List.length_cons, List.length_nil, Nat.reduceSub, Nat.reduceAdd, Nat.zero_add, Nat.add_zero, Nat.sub_self]; rfl)) (by simp only [CS.eff, rdsR, rdsO, List.map_cons, List.map_nil, reL_ints, num, List.nil_append, List.append_nil, List.cons_append]; rfl)) (by simp only [H.app, appO, patchAll, patch, List.map_cons, List.map_nil, List.append_nil, List.nil_append, List.cons_append, List.set_cons_zero, List.set_cons_succ, Option.map_some, Option.map_none, List.contains_cons, List.contains_nil, Nat.reduceAdd, Nat.reduceEqDiff, Nat.reduceBEq, Bool.or_false, Bool.false_eq_true, reduceIte, Nat.zero_add]; rfl) ?_
  refine RunF.q (o_move rfl) rfl ?_
  refine RunF.q (o_extract rfl rfl) rfl ?_
  refine RunF.q (o_extract rfl rfl) rfl ?_
  refine RunF.w (o_alloc (nm := 27) tz24 rfl) (by simp only [H.app, appO, patchAll, patch, List.map_cons, List.map_nil, List.append_nil, List.nil_append, List.cons_append, List.set_cons_zero, List.set_cons_succ, Option.map_some, Option.map_none, List.contains_cons, List.contains_nil, Nat.reduceAdd, Nat.reduceEqDiff, Nat.reduceBEq, Bool.or_false, Bool.false_eq_true, reduceIte, Nat.zero_add]; rfl) ?_
  refine RunF.wn (o_store rfl rfl rfl ts24 rfl rfl) (by simp only [H.app, appO, patchAll, patch, List.map_cons, List.map_nil, List.append_nil, List.nil_append, List.cons_append, List.set_cons_zero, List.set_cons_succ, Option.map_some, Option.map_none, List.contains_cons, List.contains_nil, Nat.reduceAdd, Nat.reduceEqDiff, Nat.reduceBEq, Bool.or_false, Bool.false_eq_true, reduceIte, Nat.zero_add]; rfl) ?_
  refine RunF.q (o_assign rfl) rfl ?_
  refine AW.seq ?_
  refine AW.region (by kernel_rfl) ?_
  refine RunF.q (o_move rfl) rfl ?_
  refine RunF.w (o_call (no := 28) (nr := 0) rfl rfl rfl (by (repeat' first | exact cl_nil | exact cL_flat rfl | exact cL_flat (ints_flat _) | apply cL_vs | apply cl_cons | exact cv_flat rfl | apply cv_agg | apply cv_ptr_o | apply cv_sl_o rfl | apply cv_func | exact cO_old rfl | (apply cO_new; (focus rfl); (focus rfl)) | (apply cv_sl_r; (focus rfl); (focus rfl); (focus (simp; done)); (focus (first | exact ints_all _ | rfl))) | (apply cv_ptr_r rfl ?_ rfl rfl) | (simp only [List.nil_append, List.cons_append, List.length_cons, List.length_nil, Nat.zero_add, Nat.reduceAdd, List.set_cons_zero, List.set_cons_succ]; rfl) | rfl)) (by rfl) (by exact diag_ok [b0 * 16777216, b1 * 16777216, b2 * 16777216] false (by simp) (by simp) (inQ3 (i8_inQ k0) (i8_inQ k1) (i8_inQ k2))) (by rfl) rfl rfl (by first | exact reV_bare _ _ rfl | (simp only [reV, reVs, List.all_cons, List.all_nil, AV.flat, Bool.and_true, Bool.true_and, Bool.false_and, Bool.and_false, Bool.false_eq_true, reduceIte, CS.de, List.getElem?_cons_zero, List.getElem?_cons_succ, List.getElem?_nil, List.length_cons, List.length_nil, Nat.reduceSub, Nat.reduceAdd, Nat.zero_add, Nat.add_zero, Nat.sub_self]; rfl)) (by simp only [CS.eff, rdsR, rdsO, List.map_cons, List.map_nil, reL_ints, num, List.nil_append, List.append_nil, List.cons_append]; rfl)) (by simp only [H.app, appO, patchAll, patch, List.map_cons, List.map_nil, List.append_nil, List.nil_append, List.cons_append, List.set_cons_zero, List.set_cons_succ, Option.map_some, Option.map_none, List.contains_cons, List.contains_nil, Nat.reduceAdd, Nat.reduceEqDiff, Nat.reduceBEq, Bool.or_false, Bool.false_eq_true, reduceIte, Nat.zero_add]; rfl) ?_
  refine RunF.q (o_move rfl) rfl ?_
  refine RunF.q (o_extract rfl rfl) rfl ?_
  refine RunF.q (o_extract rfl rfl) rfl ?_
  refine RunF.w (o_alloc (nm := 29) tz24 rfl) (by simp only [H.app, appO, patchAll, patch, List.map_cons, List.map_nil, List.append_nil, List.nil_append, List.cons_append, List.set_cons_zero, List.set_cons_succ, Option.map_some, Option.map_none, List.contains_cons, List.contains_nil, Nat.reduceAdd, Nat.reduceEqDiff, Nat.reduceBEq, Bool.or_false, Bool.false_eq_true, reduceIte, Nat.zero_add]; rfl) ?_
  refine RunF.wn (o_store rfl rfl rfl ts24 rfl rfl) (by simp only [H.app, appO, patchAll, patch, List.map_cons, List.map_nil, List.append_nil, List.nil_append, List.cons_append, List.set_cons_zero, List.set_cons_succ, Option.map_some, Option.map_none, List.contains_cons, List.contains_nil, Nat.reduceAdd, Nat.reduceEqDiff, Nat.reduceBEq, Bool.or_false, Bool.false_eq_true, reduceIte, Nat.zero_add]; rfl) ?_
  refine RunF.q (o_assign rfl) rfl ?_
  refine AW.seq ?_
  refine AW.region (by kernel_rfl) ?_
  refine RunF.q (o_move rfl) rfl ?_
  refine RunF.w (o_call (no := 30) (nr := 0) rfl rfl rfl (by (repeat' first | exact cl_nil | exact cL_flat rfl | exact cL_flat (ints_flat _) | apply cL_vs | apply cl_cons | exact cv_flat rfl | apply cv_agg | apply cv_ptr_o | apply cv_sl_o rfl | apply cv_func | exact cO_old rfl | (apply cO_new; (focus rfl); (focus rfl)) | (apply cv_sl_r; (focus rfl); (focus rfl); (focus (simp; done)); (focus (first | exact ints_all _ | rfl))) | (apply cv_ptr_r rfl ?_ rfl rfl) | (simp only [List.nil_append, List.cons_append, List.length_cons, List.length_nil, Nat.zero_add, Nat.reduceAdd, List.set_cons_zero, List.set_cons_succ]; rfl) | rfl)) (by rfl) (by exact diag_ok [a0 * b0 * 16777216, a1 * b1 * 16777216, a2 * b2 * 16777216] false (by simp) (by simp) (inQ3 (i8_mul_inQ h0 k0) (i8_mul_inQ h1 k1) (i8_mul_inQ h2 k2))) (by rfl) rfl rfl (by first | exact reV_bare _ _ rfl | (simp only [reV, reVs, List.all_cons, List.all_nil, AV.flat, Bool.and_true, Bool.true_and, Bool.false_and, Bool.and_false, Bool.false_eq_true, reduceIte, CS.de, List.getElem?_cons_zero, List.getElem?_cons_succ, List.getElem?_nil, List.length_cons, List.length_nil, Nat.reduceSub, Nat.reduceAdd, Nat.zero_add, Nat.add_zero, Nat.sub_self]; rfl)) (by simp only [CS.eff, rdsR, rdsO, List.map_cons, List.map_nil, reL_ints, num, List.nil_append, List.append_nil, List.cons_append]; rfl)) (by simp only [H.app, appO, patchAll, patch, List.map_cons, List.map_nil, List.append_nil, List.nil_append, List.cons_append, List.set_cons_zero, List.set_cons_succ, Option.map_some, Option.map_none, List.contains_cons, List.contains_nil, Nat.reduceAdd, Nat.reduceEqDiff, Nat.reduceBEq, Bool.or_false, Bool.false_eq_true, reduceIte, Nat.zero_add]; rfl) ?_
  refine RunF.q (o_move rfl) rfl ?_
  refine RunF.q (o_extract rfl rfl) rfl ?_
  refine RunF.q (o_extract rfl rfl) rfl ?_
  refine RunF.w (o_alloc (nm := 31) tz24 rfl) (by simp only [H.app, appO, patchAll, patch, List.map_cons, List.map_nil, List.append_nil, List.nil_append, List.cons_append, List.set_cons_zero, List.set_cons_succ, Option.map_some, Option.map_none, List.contains_cons, List.contains_nil, Nat.reduceAdd, Nat.reduceEqDiff, Nat.reduceBEq, Bool.or_false, Bool.false_eq_true, reduceIte, Nat.zero_add]; rfl) ?_
  refine RunF.wn (o_store rfl rfl rfl ts24 rfl rfl) (by simp only [H.app, appO, patchAll, patch, List.map_cons, List.map_nil, List.append_nil, List.nil_append, List.cons_append, List.set_cons_zero, List.set_cons_succ, Option.map_some, Option.map_none, List.contains_cons, List.contains_nil, Nat.reduceAdd, Nat.reduceEqDiff, Nat.reduceBEq, Bool.or_false, Bool.false_eq_true, reduceIte, Nat.zero_add]; rfl) ?_
  refine RunF.q (o_assign rfl) rfl ?_
  refine AW.seq ?_
  refine AW.region (by kernel_rfl) ?_
  refine RunF.q (o_load_agg rfl tk24 ts24 rfl rfl rfl (by simp only [List.take_succ_cons, List.drop_succ_cons, List.drop_zero, List.take_zero, List.take_nil, List.drop_nil, Nat.zero_add, Nat.reduceAdd]; rfl)) rfl ?_
  refine RunF.q (o_load_agg rfl tk24 ts24 rfl rfl rfl (by simp only [List.take_succ_cons, List.drop_succ_cons, List.drop_zero, List.take_zero, List.take_nil, List.drop_nil, Nat.zero_add, Nat.reduceAdd]; rfl)) rfl ?_
  refine RunF.w (o_call (no := 32) (nr := 0) rfl rfl rfl (by (repeat' first | exact cl_nil | exact cL_flat rfl | exact cL_flat (ints_flat _) | apply cL_vs | apply cl_cons | exact cv_flat rfl | apply cv_agg | apply cv_ptr_o | apply cv_sl_o rfl | apply cv_func | exact cO_old rfl | (apply cO_new; (focus rfl); (focus rfl)) | (apply cv_sl_r; (focus rfl); (focus rfl); (focus (simp; done)); (focus (first | exact ints_all _ | rfl))) | (apply cv_ptr_r rfl ?_ rfl rfl) | (simp only [List.nil_append, List.cons_append, List.length_cons, List.length_nil, Nat.zero_add, Nat.reduceAdd, List.set_cons_zero, List.set_cons_succ]; rfl) | rfl)) (by rfl) (by exact (by have h := mmul_ok 3 3 3 (by decide) (by decide) (by decide) (diagL [a0 * 16777216, a1 * 16777216, a2 * 16777216]) (diagL [b0 * 16777216, b1 * 16777216, b2 * 16777216]) (diagL_length _) (diagL_length _) false false (by decide) (by decide); rw [diags_mulL h0 h1 h2 k0 k1 k2, diags_mulX h0 h1 h2 k0 k1 k2] at h; exact h)) (by rfl) rfl rfl (by first | exact reV_bare _ _ rfl | (simp only [reV, reVs, List.all_cons, List.all_nil, AV.flat, Bool.and_true, Bool.true_and, Bool.false_and, Bool.and_false, Bool.false_eq_true, reduceIte, CS.de, List.getElem?_cons_zero, List.getElem?_cons_succ, List.getElem?_nil, List.length_cons, List.length_nil, Nat.reduceSub, Nat.reduceAdd, Nat.zero_add, Nat.add_zero, Nat.sub_self]; rfl)) (by simp only [CS.eff, rdsR, rdsO, List.map_cons, List.map_nil, reL_ints, num, List.nil_append, List.append_nil, List.cons_append]; rfl)) (by simp only [H.app, appO, patchAll, patch, List.map_cons, List.map_nil, List.append_nil, List.nil_append, List.cons_append, List.set_cons_zero, List.set_cons_succ, Option.map_some, Option.map_none, List.contains_cons, List.contains_nil, Nat.reduceAdd, Nat.reduceEqDiff, Nat.reduceBEq, Bool.or_false, Bool.false_eq_true, reduceIte, Nat.zero_add]; rfl) ?_
  refine RunF.q (o_move rfl) rfl ?_
  refine RunF.q (o_extract rfl rfl) rfl ?_
  refine RunF.q (o_extract rfl rfl) rfl ?_
  refine RunF.q (o_extract rfl rfl) rfl ?_
  refine RunF.w (o_alloc (nm := 33) tz24 rfl) (by simp only [H.app, appO, patchAll, patch, List.map_cons, List.map_nil, List.append_nil, List.nil_append, List.cons_append, List.set_cons_zero, List.set_cons_succ, Option.map_some, Option.map_none, List.contains_cons, List.contains_nil, Nat.reduceAdd, Nat.reduceEqDiff, Nat.reduceBEq, Bool.or_false, Bool.false_eq_true, reduceIte, Nat.zero_add]; rfl) ?_
  refine RunF.wn (o_store rfl rfl rfl ts24 rfl rfl) (by simp only [H.app, appO, patchAll, patch, List.map_cons, List.map_nil, List.append_nil, List.nil_append, List.cons_append, List.set_cons_zero, List.set_cons_succ, Option.map_some, Option.map_none, List.contains_cons, List.contains_nil, Nat.reduceAdd, Nat.reduceEqDiff, Nat.reduceBEq, Bool.or_false, Bool.false_eq_true, reduceIte, Nat.zero_add]; rfl) ?_
  refine RunF.q (o_assign rfl) rfl ?_
  refine RunF.q (o_assign rfl) rfl ?_
  refine AW.seq ?_
  refine AW.region (by kernel_rfl) ?_
  refine RunF.w (o_call (no := 34) (nr := 0) rfl rfl rfl (by (repeat' first | exact cl_nil | exact cL_flat rfl | exact cL_flat (ints_flat _) | apply cL_vs | apply cl_cons | exact cv_flat rfl | apply cv_agg | apply cv_ptr_o | apply cv_sl_o rfl | apply cv_func | exact cO_old rfl | (apply cO_new; (focus rfl); (focus rfl)) | (apply cv_sl_r; (focus rfl); (focus rfl); (focus (simp; done)); (focus (first | exact ints_all _ | rfl))) | (apply cv_ptr_r rfl ?_ rfl rfl) | (simp only [List.nil_append, List.cons_append, List.length_cons, List.length_nil, Nat.zero_add, Nat.reduceAdd, List.set_cons_zero, List.set_cons_succ]; rfl) | rfl)) (by rfl) (by exact eye_ok 3 (by decide) (by decide)) (by rfl) rfl rfl (by first | exact reV_bare _ _ rfl | (simp only [reV, reVs, List.all_cons, List.all_nil, AV.flat, Bool.and_true, Bool.true_and, Bool.false_and, Bool.and_false, Bool.false_eq_true, reduceIte, CS.de, List.getElem?_cons_zero, List.getElem?_cons_succ, List.getElem?_nil, List.length_cons, List.length_nil, Nat.reduceSub, Nat.reduceAdd, Nat.zero_add, Nat.add_zero, Nat.sub_self]; rfl)) (by simp only [CS.eff, rdsR, rdsO, List.map_cons, List.map_nil, reL_ints, num, List.nil_append, List.append_nil, List.cons_append]; rfl)) (by simp only [H.app, appO, patchAll, patch, List.map_cons, List.map_nil, List.append_nil, List.nil_append, List.cons_append, List.set_cons_zero, List.set_cons_succ, Option.map_some, Option.map_none, List.contains_cons, List.contains_nil, Nat.reduceAdd, Nat.reduceEqDiff, Nat.reduceBEq, Bool.or_false, Bool.false_eq_true, reduceIte, Nat.zero_add]; rfl) ?_
  refine RunF.q (o_move rfl) rfl ?_
  refine RunF.q (o_extract rfl rfl) rfl ?_
  refine RunF.q (o_extract rfl rfl) rfl ?_
  refine RunF.w (o_alloc (nm := 35) tz24 rfl) (by simp only [H.app, appO, patchAll, patch, List.map_cons, List.map_nil, List.append_nil, List.nil_append, List.cons_append, List.set_cons_zero, List.set_cons_succ, Option.map_some, Option.map_none, List.contains_cons, List.contains_nil, Nat.reduceAdd, Nat.reduceEqDiff, Nat.reduceBEq, Bool.or_false, Bool.false_eq_true, reduceIte, Nat.zero_add]; rfl) ?_
  refine RunF.wn (o_store rfl rfl rfl ts24 rfl rfl) (by simp only [H.app, appO, patchAll, patch, List.map_cons, List.map_nil, List.append_nil, List.nil_append, List.cons_append, List.set_cons_zero, List.set_cons_succ, Option.map_some, Option.map_none, List.contains_cons, List.contains_nil, Nat.reduceAdd, Nat.reduceEqDiff, Nat.reduceBEq, Bool.or_false, Bool.false_eq_true, reduceIte, Nat.zero_add]; rfl) ?_
  refine RunF.q (o_assign rfl) rfl ?_
  refine AW.seq ?_
  refine AW.region (by kernel_rfl) ?_
  refine RunF.q (o_move rfl) rfl ?_
  refine RunF.w (o_call (no := 36) (nr := 0) rfl rfl rfl (by (repeat' first | exact cl_nil | exact cL_flat rfl | exact cL_flat (ints_flat _) | apply cL_vs | apply cl_cons | exact cv_flat rfl | apply cv_agg | apply cv_ptr_o | apply cv_sl_o rfl | apply cv_func | exact cO_old rfl | (apply cO_new; (focus rfl); (focus rfl)) | (apply cv_sl_r; (focus rfl); (focus rfl); (focus (simp; done)); (focus (first | exact ints_all _ | rfl))) | (apply cv_ptr_r rfl ?_ rfl rfl) | (simp only [List.nil_append, List.cons_append, List.length_cons, List.length_nil, Nat.zero_add, Nat.reduceAdd, List.set_cons_zero, List.set_cons_succ]; rfl) | rfl)) (by rfl) (by exact (by have h := diag_ok [16777216, 16777216, 16777216] false (by simp) (by simp) (inQ3 inQ_one inQ_one inQ_one); rw [eyeL_diag] at h; exact h)) (by rfl) rfl rfl (by first | exact reV_bare _ _ rfl | (simp only [reV, reVs, List.all_cons, List.all_nil, AV.flat, Bool.and_true, Bool.true_and, Bool.false_and, Bool.and_false, Bool.false_eq_true, reduceIte, CS.de, List.getElem?_cons_zero, List.getElem?_cons_succ, List.getElem?_nil, List.length_cons, List.length_nil, Nat.reduceSub, Nat.reduceAdd, Nat.zero_add, Nat.add_zero, Nat.sub_self]; rfl)) (by simp only [CS.eff, rdsR, rdsO, List.map_cons, List.map_nil, reL_ints, num, List.nil_append, List.append_nil, List.cons_append]; rfl)) (by simp only [H.app, appO, patchAll, patch, List.map_cons, List.map_nil, List.append_nil, List.nil_append, List.cons_append, List.set_cons_zero, List.set_cons_succ, Option.map_some, Option.map_none, List.contains_cons, List.contains_nil, Nat.reduceAdd, Nat.reduceEqDiff, Nat.reduceBEq, Bool.or_false, Bool.false_eq_true, reduceIte, Nat.zero_add]; rfl) ?_
  refine RunF.q (o_move rfl) rfl ?_
  refine RunF.q (o_extract rfl rfl) rfl ?_
  refine RunF.q (o_extract rfl rfl) rfl ?_
  refine RunF.w (o_alloc (nm := 37) tz24 rfl) (by simp only [H.app, appO, patchAll, patch, List.map_cons, List.map_nil, List.append_nil, List.nil_append, List.cons_append, List.set_cons_zero, List.set_cons_succ, Option.map_some, Option.map_none, List.contains_cons, List.contains_nil, Nat.reduceAdd, Nat.reduceEqDiff, Nat.reduceBEq, Bool.or_false, Bool.false_eq_true, reduceIte, Nat.zero_add]; rfl) ?_
  refine RunF.wn (o_store rfl rfl rfl ts24 rfl rfl) (by simp only [H.app, appO, patchAll, patch, List.map_cons, List.map_nil, List.append_nil, List.nil_append, List.cons_append, List.set_cons_zero, List.set_cons_succ, Option.map_some, Option.map_none, List.contains_cons, List.contains_nil, Nat.reduceAdd, Nat.reduceEqDiff, Nat.reduceBEq, Bool.or_false, Bool.false_eq_true, reduceIte, Nat.zero_add]; rfl) ?_
  refine RunF.q (o_assign rfl) rfl ?_
  refine AW.seq ?_
  refine AW.region (by kernel_rfl) ?_
  refine RunF.q (o_move rfl) rfl ?_
  refine RunF.q (o_eql rfl rfl) rfl ?_
  refine RunF.q (o_move rfl) rfl ?_
  refine RunF.gq rfl (o_move rfl) rfl ?_
  refine RunF.gq rfl (o_eql rfl rfl) rfl ?_
  refine RunF.q (o_pick_t rfl rfl) rfl ?_
  refine RunF.q (o_move rfl) rfl ?_
  refine RunF.gq rfl (o_move rfl) rfl ?_
  refine RunF.gq rfl (o_eql rfl rfl) rfl ?_
  refine RunF.q (o_pick_t rfl rfl) rfl ?_
  refine RunF.q (o_move rfl) rfl ?_
  refine RunF.gq rfl (o_move rfl) rfl ?_
  refine RunF.gq rfl (o_eql rfl rfl) rfl ?_
  refine RunF.q (o_pick_t rfl rfl) rfl ?_
  refine RunF.q (o_move rfl) rfl ?_
  refine RunF.gq rfl (o_move rfl) rfl ?_
  refine RunF.gq rfl (o_eql rfl rfl) rfl ?_
  refine RunF.q (o_pick_t rfl rfl) rfl ?_
  refine RunF.q (o_move rfl) rfl ?_
  refine RunF.gq rfl (o_move rfl) rfl ?_
  refine RunF.gq rfl (o_eql rfl rfl) rfl ?_
  refine RunF.q (o_pick_t rfl rfl) rfl ?_
  refine RunF.q (o_assign rfl) rfl ?_
  refine AW.seq ?_
  refine AW.region (by kernel_rfl) ?_
  refine RunF.q (o_move rfl) rfl ?_
  refine RunF.q (o_move rfl) rfl ?_
  refine RunF.gq rfl (o_move rfl) rfl ?_
  refine RunF.q (o_pick_t rfl rfl) rfl ?_
  refine RunF.q (o_move rfl) rfl ?_
  refine RunF.gq rfl (o_move rfl) rfl ?_
  refine RunF.gq rfl (o_not rfl) rfl ?_
  refine RunF.q (o_pick_t rfl rfl) rfl ?_
  refine RunF.q (o_move rfl) rfl ?_
  refine RunF.gq rfl (o_load_agg rfl tk24 ts24 rfl rfl rfl (by simp only [List.take_succ_cons, List.drop_succ_cons, List.drop_zero, List.take_zero, List.take_nil, List.drop_nil, Nat.zero_add, Nat.reduceAdd]; rfl)) rfl ?_
  refine RunF.gq rfl (o_load_agg rfl tk24 ts24 rfl rfl rfl (by simp only [List.take_succ_cons, List.drop_succ_cons, List.drop_zero, List.take_zero, List.take_nil, List.drop_nil, Nat.zero_add, Nat.reduceAdd]; rfl)) rfl ?_
  refine RunF.gq rfl (o_call (no := 38) (nr := 0) rfl rfl rfl (by (repeat' first | exact cl_nil | exact cL_flat rfl | exact cL_flat (ints_flat _) | apply cL_vs | apply cl_cons | exact cv_flat rfl | apply cv_agg | apply cv_ptr_o | apply cv_sl_o rfl | apply cv_func | exact cO_old rfl | (apply cO_new; (focus rfl); (focus rfl)) | (apply cv_sl_r; (focus rfl); (focus rfl); (focus (simp; done)); (focus (first | exact ints_all _ | rfl))) | (apply cv_ptr_r rfl ?_ rfl rfl) | (simp only [List.nil_append, List.cons_append, List.length_cons, List.length_nil, Nat.zero_add, Nat.reduceAdd, List.set_cons_zero, List.set_cons_succ]; rfl) | rfl)) (by rfl) (by exact rsame_is (z := true) (by rw [diagL_length]; simp) (sameM_refl _ _ _)) (by rfl) rfl rfl (by first | exact reV_bare _ _ rfl | (simp only [reV, reVs, List.all_cons, List.all_nil, AV.flat, Bool.and_true, Bool.true_and, Bool.false_and, Bool.and_false, Bool.false_eq_true, reduceIte, CS.de, List.getElem?_cons_zero, List.getElem?_cons_succ, List.getElem?_nil, List.length_cons, List.length_nil, Nat.reduceSub, Nat.reduceAdd, Nat.zero_add, Nat.add_zero, Nat.sub_self]; rfl)) rfl) (by rfl) ?_
  refine RunF.q (o_pick_t rfl rfl) rfl ?_
  refine RunF.q (o_move rfl) rfl ?_
  refine RunF.gq rfl (o_load_agg rfl tk24 ts24 rfl rfl rfl (by simp only [List.take_succ_cons, List.drop_succ_cons, List.drop_zero, List.take_zero, List.take_nil, List.drop_nil, Nat.zero_add, Nat.reduceAdd]; rfl)) rfl ?_
  refine RunF.gq rfl (o_load_agg rfl tk24 ts24 rfl rfl rfl (by simp only [List.take_succ_cons, List.drop_succ_cons, List.drop_zero, List.take_zero, List.take_nil, List.drop_nil, Nat.zero_add, Nat.reduceAdd]; rfl)) rfl ?_
  refine RunF.gq rfl (o_call (no := 38) (nr := 0) rfl rfl rfl (by (repeat' first | exact cl_nil | exact cL_flat rfl | exact cL_flat (ints_flat _) | apply cL_vs | apply cl_cons | exact cv_flat rfl | apply cv_agg | apply cv_ptr_o | apply cv_sl_o rfl | apply cv_func | exact cO_old rfl | (apply cO_new; (focus rfl); (focus rfl)) | (apply cv_sl_r; (focus rfl); (focus rfl); (focus (simp; done)); (focus (first | exact ints_all _ | rfl))) | (apply cv_ptr_r rfl ?_ rfl rfl) | (simp only [List.nil_append, List.cons_append, List.length_cons, List.length_nil, Nat.zero_add, Nat.reduceAdd, List.set_cons_zero, List.set_cons_succ]; rfl) | rfl)) (by rfl) (by exact rsame_is (z := true) (by rw [eyeL_length]; decide) (sameM_refl _ _ _)) (by rfl) rfl rfl (by first | exact reV_bare _ _ rfl | (simp only [reV, reVs, List.all_cons, List.all_nil, AV.flat, Bool.and_true, Bool.true_and, Bool.false_and, Bool.and_false, Bool.false_eq_true, reduceIte, CS.de, List.getElem?_cons_zero, List.getElem?_cons_succ, List.getElem?_nil, List.length_cons, List.length_nil, Nat.reduceSub, Nat.reduceAdd, Nat.zero_add, Nat.add_zero, Nat.sub_self]; rfl)) rfl) (by rfl) ?_
  refine RunF.q (o_pick_t rfl rfl) rfl ?_
  refine RunF.q (o_assign rfl) rfl ?_
  refine AW.ret ?_
  exact FinQ.ret [] [] (ress_tmp rfl ress_nil) rfl .nil .nil (by repeat' first | exact RN.self rfl | exact RN.top | exact RN.ptr rfl | exact RN.sl rfl | exact RN.slf rfl | apply RN.agg | apply RN.tuple | apply RN.fn | exact RNs.nil | apply RNs.cons | (apply RNs.flat; simp; done))

end Go.Proofs.Ytnkijhpikeokfaa
