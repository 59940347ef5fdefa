/- Turns: turned twice as before; a product turned; times Eye as before. -/
import Derived.Test.YtnkijhpikeokfaaF10
import Derived.Test.YtnkijhpikeokfaaF11
import Derived.Test.YtnkijhpikeokfaaF12
set_option linter.unusedSimpArgs false
set_option linter.unusedVariables false
namespace Go.Proofs.Ytnkijhpikeokfaa
open Go Go.Sym Go.IntWalk

theorem signedQ_in (p q : Int) (z : Bool) : inQ (signedQ p q z) := by
  unfold signedQ
  split
  · exact clampQ_in _
  · exact clampQ_in _
theorem mulN2_comm (x y : Int) : mulN2 x y = mulN2 y x := by unfold mulN2; rw [Nat.mul_comm]
theorem mulZ_comm (x y : Int) : mulZ x y = mulZ y x := by unfold mulZ; cases decide (clampQ x < 0) <;> cases decide (clampQ y < 0) <;> rfl
theorem mulQ_comm (x y : Int) : mulQ x y = mulQ y x := by unfold mulQ; rw [mulN2_comm, mulZ_comm]
theorem mulF_comm (x y : Int) : mulF x y = mulF y x := by unfold mulF; rw [mulN2_comm, mulZ_comm, both2_comm]
theorem inQ_zero : inQ 0 := by unfold inQ; omega
theorem inQ_one : inQ 16777216 := by unfold inQ; omega
theorem rnd24_zero : rnd24 0 = 0 := by decide
theorem rnd24_whole (n : Nat) : rnd24 (n * 16777216) = n := by unfold rnd24; split <;> omega
theorem signed_small {q : Nat} {z : Bool} (h : q ≤ 70368744177663) : signedQ ((q / 18446744073709551616 : Nat) : Int) ((q % 18446744073709551616 : Nat) : Int) z = (if z then 0 - (q : Int) else q) ∧ signedF ((q / 18446744073709551616 : Nat) : Int) ((q % 18446744073709551616 : Nat) : Int) z = false := by
  have e1 : q / 18446744073709551616 = 0 := by omega
  have e2 : q % 18446744073709551616 = q := by omega
  rw [e1, e2]
  have hc : ¬ (((0 : Nat) : Int) ≠ 0 ∨ (q : Int) > 70368744177664) := by omega
  have hin : inQ (if z then 0 - (q : Int) else q) := by unfold inQ; cases z <;> simp <;> omega
  unfold signedQ signedF
  rw [if_neg hc, if_neg hc, clampQ_inQ hin]
  simp
theorem signed_low {q : Nat} (h : q ≤ 70368744177664) : signedQ ((q / 18446744073709551616 : Nat) : Int) ((q % 18446744073709551616 : Nat) : Int) true = 0 - (q : Int) ∧ signedF ((q / 18446744073709551616 : Nat) : Int) ((q % 18446744073709551616 : Nat) : Int) true = false := by
  have e1 : q / 18446744073709551616 = 0 := by omega
  have e2 : q % 18446744073709551616 = q := by omega
  rw [e1, e2]
  have hc : ¬ (((0 : Nat) : Int) ≠ 0 ∨ (q : Int) > 70368744177664) := by omega
  have hin : inQ (if true then 0 - (q : Int) else q) := by unfold inQ; simp; omega
  unfold signedQ signedF
  rw [if_neg hc, if_neg hc, clampQ_inQ hin]
  simp
theorem mulQ_zero {x : Int} (h : inQ x) : mulQ x 0 = 0 ∧ mulF x 0 = false := by
  have e : mulN2 x 0 = 0 := by unfold mulN2; rw [clampQ_inQ inQ_zero]; simp [rnd24_zero]
  unfold mulQ mulF
  rw [e, both2_inQ h inQ_zero]
  have := signed_small (q := 0) (z := mulZ x 0) (by omega)
  rw [this.1, this.2]
  simp
theorem mulQ_one {x : Int} (h : inQ x) : mulQ x 16777216 = x ∧ mulF x 16777216 = false := by
  have e : mulN2 x 16777216 = x.natAbs := by
    unfold mulN2; rw [clampQ_inQ inQ_one, clampQ_inQ h]; exact rnd24_whole _
  have ez : mulZ x 16777216 = decide (x < 0) := by unfold mulZ; rw [clampQ_inQ inQ_one, clampQ_inQ h]; cases hd : decide (x < 0) <;> rfl
  unfold mulQ mulF
  rw [e, both2_inQ h inQ_one, ez]
  unfold inQ at h
  by_cases hx : x < 0
  · have := signed_low (q := x.natAbs) (by omega)
    rw [decide_eq_true hx, this.1, this.2]
    refine ⟨by omega, rfl⟩
  · have := signed_small (q := x.natAbs) (z := false) (by omega)
    rw [decide_eq_false hx, this.1, this.2]
    refine ⟨by simp; omega, rfl⟩
theorem addQ_zero_left {x : Int} (h : inQ x) : addQ 0 x = x := by rw [addQ_comm]; exact addQ_zero h
theorem addF_zero_left {x : Int} (h : inQ x) : addF 0 x = false := by rw [addF_comm]; exact addF_zero h

theorem dot_congr {X Y X' Y' : Nat → Int} : ∀ {n : Nat}, (∀ j, j < n → X j = X' j ∧ Y j = Y' j) → dot X Y n = dot X' Y' n
  | 0, _ => rfl
  | n + 1, h => by
    have h1 := dot_congr (n := n) fun j hj => h j (by omega)
    have h2 := h n (by omega)
    simp only [dot, h1, h2.1, h2.2]
theorem dot_comm (X Y : Nat → Int) : ∀ n, dot X Y n = dot Y X n
  | 0 => rfl
  | n + 1 => by simp only [dot, dot_comm X Y n, mulQ_comm (X n), mulF_comm (X n)]
theorem dot_inQ (X Y : Nat → Int) : ∀ n, inQ (dot X Y n).1
  | 0 => inQ_zero
  | n + 1 => by simp only [dot]; exact clampQ_in _
theorem dot_eye {X : Nat → Int} (hX : ∀ j, inQ (X j)) (k : Nat) : ∀ n, dot X (fun j => if j = k then 16777216 else 0) n = (if k < n then X k else 0, false)
  | 0 => rfl
  | n + 1 => by
    have ih := dot_eye hX k n
    simp only [dot, ih]
    by_cases e : n = k
    · subst e
      have := mulQ_one (hX n)
      simp only [if_true, Nat.lt_irrefl, if_false, Nat.lt_succ_self, this.1, this.2, addQ_zero_left (hX n), addF_zero_left (hX n), Bool.or_false]
    · have := mulQ_zero (hX n)
      have hin : inQ (if k < n then X k else 0) := by split; exact hX k; exact inQ_zero
      have e2 : (if k < n + 1 then X k else 0) = (if k < n then X k else 0) := by
        by_cases h : k < n
        · rw [if_pos h, if_pos (by omega)]
        · rw [if_neg h, if_neg (by omega)]
      simp only [if_neg e, this.1, this.2, addQ_zero hin, addF_zero hin, Bool.or_false, e2]

theorem mulD_eye {A : List Int} {m : Nat} (hQ : ∀ x ∈ A, inQ x) {i k : Nat} (hk : k < m) : mulD A (eyeL m) m m i k = (A.getD (i * m + k) 0, false) := by
  unfold mulD
  rw [dot_congr (X' := fun j => A.getD (i * m + j) 0) (Y' := fun j => if j = k then 16777216 else 0) (fun j hj => ⟨rfl, by unfold eyeL; rw [tab_at hj hk]⟩)]
  rw [dot_eye (fun j => getD_inQ hQ _) k m, if_pos hk]
theorem mulL_eye {A : List Int} {r m : Nat} (hA : A.length = r * m) (hQ : ∀ x ∈ A, inQ x) : mulL A (eyeL m) r m m = A := by
  have h1 : mulL A (eyeL m) r m m = tab (fun i k => A.getD (i * m + k) 0) m (r * m) := by
    unfold mulL
    exact tab_congr fun i k hi hk => by rw [mulD_eye hQ hk]
  rw [h1, tab_self hA]
theorem mulX_eye {A : List Int} {r m : Nat} (hQ : ∀ x ∈ A, inQ x) : mulX A (eyeL m) r m m = false := by
  unfold mulX
  exact anyT_none fun i k hi hk => by rw [mulD_eye hQ hk]
theorem trL_twice {L : List Int} {r c : Nat} (hL : L.length = r * c) : trL (trL L c r) r c = L := by
  have h1 : trL (trL L c r) r c = tab (fun i k => L.getD (i * c + k) 0) c (r * c) := by
    conv => lhs; unfold trL
    exact tab_congr fun i k hi hk => trL_at hk hi
  rw [h1, tab_self hL]
theorem mulD_turn {A B : List Int} {r m c i k : Nat} (hi : i < r) (hk : k < c) : mulD (trL B c m) (trL A m r) m r k i = mulD A B m c i k := by
  unfold mulD
  rw [dot_comm]
  exact dot_congr fun j hj => ⟨trL_at hj hi, trL_at hk hj⟩
theorem mulL_turn {A B : List Int} {r m c : Nat} : trL (mulL A B r m c) c r = mulL (trL B c m) (trL A m r) c m r := by
  conv => lhs; unfold trL
  conv => rhs; unfold mulL
  refine tab_congr fun k i hk hi => ?_
  rw [mulD_turn hi hk]
  unfold mulL
  rw [tab_at hi hk]
theorem anyT_iff {F : Nat → Nat → Bool} {r c : Nat} : anyT F c (r * c) = true ↔ ∃ i k, i < r ∧ k < c ∧ F i k = true := by
  unfold anyT
  simp only [List.any_eq_true, List.mem_range]
  constructor
  · rintro ⟨j, hj, hx⟩
    have hc : 0 < c := by rcases Nat.eq_zero_or_pos c with h0 | h0; · subst h0; simp at hj
                          exact h0
    exact ⟨_, _, (Nat.div_lt_iff_lt_mul hc).2 hj, Nat.mod_lt j hc, hx⟩
  · rintro ⟨i, k, hi, hk, hx⟩
    refine ⟨i * c + k, idx_lt hi hk, ?_⟩
    have h1 : (i * c + k) / c = i := by rw [Nat.add_comm, Nat.add_mul_div_right _ _ (by omega), Nat.div_eq_of_lt hk, Nat.zero_add]
    have h2 : (i * c + k) % c = k := by rw [Nat.add_comm, Nat.add_mul_mod_self_right, Nat.mod_eq_of_lt hk]
    rw [h1, h2]; exact hx
theorem mulX_turn {A B : List Int} {r m c : Nat} : mulX (trL B c m) (trL A m r) c m r = mulX A B r m c := by
  unfold mulX
  apply Bool.eq_iff_iff.2
  rw [anyT_iff, anyT_iff]
  constructor
  · rintro ⟨k, i, hk, hi, hx⟩; exact ⟨i, k, hi, hk, by rw [← hx, mulD_turn hi hk]⟩
  · rintro ⟨i, k, hi, hk, hx⟩; exact ⟨k, i, hk, hi, by rw [← hx, mulD_turn hi hk]⟩
theorem mulL_length (A B : List Int) (r m c : Nat) : (mulL A B r m c).length = r * c := by simp [mulL, tab_length]
theorem mulL_inQ (A B : List Int) (r m c : Nat) : ∀ x ∈ mulL A B r m c, inQ x := by
  intro y hy
  simp only [mulL, tab, List.mem_map] at hy
  obtain ⟨j, _, rfl⟩ := hy
  exact dot_inQ _ _ _

set_option maxHeartbeats 1000000 in
theorem matTurns_no1 (R C R2 C2 : Int) (A B : List Int) (hn : rightM R C A = false) : SoundC Try.prog 5 [.agg [.int .i64 R, .int .i64 C, .sl (.r 0) 0 A.length 1 false], .agg [.int .i64 R2, .int .i64 C2, .sl (.r 1) 0 B.length 1 false]] ⟨[ints A, ints B], []⟩ { val := .bool true } := by
  refine SoundC.of (N := 105) Try.func5 rfl rfl rfl rfl ?_
  refine AW.seq ?_
  refine AW.region (by kernel_rfl) ?_
  refine RunF.w (o_box (nm := 0) rfl rfl rfl) (by simp only [H.app, appO, patchAll, patch, List.map_cons, List.map_nil, List.append_nil, List.nil_append, List.cons_append, List.set_cons_zero, List.set_cons_succ, Option.map_some, Option.map_none, List.contains_cons, List.contains_nil, Nat.reduceAdd, Nat.reduceEqDiff, Nat.reduceBEq, Bool.or_false, Bool.false_eq_true, reduceIte, Nat.zero_add]; rfl) ?_
  refine RunF.w (o_box (nm := 1) rfl rfl rfl) (by simp only [H.app, appO, patchAll, patch, List.map_cons, List.map_nil, List.append_nil, List.nil_append, List.cons_append, List.set_cons_zero, List.set_cons_succ, Option.map_some, Option.map_none, List.contains_cons, List.contains_nil, Nat.reduceAdd, Nat.reduceEqDiff, Nat.reduceBEq, Bool.or_false, Bool.false_eq_true, reduceIte, Nat.zero_add]; rfl) ?_
  refine RunF.q (o_assign rfl) rfl ?_
  refine AW.seq ?_
  refine AW.region (by kernel_rfl) ?_
  refine RunF.q (o_call (no := 2) (nr := 2) rfl rfl rfl (by (repeat' first | exact cl_nil | exact cL_flat rfl | exact cL_flat (ints_flat _) | apply cL_vs | apply cl_cons | exact cv_flat rfl | apply cv_agg | apply cv_ptr_o | apply cv_sl_o rfl | apply cv_func | exact cO_old rfl | (apply cO_new; (focus rfl); (focus rfl)) | (apply cv_sl_r; (focus rfl); (focus rfl); (focus (simp; done)); (focus (first | exact ints_all _ | rfl))) | (apply cv_ptr_r rfl ?_ rfl rfl) | (simp only [List.nil_append, List.cons_append, List.length_cons, List.length_nil, Nat.zero_add, Nat.reduceAdd, List.set_cons_zero, List.set_cons_succ]; rfl) | rfl)) (by rfl) (by exact shown03_ok) (by rfl) rfl rfl (by first | exact reV_bare _ _ rfl | (simp only [reV, reVs, List.all_cons, List.all_nil, AV.flat, Bool.and_true, Bool.true_and, Bool.false_and, Bool.and_false, Bool.false_eq_true, reduceIte, CS.de, List.getElem?_cons_zero, List.getElem?_cons_succ, List.getElem?_nil, List.length_cons, List.length_nil, Nat.reduceSub, Nat.reduceAdd, Nat.zero_add, Nat.add_zero, Nat.sub_self]; rfl)) rfl) (by rfl) ?_
  refine RunF.q (o_assign rfl) rfl ?_
  refine AW.seq ?_
  refine AW.seq ?_
  refine AW.region (by kernel_rfl) ?_
  refine RunF.q (o_load_agg rfl tk24 ts24 rfl rfl rfl (by simp only [List.take_succ_cons, List.drop_succ_cons, List.drop_zero, List.take_zero, List.take_nil, List.drop_nil, Nat.zero_add, Nat.reduceAdd]; rfl)) rfl ?_
  refine RunF.q (o_call (no := 2) (nr := 2) rfl rfl rfl (by (repeat' first | exact cl_nil | exact cL_flat rfl | exact cL_flat (ints_flat _) | apply cL_vs | apply cl_cons | exact cv_flat rfl | apply cv_agg | apply cv_ptr_o | apply cv_sl_o rfl | apply cv_func | exact cO_old rfl | (apply cO_new; (focus rfl); (focus rfl)) | (apply cv_sl_r; (focus rfl); (focus rfl); (focus (simp; done)); (focus (first | exact ints_all _ | rfl))) | (apply cv_ptr_r rfl ?_ rfl rfl) | (simp only [List.nil_append, List.cons_append, List.length_cons, List.length_nil, Nat.zero_add, Nat.reduceAdd, List.set_cons_zero, List.set_cons_succ]; rfl) | rfl)) (by rfl) (by exact rright_is hn) (by rfl) rfl rfl (by first | exact reV_bare _ _ rfl | (simp only [reV, reVs, List.all_cons, List.all_nil, AV.flat, Bool.and_true, Bool.true_and, Bool.false_and, Bool.and_false, Bool.false_eq_true, reduceIte, CS.de, List.getElem?_cons_zero, List.getElem?_cons_succ, List.getElem?_nil, List.length_cons, List.length_nil, Nat.reduceSub, Nat.reduceAdd, Nat.zero_add, Nat.add_zero, Nat.sub_self]; rfl)) rfl) (by rfl) ?_
  refine RunF.q (o_not rfl) rfl ?_
  refine RunF.q (o_move rfl) rfl ?_
  refine RunF.gs (b := true) rfl rfl ?_
  refine RunF.gs (b := true) rfl rfl ?_
  refine RunF.gs (b := true) rfl rfl ?_
  refine RunF.q (o_pick_t rfl rfl) rfl ?_
  refine AW.cond rfl (fun hc0 => ?_) (fun hc0 => absurd hc0 (by simp))
  refine AW.seq ?_
  refine AW.region (by kernel_rfl) ?_
  refine RunF.q (o_move rfl) rfl ?_
  refine RunF.q (o_assign rfl) rfl ?_
  refine AW.ret ?_
  exact FinQ.ret [] [] (ress_tmp rfl ress_nil) rfl .nil (.cons rfl rfl (by first | (apply PRN.flat; rfl) | (apply PRN.flat; simp; done) | (repeat' first | exact PRN.nil | apply PRN.cons | exact RN.self rfl | exact RN.top | exact RN.ptr rfl | exact RN.sl rfl | exact RN.slf rfl | apply RN.agg | apply RN.fn | exact RNs.nil | apply RNs.cons)) (.cons rfl rfl (by first | (apply PRN.flat; rfl) | (apply PRN.flat; simp; done) | (repeat' first | exact PRN.nil | apply PRN.cons | exact RN.self rfl | exact RN.top | exact RN.ptr rfl | exact RN.sl rfl | exact RN.slf rfl | apply RN.agg | apply RN.fn | exact RNs.nil | apply RNs.cons)) .nil)) (by repeat' first | exact RN.self rfl | exact RN.top | exact RN.ptr rfl | exact RN.sl rfl | exact RN.slf rfl | apply RN.agg | apply RN.tuple | apply RN.fn | exact RNs.nil | apply RNs.cons | (apply RNs.flat; simp; done))

set_option maxHeartbeats 1000000 in
theorem matTurns_no2 (R C R2 C2 : Int) (A B : List Int) (hy : rightM R C A = true) (hn : rightM R2 C2 B = false) : SoundC Try.prog 5 [.agg [.int .i64 R, .int .i64 C, .sl (.r 0) 0 A.length 1 false], .agg [.int .i64 R2, .int .i64 C2, .sl (.r 1) 0 B.length 1 false]] ⟨[ints A, ints B], []⟩ { val := .bool true } := by
  refine SoundC.of (N := 105) Try.func5 rfl rfl rfl rfl ?_
  refine AW.seq ?_
  refine AW.region (by kernel_rfl) ?_
  refine RunF.w (o_box (nm := 0) rfl rfl rfl) (by simp only [H.app, appO, patchAll, patch, List.map_cons, List.map_nil, List.append_nil, List.nil_append, List.cons_append, List.set_cons_zero, List.set_cons_succ, Option.map_some, Option.map_none, List.contains_cons, List.contains_nil, Nat.reduceAdd, Nat.reduceEqDiff, Nat.reduceBEq, Bool.or_false, Bool.false_eq_true, reduceIte, Nat.zero_add]; rfl) ?_
  refine RunF.w (o_box (nm := 1) rfl rfl rfl) (by simp only [H.app, appO, patchAll, patch, List.map_cons, List.map_nil, List.append_nil, List.nil_append, List.cons_append, List.set_cons_zero, List.set_cons_succ, Option.map_some, Option.map_none, List.contains_cons, List.contains_nil, Nat.reduceAdd, Nat.reduceEqDiff, Nat.reduceBEq, Bool.or_false, Bool.false_eq_true, reduceIte, Nat.zero_add]; rfl) ?_
  refine RunF.q (o_assign rfl) rfl ?_
  refine AW.seq ?_
  refine AW.region (by kernel_rfl) ?_
  refine RunF.q (o_call (no := 2) (nr := 2) rfl rfl rfl (by (repeat' first | exact cl_nil | exact cL_flat rfl | exact cL_flat (ints_flat _) | apply cL_vs | apply cl_cons | exact cv_flat rfl | apply cv_agg | apply cv_ptr_o | apply cv_sl_o rfl | apply cv_func | exact cO_old rfl | (apply cO_new; (focus rfl); (focus rfl)) | (apply cv_sl_r; (focus rfl); (focus rfl); (focus (simp; done)); (focus (first | exact ints_all _ | rfl))) | (apply cv_ptr_r rfl ?_ rfl rfl) | (simp only [List.nil_append, List.cons_append, List.length_cons, List.length_nil, Nat.zero_add, Nat.reduceAdd, List.set_cons_zero, List.set_cons_succ]; rfl) | rfl)) (by rfl) (by exact shown03_ok) (by rfl) rfl rfl (by first | exact reV_bare _ _ rfl | (simp only [reV, reVs, List.all_cons, List.all_nil, AV.flat, Bool.and_true, Bool.true_and, Bool.false_and, Bool.and_false, Bool.false_eq_true, reduceIte, CS.de, List.getElem?_cons_zero, List.getElem?_cons_succ, List.getElem?_nil, List.length_cons, List.length_nil, Nat.reduceSub, Nat.reduceAdd, Nat.zero_add, Nat.add_zero, Nat.sub_self]; rfl)) rfl) (by rfl) ?_
  refine RunF.q (o_assign rfl) rfl ?_
  refine AW.seq ?_
  refine AW.seq ?_
  refine AW.region (by kernel_rfl) ?_
  refine RunF.q (o_load_agg rfl tk24 ts24 rfl rfl rfl (by simp only [List.take_succ_cons, List.drop_succ_cons, List.drop_zero, List.take_zero, List.take_nil, List.drop_nil, Nat.zero_add, Nat.reduceAdd]; rfl)) rfl ?_
  refine RunF.q (o_call (no := 2) (nr := 2) rfl rfl rfl (by (repeat' first | exact cl_nil | exact cL_flat rfl | exact cL_flat (ints_flat _) | apply cL_vs | apply cl_cons | exact cv_flat rfl | apply cv_agg | apply cv_ptr_o | apply cv_sl_o rfl | apply cv_func | exact cO_old rfl | (apply cO_new; (focus rfl); (focus rfl)) | (apply cv_sl_r; (focus rfl); (focus rfl); (focus (simp; done)); (focus (first | exact ints_all _ | rfl))) | (apply cv_ptr_r rfl ?_ rfl rfl) | (simp only [List.nil_append, List.cons_append, List.length_cons, List.length_nil, Nat.zero_add, Nat.reduceAdd, List.set_cons_zero, List.set_cons_succ]; rfl) | rfl)) (by rfl) (by exact rright_is hy) (by rfl) rfl rfl (by first | exact reV_bare _ _ rfl | (simp only [reV, reVs, List.all_cons, List.all_nil, AV.flat, Bool.and_true, Bool.true_and, Bool.false_and, Bool.and_false, Bool.false_eq_true, reduceIte, CS.de, List.getElem?_cons_zero, List.getElem?_cons_succ, List.getElem?_nil, List.length_cons, List.length_nil, Nat.reduceSub, Nat.reduceAdd, Nat.zero_add, Nat.add_zero, Nat.sub_self]; rfl)) rfl) (by rfl) ?_
  refine RunF.q (o_not rfl) rfl ?_
  refine RunF.q (o_move rfl) rfl ?_
  refine RunF.gq rfl (o_load_agg rfl tk24 ts24 rfl rfl rfl (by simp only [List.take_succ_cons, List.drop_succ_cons, List.drop_zero, List.take_zero, List.take_nil, List.drop_nil, Nat.zero_add, Nat.reduceAdd]; rfl)) rfl ?_
  refine RunF.gq rfl (o_call (no := 2) (nr := 2) rfl rfl rfl (by (repeat' first | exact cl_nil | exact cL_flat rfl | exact cL_flat (ints_flat _) | apply cL_vs | apply cl_cons | exact cv_flat rfl | apply cv_agg | apply cv_ptr_o | apply cv_sl_o rfl | apply cv_func | exact cO_old rfl | (apply cO_new; (focus rfl); (focus rfl)) | (apply cv_sl_r; (focus rfl); (focus rfl); (focus (simp; done)); (focus (first | exact ints_all _ | rfl))) | (apply cv_ptr_r rfl ?_ rfl rfl) | (simp only [List.nil_append, List.cons_append, List.length_cons, List.length_nil, Nat.zero_add, Nat.reduceAdd, List.set_cons_zero, List.set_cons_succ]; rfl) | rfl)) (by rfl) (by exact rright_is hn) (by rfl) rfl rfl (by first | exact reV_bare _ _ rfl | (simp only [reV, reVs, List.all_cons, List.all_nil, AV.flat, Bool.and_true, Bool.true_and, Bool.false_and, Bool.and_false, Bool.false_eq_true, reduceIte, CS.de, List.getElem?_cons_zero, List.getElem?_cons_succ, List.getElem?_nil, List.length_cons, List.length_nil, Nat.reduceSub, Nat.reduceAdd, Nat.zero_add, Nat.add_zero, Nat.sub_self]; rfl)) rfl) (by rfl) ?_
  refine RunF.gq rfl (o_not rfl) rfl ?_
  refine RunF.q (o_pick_f rfl rfl) rfl ?_
  refine AW.cond rfl (fun hc0 => ?_) (fun hc0 => absurd hc0 (by simp))
  refine AW.seq ?_
  refine AW.region (by kernel_rfl) ?_
  refine RunF.q (o_move rfl) rfl ?_
  refine RunF.q (o_assign rfl) rfl ?_
  refine AW.ret ?_
  exact FinQ.ret [] [] (ress_tmp rfl ress_nil) rfl .nil (.cons rfl rfl (by first | (apply PRN.flat; rfl) | (apply PRN.flat; simp; done) | (repeat' first | exact PRN.nil | apply PRN.cons | exact RN.self rfl | exact RN.top | exact RN.ptr rfl | exact RN.sl rfl | exact RN.slf rfl | apply RN.agg | apply RN.fn | exact RNs.nil | apply RNs.cons)) (.cons rfl rfl (by first | (apply PRN.flat; rfl) | (apply PRN.flat; simp; done) | (repeat' first | exact PRN.nil | apply PRN.cons | exact RN.self rfl | exact RN.top | exact RN.ptr rfl | exact RN.sl rfl | exact RN.slf rfl | apply RN.agg | apply RN.fn | exact RNs.nil | apply RNs.cons)) .nil)) (by repeat' first | exact RN.self rfl | exact RN.top | exact RN.ptr rfl | exact RN.sl rfl | exact RN.slf rfl | apply RN.agg | apply RN.tuple | apply RN.fn | exact RNs.nil | apply RNs.cons | (apply RNs.flat; simp; done))

set_option maxHeartbeats 1000000 in
theorem matTurns_ne (r m : Nat) (hR : 0 < r) (hr : r ≤ 8) (hM : 0 < m) (hm : m ≤ 8) (A B : List Int) (hA : A.length = r * m) (hQ : ∀ x ∈ A, inQ x) (r2 c : Nat) (hy2 : rightM r2 c B = true) (hne : m ≠ r2) : SoundC Try.prog 5 [.agg [.int .i64 r, .int .i64 m, .sl (.r 0) 0 A.length 1 false], .agg [.int .i64 r2, .int .i64 c, .sl (.r 1) 0 B.length 1 false]] ⟨[ints A, ints B], []⟩ { val := .bool true } := by
  have hsm := small_mul hr hm
  refine SoundC.of (N := 105) Try.func5 rfl rfl rfl rfl ?_
  refine AW.seq ?_
  refine AW.region (by kernel_rfl) ?_
  refine RunF.w (o_box (nm := 0) rfl rfl rfl) (by simp only [H.app, appO, patchAll, patch, List.map_cons, List.map_nil, List.append_nil, List.nil_append, List.cons_append, List.set_cons_zero, List.set_cons_succ, Option.map_some, Option.map_none, List.contains_cons, List.contains_nil, Nat.reduceAdd, Nat.reduceEqDiff, Nat.reduceBEq, Bool.or_false, Bool.false_eq_true, reduceIte, Nat.zero_add]; rfl) ?_
  refine RunF.w (o_box (nm := 1) rfl rfl rfl) (by simp only [H.app, appO, patchAll, patch, List.map_cons, List.map_nil, List.append_nil, List.nil_append, List.cons_append, List.set_cons_zero, List.set_cons_succ, Option.map_some, Option.map_none, List.contains_cons, List.contains_nil, Nat.reduceAdd, Nat.reduceEqDiff, Nat.reduceBEq, Bool.or_false, Bool.false_eq_true, reduceIte, Nat.zero_add]; rfl) ?_
  refine RunF.q (o_assign rfl) rfl ?_
  refine AW.seq ?_
  refine AW.region (by kernel_rfl) ?_
  refine RunF.q (o_call (no := 2) (nr := 2) rfl rfl rfl (by (repeat' first | exact cl_nil | exact cL_flat rfl | exact cL_flat (ints_flat _) | apply cL_vs | apply cl_cons | exact cv_flat rfl | apply cv_agg | apply cv_ptr_o | apply cv_sl_o rfl | apply cv_func | exact cO_old rfl | (apply cO_new; (focus rfl); (focus rfl)) | (apply cv_sl_r; (focus rfl); (focus rfl); (focus (simp; done)); (focus (first | exact ints_all _ | rfl))) | (apply cv_ptr_r rfl ?_ rfl rfl) | (simp only [List.nil_append, List.cons_append, List.length_cons, List.length_nil, Nat.zero_add, Nat.reduceAdd, List.set_cons_zero, List.set_cons_succ]; rfl) | rfl)) (by rfl) (by exact shown03_ok) (by rfl) rfl rfl (by first | exact reV_bare _ _ rfl | (simp only [reV, reVs, List.all_cons, List.all_nil, AV.flat, Bool.and_true, Bool.true_and, Bool.false_and, Bool.and_false, Bool.false_eq_true, reduceIte, CS.de, List.getElem?_cons_zero, List.getElem?_cons_succ, List.getElem?_nil, List.length_cons, List.length_nil, Nat.reduceSub, Nat.reduceAdd, Nat.zero_add, Nat.add_zero, Nat.sub_self]; rfl)) rfl) (by rfl) ?_
  refine RunF.q (o_assign rfl) rfl ?_
  refine AW.seq ?_
  refine AW.seq ?_
  refine AW.region (by kernel_rfl) ?_
  refine RunF.q (o_load_agg rfl tk24 ts24 rfl rfl rfl (by simp only [List.take_succ_cons, List.drop_succ_cons, List.drop_zero, List.take_zero, List.take_nil, List.drop_nil, Nat.zero_add, Nat.reduceAdd]; rfl)) rfl ?_
  refine RunF.q (o_call (no := 2) (nr := 2) rfl rfl rfl (by (repeat' first | exact cl_nil | exact cL_flat rfl | exact cL_flat (ints_flat _) | apply cL_vs | apply cl_cons | exact cv_flat rfl | apply cv_agg | apply cv_ptr_o | apply cv_sl_o rfl | apply cv_func | exact cO_old rfl | (apply cO_new; (focus rfl); (focus rfl)) | (apply cv_sl_r; (focus rfl); (focus rfl); (focus (simp; done)); (focus (first | exact ints_all _ | rfl))) | (apply cv_ptr_r rfl ?_ rfl rfl) | (simp only [List.nil_append, List.cons_append, List.length_cons, List.length_nil, Nat.zero_add, Nat.reduceAdd, List.set_cons_zero, List.set_cons_succ]; rfl) | rfl)) (by rfl) (by exact rright_is (rightM_of hR hr hM hm hA hQ)) (by rfl) rfl rfl (by first | exact reV_bare _ _ rfl | (simp only [reV, reVs, List.all_cons, List.all_nil, AV.flat, Bool.and_true, Bool.true_and, Bool.false_and, Bool.and_false, Bool.false_eq_true, reduceIte, CS.de, List.getElem?_cons_zero, List.getElem?_cons_succ, List.getElem?_nil, List.length_cons, List.length_nil, Nat.reduceSub, Nat.reduceAdd, Nat.zero_add, Nat.add_zero, Nat.sub_self]; rfl)) rfl) (by rfl) ?_
  refine RunF.q (o_not rfl) rfl ?_
  refine RunF.q (o_move rfl) rfl ?_
  refine RunF.gq rfl (o_load_agg rfl tk24 ts24 rfl rfl rfl (by simp only [List.take_succ_cons, List.drop_succ_cons, List.drop_zero, List.take_zero, List.take_nil, List.drop_nil, Nat.zero_add, Nat.reduceAdd]; rfl)) rfl ?_
  refine RunF.gq rfl (o_call (no := 2) (nr := 2) rfl rfl rfl (by (repeat' first | exact cl_nil | exact cL_flat rfl | exact cL_flat (ints_flat _) | apply cL_vs | apply cl_cons | exact cv_flat rfl | apply cv_agg | apply cv_ptr_o | apply cv_sl_o rfl | apply cv_func | exact cO_old rfl | (apply cO_new; (focus rfl); (focus rfl)) | (apply cv_sl_r; (focus rfl); (focus rfl); (focus (simp; done)); (focus (first | exact ints_all _ | rfl))) | (apply cv_ptr_r rfl ?_ rfl rfl) | (simp only [List.nil_append, List.cons_append, List.length_cons, List.length_nil, Nat.zero_add, Nat.reduceAdd, List.set_cons_zero, List.set_cons_succ]; rfl) | rfl)) (by rfl) (by exact rright_is hy2) (by rfl) rfl rfl (by first | exact reV_bare _ _ rfl | (simp only [reV, reVs, List.all_cons, List.all_nil, AV.flat, Bool.and_true, Bool.true_and, Bool.false_and, Bool.and_false, Bool.false_eq_true, reduceIte, CS.de, List.getElem?_cons_zero, List.getElem?_cons_succ, List.getElem?_nil, List.length_cons, List.length_nil, Nat.reduceSub, Nat.reduceAdd, Nat.zero_add, Nat.add_zero, Nat.sub_self]; rfl)) rfl) (by rfl) ?_
  refine RunF.gq rfl (o_not rfl) rfl ?_
  refine RunF.q (o_pick_f rfl rfl) rfl ?_
  refine AW.cond rfl (fun hc0 => absurd hc0 (by simp)) (fun hc0 => ?_)
  refine AW.skip ?_
  refine AW.seq ?_
  refine AW.region (by kernel_rfl) ?_
  refine RunF.q (o_fieldAddr rfl tk24 rfl ts3 rfl) rfl ?_
  refine RunF.q (o_load rfl tk3 ts3 rfl rfl rfl) rfl ?_
  refine RunF.w (o_call (no := 2) (nr := 2) rfl rfl rfl (by (repeat' first | exact cl_nil | exact cL_flat rfl | exact cL_flat (ints_flat _) | apply cL_vs | apply cl_cons | exact cv_flat rfl | apply cv_agg | apply cv_ptr_o | apply cv_sl_o rfl | apply cv_func | exact cO_old rfl | (apply cO_new; (focus rfl); (focus rfl)) | (apply cv_sl_r; (focus rfl); (focus rfl); (focus (simp; done)); (focus (first | exact ints_all _ | rfl))) | (apply cv_ptr_r rfl ?_ rfl rfl) | (simp only [List.nil_append, List.cons_append, List.length_cons, List.length_nil, Nat.zero_add, Nat.reduceAdd, List.set_cons_zero, List.set_cons_succ]; rfl) | rfl)) (by rfl) (by exact eye_ok m hM hm) (by rfl) rfl rfl (by first | exact reV_bare _ _ rfl | (simp only [reV, reVs, List.all_cons, List.all_nil, AV.flat, Bool.and_true, Bool.true_and, Bool.false_and, Bool.and_false, Bool.false_eq_true, reduceIte, CS.de, List.getElem?_cons_zero, List.getElem?_cons_succ, List.getElem?_nil, List.length_cons, List.length_nil, Nat.reduceSub, Nat.reduceAdd, Nat.zero_add, Nat.add_zero, Nat.sub_self]; rfl)) (by simp only [CS.eff, rdsR, rdsO, List.map_cons, List.map_nil, reL_ints, num, List.nil_append, List.append_nil, List.cons_append]; rfl)) (by simp only [H.app, appO, patchAll, patch, List.map_cons, List.map_nil, List.append_nil, List.nil_append, List.cons_append, List.set_cons_zero, List.set_cons_succ, Option.map_some, Option.map_none, List.contains_cons, List.contains_nil, Nat.reduceAdd, Nat.reduceEqDiff, Nat.reduceBEq, Bool.or_false, Bool.false_eq_true, reduceIte, Nat.zero_add]; rfl) ?_
  refine RunF.q (o_move rfl) rfl ?_
  refine RunF.q (o_extract rfl rfl) rfl ?_
  refine RunF.q (o_extract rfl rfl) rfl ?_
  refine RunF.w (o_alloc (nm := 3) tz24 rfl) (by simp only [H.app, appO, patchAll, patch, List.map_cons, List.map_nil, List.append_nil, List.nil_append, List.cons_append, List.set_cons_zero, List.set_cons_succ, Option.map_some, Option.map_none, List.contains_cons, List.contains_nil, Nat.reduceAdd, Nat.reduceEqDiff, Nat.reduceBEq, Bool.or_false, Bool.false_eq_true, reduceIte, Nat.zero_add]; rfl) ?_
  refine RunF.wn (o_store rfl rfl rfl ts24 rfl rfl) (by simp only [H.app, appO, patchAll, patch, List.map_cons, List.map_nil, List.append_nil, List.nil_append, List.cons_append, List.set_cons_zero, List.set_cons_succ, Option.map_some, Option.map_none, List.contains_cons, List.contains_nil, Nat.reduceAdd, Nat.reduceEqDiff, Nat.reduceBEq, Bool.or_false, Bool.false_eq_true, reduceIte, Nat.zero_add]; rfl) ?_
  refine RunF.q (o_assign rfl) rfl ?_
  refine AW.seq ?_
  refine AW.region (by kernel_rfl) ?_
  refine RunF.q (o_load_agg rfl tk24 ts24 rfl rfl rfl (by simp only [List.take_succ_cons, List.drop_succ_cons, List.drop_zero, List.take_zero, List.take_nil, List.drop_nil, Nat.zero_add, Nat.reduceAdd]; rfl)) rfl ?_
  refine RunF.q (o_load_agg rfl tk24 ts24 rfl rfl rfl (by simp only [List.take_succ_cons, List.drop_succ_cons, List.drop_zero, List.take_zero, List.take_nil, List.drop_nil, Nat.zero_add, Nat.reduceAdd]; rfl)) rfl ?_
  refine RunF.w (o_call (no := 4) (nr := 2) rfl rfl rfl (by (repeat' first | exact cl_nil | exact cL_flat rfl | exact cL_flat (ints_flat _) | apply cL_vs | apply cl_cons | exact cv_flat rfl | apply cv_agg | apply cv_ptr_o | apply cv_sl_o rfl | apply cv_func | exact cO_old rfl | (apply cO_new; (focus rfl); (focus rfl)) | (apply cv_sl_r; (focus rfl); (focus rfl); (focus (simp; done)); (focus (first | exact ints_all _ | rfl))) | (apply cv_ptr_r rfl ?_ rfl rfl) | (simp only [List.nil_append, List.cons_append, List.length_cons, List.length_nil, Nat.zero_add, Nat.reduceAdd, List.set_cons_zero, List.set_cons_succ]; rfl) | rfl)) (by rfl) (by exact (by have h := mmul_ok r m m hr hm hm A (eyeL m) hA (eyeL_length m) false false hR hM; rw [mulL_eye hA hQ, mulX_eye hQ] at h; exact h)) (by rfl) rfl rfl (by first | exact reV_bare _ _ rfl | (simp only [reV, reVs, List.all_cons, List.all_nil, AV.flat, Bool.and_true, Bool.true_and, Bool.false_and, Bool.and_false, Bool.false_eq_true, reduceIte, CS.de, List.getElem?_cons_zero, List.getElem?_cons_succ, List.getElem?_nil, List.length_cons, List.length_nil, Nat.reduceSub, Nat.reduceAdd, Nat.zero_add, Nat.add_zero, Nat.sub_self]; rfl)) (by simp only [CS.eff, rdsR, rdsO, List.map_cons, List.map_nil, reL_ints, num, List.nil_append, List.append_nil, List.cons_append]; rfl)) (by simp only [H.app, appO, patchAll, patch, List.map_cons, List.map_nil, List.append_nil, List.nil_append, List.cons_append, List.set_cons_zero, List.set_cons_succ, Option.map_some, Option.map_none, List.contains_cons, List.contains_nil, Nat.reduceAdd, Nat.reduceEqDiff, Nat.reduceBEq, Bool.or_false, Bool.false_eq_true, reduceIte, Nat.zero_add]; rfl) ?_
  refine RunF.q (o_move rfl) rfl ?_
  refine RunF.q (o_extract rfl rfl) rfl ?_
  refine RunF.q (o_extract rfl rfl) rfl ?_
  refine RunF.q (o_extract rfl rfl) rfl ?_
  refine RunF.w (o_alloc (nm := 5) tz24 rfl) (by simp only [H.app, appO, patchAll, patch, List.map_cons, List.map_nil, List.append_nil, List.nil_append, List.cons_append, List.set_cons_zero, List.set_cons_succ, Option.map_some, Option.map_none, List.contains_cons, List.contains_nil, Nat.reduceAdd, Nat.reduceEqDiff, Nat.reduceBEq, Bool.or_false, Bool.false_eq_true, reduceIte, Nat.zero_add]; rfl) ?_
  refine RunF.wn (o_store rfl rfl rfl ts24 rfl rfl) (by simp only [H.app, appO, patchAll, patch, List.map_cons, List.map_nil, List.append_nil, List.nil_append, List.cons_append, List.set_cons_zero, List.set_cons_succ, Option.map_some, Option.map_none, List.contains_cons, List.contains_nil, Nat.reduceAdd, Nat.reduceEqDiff, Nat.reduceBEq, Bool.or_false, Bool.false_eq_true, reduceIte, Nat.zero_add]; rfl) ?_
  refine RunF.q (o_assign rfl) rfl ?_
  refine RunF.q (o_assign rfl) rfl ?_
  refine AW.seq ?_
  refine AW.seq ?_
  refine AW.draws (by kernel_rfl) (by kernel_rfl) ?_
  refine RunV.q (o_load_agg rfl tk24 ts24 rfl rfl rfl (by simp only [List.take_succ_cons, List.drop_succ_cons, List.drop_zero, List.take_zero, List.take_nil, List.drop_nil, Nat.zero_add, Nat.reduceAdd]; rfl)) rfl ?_
  refine RunV.w (o_call (no := 6) (nr := 2) rfl rfl rfl (by (repeat' first | exact cl_nil | exact cL_flat rfl | exact cL_flat (ints_flat _) | apply cL_vs | apply cl_cons | exact cv_flat rfl | apply cv_agg | apply cv_ptr_o | apply cv_sl_o rfl | apply cv_func | exact cO_old rfl | (apply cO_new; (focus rfl); (focus rfl)) | (apply cv_sl_r; (focus rfl); (focus rfl); (focus (simp; done)); (focus (first | exact ints_all _ | rfl))) | (apply cv_ptr_r rfl ?_ rfl rfl) | (simp only [List.nil_append, List.cons_append, List.length_cons, List.length_nil, Nat.zero_add, Nat.reduceAdd, List.set_cons_zero, List.set_cons_succ]; rfl) | rfl)) (by rfl) (by exact trans_ok r m hr hm A hA false hR hM) (by rfl) rfl rfl (by first | exact reV_bare _ _ rfl | (simp only [reV, reVs, List.all_cons, List.all_nil, AV.flat, Bool.and_true, Bool.true_and, Bool.false_and, Bool.and_false, Bool.false_eq_true, reduceIte, CS.de, List.getElem?_cons_zero, List.getElem?_cons_succ, List.getElem?_nil, List.length_cons, List.length_nil, Nat.reduceSub, Nat.reduceAdd, Nat.zero_add, Nat.add_zero, Nat.sub_self]; rfl)) (by simp only [CS.eff, rdsR, rdsO, List.map_cons, List.map_nil, reL_ints, num, List.nil_append, List.append_nil, List.cons_append]; rfl)) (by simp only [H.app, appO, patchAll, patch, List.map_cons, List.map_nil, List.append_nil, List.nil_append, List.cons_append, List.set_cons_zero, List.set_cons_succ, Option.map_some, Option.map_none, List.contains_cons, List.contains_nil, Nat.reduceAdd, Nat.reduceEqDiff, Nat.reduceBEq, Bool.or_false, Bool.false_eq_true, reduceIte, Nat.zero_add]; rfl) ?_
  refine RunV.w (o_call (no := 7) (nr := 2) rfl rfl rfl (by (repeat' first | exact cl_nil | exact cL_flat rfl | exact cL_flat (ints_flat _) | apply cL_vs | apply cl_cons | exact cv_flat rfl | apply cv_agg | apply cv_ptr_o | apply cv_sl_o rfl | apply cv_func | exact cO_old rfl | (apply cO_new; (focus rfl); (focus rfl)) | (apply cv_sl_r; (focus rfl); (focus rfl); (focus (simp; done)); (focus (first | exact ints_all _ | rfl))) | (apply cv_ptr_r rfl ?_ rfl rfl) | (simp only [List.nil_append, List.cons_append, List.length_cons, List.length_nil, Nat.zero_add, Nat.reduceAdd, List.set_cons_zero, List.set_cons_succ]; rfl) | rfl)) (by rfl) (by exact (by have h := trans_ok m r hm hr (trL A m r) (trL_length A m r) false hM hR; rw [trL_twice hA] at h; exact h)) (by rfl) rfl rfl (by first | exact reV_bare _ _ rfl | (simp only [reV, reVs, List.all_cons, List.all_nil, AV.flat, Bool.and_true, Bool.true_and, Bool.false_and, Bool.and_false, Bool.false_eq_true, reduceIte, CS.de, List.getElem?_cons_zero, List.getElem?_cons_succ, List.getElem?_nil, List.length_cons, List.length_nil, Nat.reduceSub, Nat.reduceAdd, Nat.zero_add, Nat.add_zero, Nat.sub_self]; rfl)) (by simp only [CS.eff, rdsR, rdsO, List.map_cons, List.map_nil, reL_ints, num, List.nil_append, List.append_nil, List.cons_append]; rfl)) (by simp only [H.app, appO, patchAll, patch, List.map_cons, List.map_nil, List.append_nil, List.nil_append, List.cons_append, List.set_cons_zero, List.set_cons_succ, Option.map_some, Option.map_none, List.contains_cons, List.contains_nil, Nat.reduceAdd, Nat.reduceEqDiff, Nat.reduceBEq, Bool.or_false, Bool.false_eq_true, reduceIte, Nat.zero_add]; rfl) ?_
  refine RunV.q (o_load_agg rfl tk24 ts24 rfl rfl rfl (by simp only [List.take_succ_cons, List.drop_succ_cons, List.drop_zero, List.take_zero, List.take_nil, List.drop_nil, Nat.zero_add, Nat.reduceAdd]; rfl)) rfl ?_
  refine RunV.q (o_call (no := 8) (nr := 2) rfl rfl rfl (by (repeat' first | exact cl_nil | exact cL_flat rfl | exact cL_flat (ints_flat _) | apply cL_vs | apply cl_cons | exact cv_flat rfl | apply cv_agg | apply cv_ptr_o | apply cv_sl_o rfl | apply cv_func | exact cO_old rfl | (apply cO_new; (focus rfl); (focus rfl)) | (apply cv_sl_r; (focus rfl); (focus rfl); (focus (simp; done)); (focus (first | exact ints_all _ | rfl))) | (apply cv_ptr_r rfl ?_ rfl rfl) | (simp only [List.nil_append, List.cons_append, List.length_cons, List.length_nil, Nat.zero_add, Nat.reduceAdd, List.set_cons_zero, List.set_cons_succ]; rfl) | rfl)) (by rfl) (by exact rsame_is (z := true) (by omega) (sameM_refl _ _ _)) (by rfl) rfl rfl (by first | exact reV_bare _ _ rfl | (simp only [reV, reVs, List.all_cons, List.all_nil, AV.flat, Bool.and_true, Bool.true_and, Bool.false_and, Bool.and_false, Bool.false_eq_true, reduceIte, CS.de, List.getElem?_cons_zero, List.getElem?_cons_succ, List.getElem?_nil, List.length_cons, List.length_nil, Nat.reduceSub, Nat.reduceAdd, Nat.zero_add, Nat.add_zero, Nat.sub_self]; rfl)) rfl) (by rfl) ?_
  refine RunV.q (o_not rfl) rfl ?_
  refine RunV.q (o_move rfl) rfl ?_
  refine RunV.gq rfl (o_move rfl) rfl ?_
  refine RunV.gq rfl (o_neq rfl rfl) rfl ?_
  refine RunV.q (o_pick_f rfl rfl) rfl ?_
  refine RunV.q (o_move rfl) rfl ?_
  refine RunV.gq rfl (o_move rfl) rfl ?_
  refine RunV.q (o_pick_f rfl rfl) rfl ?_
  refine RunV.q (o_move rfl) rfl ?_
  refine RunV.gq rfl (o_load_agg rfl tk24 ts24 rfl rfl rfl (by simp only [List.take_succ_cons, List.drop_succ_cons, List.drop_zero, List.take_zero, List.take_nil, List.drop_nil, Nat.zero_add, Nat.reduceAdd]; rfl)) rfl ?_
  refine RunV.gq rfl (o_load_agg rfl tk24 ts24 rfl rfl rfl (by simp only [List.take_succ_cons, List.drop_succ_cons, List.drop_zero, List.take_zero, List.take_nil, List.drop_nil, Nat.zero_add, Nat.reduceAdd]; rfl)) rfl ?_
  refine RunV.gq rfl (o_call (no := 8) (nr := 2) rfl rfl rfl (by (repeat' first | exact cl_nil | exact cL_flat rfl | exact cL_flat (ints_flat _) | apply cL_vs | apply cl_cons | exact cv_flat rfl | apply cv_agg | apply cv_ptr_o | apply cv_sl_o rfl | apply cv_func | exact cO_old rfl | (apply cO_new; (focus rfl); (focus rfl)) | (apply cv_sl_r; (focus rfl); (focus rfl); (focus (simp; done)); (focus (first | exact ints_all _ | rfl))) | (apply cv_ptr_r rfl ?_ rfl rfl) | (simp only [List.nil_append, List.cons_append, List.length_cons, List.length_nil, Nat.zero_add, Nat.reduceAdd, List.set_cons_zero, List.set_cons_succ]; rfl) | rfl)) (by rfl) (by exact rsame_is (z := true) (by omega) (sameM_refl _ _ _)) (by rfl) rfl rfl (by first | exact reV_bare _ _ rfl | (simp only [reV, reVs, List.all_cons, List.all_nil, AV.flat, Bool.and_true, Bool.true_and, Bool.false_and, Bool.and_false, Bool.false_eq_true, reduceIte, CS.de, List.getElem?_cons_zero, List.getElem?_cons_succ, List.getElem?_nil, List.length_cons, List.length_nil, Nat.reduceSub, Nat.reduceAdd, Nat.zero_add, Nat.add_zero, Nat.sub_self]; rfl)) rfl) (by rfl) ?_
  refine RunV.gq rfl (o_not rfl) rfl ?_
  refine RunV.q (o_pick_f rfl rfl) rfl ?_
  refine And.intro (by kernel_rfl) ?_
  refine AW.cond rfl (fun hc1 => absurd hc1 (by simp)) (fun hc1 => ?_)
  refine AW.skip ?_
  refine AW.seq ?_
  refine AW.seq ?_
  refine AW.region (by kernel_rfl) ?_
  refine RunF.q (o_fieldAddr rfl tk24 rfl ts3 rfl) rfl ?_
  refine RunF.q (o_load rfl tk3 ts3 rfl rfl rfl) rfl ?_
  refine RunF.q (o_fieldAddr rfl tk24 rfl ts3 rfl) rfl ?_
  refine RunF.q (o_load rfl tk3 ts3 rfl rfl rfl) rfl ?_
  refine RunF.q (o_neq rfl rfl) rfl ?_
  refine AW.cond rfl (fun hc2 => ?_) (fun hc2 => absurd hc2 (by simp <;> omega))
  refine AW.seq ?_
  refine AW.region (by kernel_rfl) ?_
  refine RunF.q (o_move rfl) rfl ?_
  refine RunF.q (o_assign rfl) rfl ?_
  refine AW.ret ?_
  exact FinQ.ret [] [] (ress_tmp rfl ress_nil) rfl .nil (.cons rfl rfl (by first | (apply PRN.flat; rfl) | (apply PRN.flat; simp; done) | (repeat' first | exact PRN.nil | apply PRN.cons | exact RN.self rfl | exact RN.top | exact RN.ptr rfl | exact RN.sl rfl | exact RN.slf rfl | apply RN.agg | apply RN.fn | exact RNs.nil | apply RNs.cons)) (.cons rfl rfl (by first | (apply PRN.flat; rfl) | (apply PRN.flat; simp; done) | (repeat' first | exact PRN.nil | apply PRN.cons | exact RN.self rfl | exact RN.top | exact RN.ptr rfl | exact RN.sl rfl | exact RN.slf rfl | apply RN.agg | apply RN.fn | exact RNs.nil | apply RNs.cons)) .nil)) (by repeat' first | exact RN.self rfl | exact RN.top | exact RN.ptr rfl | exact RN.sl rfl | exact RN.slf rfl | apply RN.agg | apply RN.tuple | apply RN.fn | exact RNs.nil | apply RNs.cons | (apply RNs.flat; simp; done))

set_option maxHeartbeats 1000000 in
theorem matTurns_yes (r m : Nat) (hR : 0 < r) (hr : r ≤ 8) (hM : 0 < m) (hm : m ≤ 8) (A B : List Int) (hA : A.length = r * m) (hQ : ∀ x ∈ A, inQ x) (c : Nat) (hC : 0 < c) (hc : c ≤ 8) (hB : B.length = m * c) (hQB : ∀ x ∈ B, inQ x) : SoundC Try.prog 5 [.agg [.int .i64 r, .int .i64 m, .sl (.r 0) 0 A.length 1 false], .agg [.int .i64 m, .int .i64 c, .sl (.r 1) 0 B.length 1 false]] ⟨[ints A, ints B], []⟩ { val := .bool true } := by
  have hsm := small_mul hr hm
  refine SoundC.of (N := 105) Try.func5 rfl rfl rfl rfl ?_
  refine AW.seq ?_
  refine AW.region (by kernel_rfl) ?_
  refine RunF.w (o_box (nm := 0) rfl rfl rfl) (by simp only [H.app, appO, patchAll, patch, List.map_cons, List.map_nil, List.append_nil, List.nil_append, List.cons_append, List.set_cons_zero, List.set_cons_succ, Option.map_some, Option.map_none, List.contains_cons, List.contains_nil, Nat.reduceAdd, Nat.reduceEqDiff, Nat.reduceBEq, Bool.or_false, Bool.false_eq_true, reduceIte, Nat.zero_add]; rfl) ?_
  refine RunF.w (o_box (nm := 1) rfl rfl rfl) (by simp only [H.app, appO, patchAll, patch, List.map_cons, List.map_nil, List.append_nil, List.nil_append, List.cons_append, List.set_cons_zero, List.set_cons_succ, Option.map_some, Option.map_none, List.contains_cons, List.contains_nil, Nat.reduceAdd, Nat.reduceEqDiff, Nat.reduceBEq, Bool.or_false, Bool.false_eq_true, reduceIte, Nat.zero_add]; rfl) ?_
  refine RunF.q (o_assign rfl) rfl ?_
  refine AW.seq ?_
  refine AW.region (by kernel_rfl) ?_
  refine RunF.q (o_call (no := 2) (nr := 2) rfl rfl rfl (by (repeat' first | exact cl_nil | exact cL_flat rfl | exact cL_flat (ints_flat _) | apply cL_vs | apply cl_cons | exact cv_flat rfl | apply cv_agg | apply cv_ptr_o | apply cv_sl_o rfl | apply cv_func | exact cO_old rfl | (apply cO_new; (focus rfl); (focus rfl)) | (apply cv_sl_r; (focus rfl); (focus rfl); (focus (simp; done)); (focus (first | exact ints_all _ | rfl))) | (apply cv_ptr_r rfl ?_ rfl rfl) | (simp only [List.nil_append, List.cons_append, List.length_cons, List.length_nil, Nat.zero_add, Nat.reduceAdd, List.set_cons_zero, List.set_cons_succ]; rfl) | rfl)) (by rfl) (by exact shown03_ok) (by rfl) rfl rfl (by first | exact reV_bare _ _ rfl | (simp only [reV, reVs, List.all_cons, List.all_nil, AV.flat, Bool.and_true, Bool.true_and, Bool.false_and, Bool.and_false, Bool.false_eq_true, reduceIte, CS.de, List.getElem?_cons_zero, List.getElem?_cons_succ, List.getElem?_nil, List.length_cons, List.length_nil, Nat.reduceSub, Nat.reduceAdd, Nat.zero_add, Nat.add_zero, Nat.sub_self]; rfl)) rfl) (by rfl) ?_
  refine RunF.q (o_assign rfl) rfl ?_
  refine AW.seq ?_
  refine AW.seq ?_
  refine AW.region (by kernel_rfl) ?_
  refine RunF.q (o_load_agg rfl tk24 ts24 rfl rfl rfl (by simp only [List.take_succ_cons, List.drop_succ_cons, List.drop_zero, List.take_zero, List.take_nil, List.drop_nil, Nat.zero_add, Nat.reduceAdd]; rfl)) rfl ?_
  refine RunF.q (o_call (no := 2) (nr := 2) rfl rfl rfl (by (repeat' first | exact cl_nil | exact cL_flat rfl | exact cL_flat (ints_flat _) | apply cL_vs | apply cl_cons | exact cv_flat rfl | apply cv_agg | apply cv_ptr_o | apply cv_sl_o rfl | apply cv_func | exact cO_old rfl | (apply cO_new; (focus rfl); (focus rfl)) | (apply cv_sl_r; (focus rfl); (focus rfl); (focus (simp; done)); (focus (first | exact ints_all _ | rfl))) | (apply cv_ptr_r rfl ?_ rfl rfl) | (simp only [List.nil_append, List.cons_append, List.length_cons, List.length_nil, Nat.zero_add, Nat.reduceAdd, List.set_cons_zero, List.set_cons_succ]; rfl) | rfl)) (by rfl) (by exact rright_is (rightM_of hR hr hM hm hA hQ)) (by rfl) rfl rfl (by first | exact reV_bare _ _ rfl | (simp only [reV, reVs, List.all_cons, List.all_nil, AV.flat, Bool.and_true, Bool.true_and, Bool.false_and, Bool.and_false, Bool.false_eq_true, reduceIte, CS.de, List.getElem?_cons_zero, List.getElem?_cons_succ, List.getElem?_nil, List.length_cons, List.length_nil, Nat.reduceSub, Nat.reduceAdd, Nat.zero_add, Nat.add_zero, Nat.sub_self]; rfl)) rfl) (by rfl) ?_
  refine RunF.q (o_not rfl) rfl ?_
  refine RunF.q (o_move rfl) rfl ?_
  refine RunF.gq rfl (o_load_agg rfl tk24 ts24 rfl rfl rfl (by simp only [List.take_succ_cons, List.drop_succ_cons, List.drop_zero, List.take_zero, List.take_nil, List.drop_nil, Nat.zero_add, Nat.reduceAdd]; rfl)) rfl ?_
  refine RunF.gq rfl (o_call (no := 2) (nr := 2) rfl rfl rfl (by (repeat' first | exact cl_nil | exact cL_flat rfl | exact cL_flat (ints_flat _) | apply cL_vs | apply cl_cons | exact cv_flat rfl | apply cv_agg | apply cv_ptr_o | apply cv_sl_o rfl | apply cv_func | exact cO_old rfl | (apply cO_new; (focus rfl); (focus rfl)) | (apply cv_sl_r; (focus rfl); (focus rfl); (focus (simp; done)); (focus (first | exact ints_all _ | rfl))) | (apply cv_ptr_r rfl ?_ rfl rfl) | (simp only [List.nil_append, List.cons_append, List.length_cons, List.length_nil, Nat.zero_add, Nat.reduceAdd, List.set_cons_zero, List.set_cons_succ]; rfl) | rfl)) (by rfl) (by exact rright_is (rightM_of hM hm hC hc hB hQB)) (by rfl) rfl rfl (by first | exact reV_bare _ _ rfl | (simp only [reV, reVs, List.all_cons, List.all_nil, AV.flat, Bool.and_true, Bool.true_and, Bool.false_and, Bool.and_false, Bool.false_eq_true, reduceIte, CS.de, List.getElem?_cons_zero, List.getElem?_cons_succ, List.getElem?_nil, List.length_cons, List.length_nil, Nat.reduceSub, Nat.reduceAdd, Nat.zero_add, Nat.add_zero, Nat.sub_self]; rfl)) rfl) (by rfl) ?_
  refine RunF.gq rfl (o_not rfl) rfl ?_
  refine RunF.q (o_pick_f rfl rfl) rfl ?_
  refine AW.cond rfl (fun hc0 => absurd hc0 (by simp)) (fun hc0 => ?_)
  refine AW.skip ?_
  refine AW.seq ?_
  refine AW.region (by kernel_rfl) ?_
  refine RunF.q (o_fieldAddr rfl tk24 rfl ts3 rfl) rfl ?_
  refine RunF.q (o_load rfl tk3 ts3 rfl rfl rfl) rfl ?_
  refine RunF.w (o_call (no := 2) (nr := 2) rfl rfl rfl (by (repeat' first | exact cl_nil | exact cL_flat rfl | exact cL_flat (ints_flat _) | apply cL_vs | apply cl_cons | exact cv_flat rfl | apply cv_agg | apply cv_ptr_o | apply cv_sl_o rfl | apply cv_func | exact cO_old rfl | (apply cO_new; (focus rfl); (focus rfl)) | (apply cv_sl_r; (focus rfl); (focus rfl); (focus (simp; done)); (focus (first | exact ints_all _ | rfl))) | (apply cv_ptr_r rfl ?_ rfl rfl) | (simp only [List.nil_append, List.cons_append, List.length_cons, List.length_nil, Nat.zero_add, Nat.reduceAdd, List.set_cons_zero, List.set_cons_succ]; rfl) | rfl)) (by rfl) (by exact eye_ok m hM hm) (by rfl) rfl rfl (by first | exact reV_bare _ _ rfl | (simp only [reV, reVs, List.all_cons, List.all_nil, AV.flat, Bool.and_true, Bool.true_and, Bool.false_and, Bool.and_false, Bool.false_eq_true, reduceIte, CS.de, List.getElem?_cons_zero, List.getElem?_cons_succ, List.getElem?_nil, List.length_cons, List.length_nil, Nat.reduceSub, Nat.reduceAdd, Nat.zero_add, Nat.add_zero, Nat.sub_self]; rfl)) (by simp only [CS.eff, rdsR, rdsO, List.map_cons, List.map_nil, reL_ints, num, List.nil_append, List.append_nil, List.cons_append]; rfl)) (by simp only [H.app, appO, patchAll, patch, List.map_cons, List.map_nil, List.append_nil, List.nil_append, List.cons_append, List.set_cons_zero, List.set_cons_succ, Option.map_some, Option.map_none, List.contains_cons, List.contains_nil, Nat.reduceAdd, Nat.reduceEqDiff, Nat.reduceBEq, Bool.or_false, Bool.false_eq_true, reduceIte, Nat.zero_add]; rfl) ?_
  refine RunF.q (o_move rfl) rfl ?_
  refine RunF.q (o_extract rfl rfl) rfl ?_
  refine RunF.q (o_extract rfl rfl) rfl ?_
  refine RunF.w (o_alloc (nm := 3) tz24 rfl) (by simp only [H.app, appO, patchAll, patch, List.map_cons, List.map_nil, List.append_nil, List.nil_append, List.cons_append, List.set_cons_zero, List.set_cons_succ, Option.map_some, Option.map_none, List.contains_cons, List.contains_nil, Nat.reduceAdd, Nat.reduceEqDiff, Nat.reduceBEq, Bool.or_false, Bool.false_eq_true, reduceIte, Nat.zero_add]; rfl) ?_
  refine RunF.wn (o_store rfl rfl rfl ts24 rfl rfl) (by simp only [H.app, appO, patchAll, patch, List.map_cons, List.map_nil, List.append_nil, List.nil_append, List.cons_append, List.set_cons_zero, List.set_cons_succ, Option.map_some, Option.map_none, List.contains_cons, List.contains_nil, Nat.reduceAdd, Nat.reduceEqDiff, Nat.reduceBEq, Bool.or_false, Bool.false_eq_true, reduceIte, Nat.zero_add]; rfl) ?_
  refine RunF.q (o_assign rfl) rfl ?_
  refine AW.seq ?_
  refine AW.region (by kernel_rfl) ?_
  refine RunF.q (o_load_agg rfl tk24 ts24 rfl rfl rfl (by simp only [List.take_succ_cons, List.drop_succ_cons, List.drop_zero, List.take_zero, List.take_nil, List.drop_nil, Nat.zero_add, Nat.reduceAdd]; rfl)) rfl ?_
  refine RunF.q (o_load_agg rfl tk24 ts24 rfl rfl rfl (by simp only [List.take_succ_cons, List.drop_succ_cons, List.drop_zero, List.take_zero, List.take_nil, List.drop_nil, Nat.zero_add, Nat.reduceAdd]; rfl)) rfl ?_
  refine RunF.w (o_call (no := 4) (nr := 2) rfl rfl rfl (by (repeat' first | exact cl_nil | exact cL_flat rfl | exact cL_flat (ints_flat _) | apply cL_vs | apply cl_cons | exact cv_flat rfl | apply cv_agg | apply cv_ptr_o | apply cv_sl_o rfl | apply cv_func | exact cO_old rfl | (apply cO_new; (focus rfl); (focus rfl)) | (apply cv_sl_r; (focus rfl); (focus rfl); (focus (simp; done)); (focus (first | exact ints_all _ | rfl))) | (apply cv_ptr_r rfl ?_ rfl rfl) | (simp only [List.nil_append, List.cons_append, List.length_cons, List.length_nil, Nat.zero_add, Nat.reduceAdd, List.set_cons_zero, List.set_cons_succ]; rfl) | rfl)) (by rfl) (by exact (by have h := mmul_ok r m m hr hm hm A (eyeL m) hA (eyeL_length m) false false hR hM; rw [mulL_eye hA hQ, mulX_eye hQ] at h; exact h)) (by rfl) rfl rfl (by first | exact reV_bare _ _ rfl | (simp only [reV, reVs, List.all_cons, List.all_nil, AV.flat, Bool.and_true, Bool.true_and, Bool.false_and, Bool.and_false, Bool.false_eq_true, reduceIte, CS.de, List.getElem?_cons_zero, List.getElem?_cons_succ, List.getElem?_nil, List.length_cons, List.length_nil, Nat.reduceSub, Nat.reduceAdd, Nat.zero_add, Nat.add_zero, Nat.sub_self]; rfl)) (by simp only [CS.eff, rdsR, rdsO, List.map_cons, List.map_nil, reL_ints, num, List.nil_append, List.append_nil, List.cons_append]; rfl)) (by simp only [H.app, appO, patchAll, patch, List.map_cons, List.map_nil, List.append_nil, List.nil_append, List.cons_append, List.set_cons_zero, List.set_cons_succ, Option.map_some, Option.map_none, List.contains_cons, List.contains_nil, Nat.reduceAdd, Nat.reduceEqDiff, Nat.reduceBEq, Bool.or_false, Bool.false_eq_true, reduceIte, Nat.zero_add]; rfl) ?_
  refine RunF.q (o_move rfl) rfl ?_
  refine RunF.q (o_extract rfl rfl) rfl ?_
  refine RunF.q (o_extract rfl rfl) rfl ?_
  refine RunF.q (o_extract rfl rfl) rfl ?_
  refine RunF.w (o_alloc (nm := 5) tz24 rfl) (by simp only [H.app, appO, patchAll, patch, List.map_cons, List.map_nil, List.append_nil, List.nil_append, List.cons_append, List.set_cons_zero, List.set_cons_succ, Option.map_some, Option.map_none, List.contains_cons, List.contains_nil, Nat.reduceAdd, Nat.reduceEqDiff, Nat.reduceBEq, Bool.or_false, Bool.false_eq_true, reduceIte, Nat.zero_add]; rfl) ?_
  refine RunF.wn (o_store rfl rfl rfl ts24 rfl rfl) (by simp only [H.app, appO, patchAll, patch, List.map_cons, List.map_nil, List.append_nil, List.nil_append, List.cons_append, List.set_cons_zero, List.set_cons_succ, Option.map_some, Option.map_none, List.contains_cons, List.contains_nil, Nat.reduceAdd, Nat.reduceEqDiff, Nat.reduceBEq, Bool.or_false, Bool.false_eq_true, reduceIte, Nat.zero_add]; rfl) ?_
  refine RunF.q (o_assign rfl) rfl ?_
  refine RunF.q (o_assign rfl) rfl ?_
  refine AW.seq ?_
  refine AW.seq ?_
  refine AW.draws (by kernel_rfl) (by kernel_rfl) ?_
  refine RunV.q (o_load_agg rfl tk24 ts24 rfl rfl rfl (by simp only [List.take_succ_cons, List.drop_succ_cons, List.drop_zero, List.take_zero, List.take_nil, List.drop_nil, Nat.zero_add, Nat.reduceAdd]; rfl)) rfl ?_
  refine RunV.w (o_call (no := 6) (nr := 2) rfl rfl rfl (by (repeat' first | exact cl_nil | exact cL_flat rfl | exact cL_flat (ints_flat _) | apply cL_vs | apply cl_cons | exact cv_flat rfl | apply cv_agg | apply cv_ptr_o | apply cv_sl_o rfl | apply cv_func | exact cO_old rfl | (apply cO_new; (focus rfl); (focus rfl)) | (apply cv_sl_r; (focus rfl); (focus rfl); (focus (simp; done)); (focus (first | exact ints_all _ | rfl))) | (apply cv_ptr_r rfl ?_ rfl rfl) | (simp only [List.nil_append, List.cons_append, List.length_cons, List.length_nil, Nat.zero_add, Nat.reduceAdd, List.set_cons_zero, List.set_cons_succ]; rfl) | rfl)) (by rfl) (by exact trans_ok r m hr hm A hA false hR hM) (by rfl) rfl rfl (by first | exact reV_bare _ _ rfl | (simp only [reV, reVs, List.all_cons, List.all_nil, AV.flat, Bool.and_true, Bool.true_and, Bool.false_and, Bool.and_false, Bool.false_eq_true, reduceIte, CS.de, List.getElem?_cons_zero, List.getElem?_cons_succ, List.getElem?_nil, List.length_cons, List.length_nil, Nat.reduceSub, Nat.reduceAdd, Nat.zero_add, Nat.add_zero, Nat.sub_self]; rfl)) (by simp only [CS.eff, rdsR, rdsO, List.map_cons, List.map_nil, reL_ints, num, List.nil_append, List.append_nil, List.cons_append]; rfl)) (by simp only [H.app, appO, patchAll, patch, List.map_cons, List.map_nil, List.append_nil, List.nil_append, List.cons_append, List.set_cons_zero, List.set_cons_succ, Option.map_some, Option.map_none, List.contains_cons, List.contains_nil, Nat.reduceAdd, Nat.reduceEqDiff, Nat.reduceBEq, Bool.or_false, Bool.false_eq_true, reduceIte, Nat.zero_add]; rfl) ?_
  refine RunV.w (o_call (no := 7) (nr := 2) rfl rfl rfl (by (repeat' first | exact cl_nil | exact cL_flat rfl | exact cL_flat (ints_flat _) | apply cL_vs | apply cl_cons | exact cv_flat rfl | apply cv_agg | apply cv_ptr_o | apply cv_sl_o rfl | apply cv_func | exact cO_old rfl | (apply cO_new; (focus rfl); (focus rfl)) | (apply cv_sl_r; (focus rfl); (focus rfl); (focus (simp; done)); (focus (first | exact ints_all _ | rfl))) | (apply cv_ptr_r rfl ?_ rfl rfl) | (simp only [List.nil_append, List.cons_append, List.length_cons, List.length_nil, Nat.zero_add, Nat.reduceAdd, List.set_cons_zero, List.set_cons_succ]; rfl) | rfl)) (by rfl) (by exact (by have h := trans_ok m r hm hr (trL A m r) (trL_length A m r) false hM hR; rw [trL_twice hA] at h; exact h)) (by rfl) rfl rfl (by first | exact reV_bare _ _ rfl | (simp only [reV, reVs, List.all_cons, List.all_nil, AV.flat, Bool.and_true, Bool.true_and, Bool.false_and, Bool.and_false, Bool.false_eq_true, reduceIte, CS.de, List.getElem?_cons_zero, List.getElem?_cons_succ, List.getElem?_nil, List.length_cons, List.length_nil, Nat.reduceSub, Nat.reduceAdd, Nat.zero_add, Nat.add_zero, Nat.sub_self]; rfl)) (by simp only [CS.eff, rdsR, rdsO, List.map_cons, List.map_nil, reL_ints, num, List.nil_append, List.append_nil, List.cons_append]; rfl)) (by simp only [H.app, appO, patchAll, patch, List.map_cons, List.map_nil, List.append_nil, List.nil_append, List.cons_append, List.set_cons_zero, List.set_cons_succ, Option.map_some, Option.map_none, List.contains_cons, List.contains_nil, Nat.reduceAdd, Nat.reduceEqDiff, Nat.reduceBEq, Bool.or_false, Bool.false_eq_true, reduceIte, Nat.zero_add]; rfl) ?_
  refine RunV.q (o_load_agg rfl tk24 ts24 rfl rfl rfl (by simp only [List.take_succ_cons, List.drop_succ_cons, List.drop_zero, List.take_zero, List.take_nil, List.drop_nil, Nat.zero_add, Nat.reduceAdd]; rfl)) rfl ?_
  refine RunV.q (o_call (no := 8) (nr := 2) rfl rfl rfl (by (repeat' first | exact cl_nil | exact cL_flat rfl | exact cL_flat (ints_flat _) | apply cL_vs | apply cl_cons | exact cv_flat rfl | apply cv_agg | apply cv_ptr_o | apply cv_sl_o rfl | apply cv_func | exact cO_old rfl | (apply cO_new; (focus rfl); (focus rfl)) | (apply cv_sl_r; (focus rfl); (focus rfl); (focus (simp; done)); (focus (first | exact ints_all _ | rfl))) | (apply cv_ptr_r rfl ?_ rfl rfl) | (simp only [List.nil_append, List.cons_append, List.length_cons, List.length_nil, Nat.zero_add, Nat.reduceAdd, List.set_cons_zero, List.set_cons_succ]; rfl) | rfl)) (by rfl) (by exact rsame_is (z := true) (by omega) (sameM_refl _ _ _)) (by rfl) rfl rfl (by first | exact reV_bare _ _ rfl | (simp only [reV, reVs, List.all_cons, List.all_nil, AV.flat, Bool.and_true, Bool.true_and, Bool.false_and, Bool.and_false, Bool.false_eq_true, reduceIte, CS.de, List.getElem?_cons_zero, List.getElem?_cons_succ, List.getElem?_nil, List.length_cons, List.length_nil, Nat.reduceSub, Nat.reduceAdd, Nat.zero_add, Nat.add_zero, Nat.sub_self]; rfl)) rfl) (by rfl) ?_
  refine RunV.q (o_not rfl) rfl ?_
  refine RunV.q (o_move rfl) rfl ?_
  refine RunV.gq rfl (o_move rfl) rfl ?_
  refine RunV.gq rfl (o_neq rfl rfl) rfl ?_
  refine RunV.q (o_pick_f rfl rfl) rfl ?_
  refine RunV.q (o_move rfl) rfl ?_
  refine RunV.gq rfl (o_move rfl) rfl ?_
  refine RunV.q (o_pick_f rfl rfl) rfl ?_
  refine RunV.q (o_move rfl) rfl ?_
  refine RunV.gq rfl (o_load_agg rfl tk24 ts24 rfl rfl rfl (by simp only [List.take_succ_cons, List.drop_succ_cons, List.drop_zero, List.take_zero, List.take_nil, List.drop_nil, Nat.zero_add, Nat.reduceAdd]; rfl)) rfl ?_
  refine RunV.gq rfl (o_load_agg rfl tk24 ts24 rfl rfl rfl (by simp only [List.take_succ_cons, List.drop_succ_cons, List.drop_zero, List.take_zero, List.take_nil, List.drop_nil, Nat.zero_add, Nat.reduceAdd]; rfl)) rfl ?_
  refine RunV.gq rfl (o_call (no := 8) (nr := 2) rfl rfl rfl (by (repeat' first | exact cl_nil | exact cL_flat rfl | exact cL_flat (ints_flat _) | apply cL_vs | apply cl_cons | exact cv_flat rfl | apply cv_agg | apply cv_ptr_o | apply cv_sl_o rfl | apply cv_func | exact cO_old rfl | (apply cO_new; (focus rfl); (focus rfl)) | (apply cv_sl_r; (focus rfl); (focus rfl); (focus (simp; done)); (focus (first | exact ints_all _ | rfl))) | (apply cv_ptr_r rfl ?_ rfl rfl) | (simp only [List.nil_append, List.cons_append, List.length_cons, List.length_nil, Nat.zero_add, Nat.reduceAdd, List.set_cons_zero, List.set_cons_succ]; rfl) | rfl)) (by rfl) (by exact rsame_is (z := true) (by omega) (sameM_refl _ _ _)) (by rfl) rfl rfl (by first | exact reV_bare _ _ rfl | (simp only [reV, reVs, List.all_cons, List.all_nil, AV.flat, Bool.and_true, Bool.true_and, Bool.false_and, Bool.and_false, Bool.false_eq_true, reduceIte, CS.de, List.getElem?_cons_zero, List.getElem?_cons_succ, List.getElem?_nil, List.length_cons, List.length_nil, Nat.reduceSub, Nat.reduceAdd, Nat.zero_add, Nat.add_zero, Nat.sub_self]; rfl)) rfl) (by rfl) ?_
  refine RunV.gq rfl (o_not rfl) rfl ?_
  refine RunV.q (o_pick_f rfl rfl) rfl ?_
  refine And.intro (by kernel_rfl) ?_
  refine AW.cond rfl (fun hc1 => absurd hc1 (by simp)) (fun hc1 => ?_)
  refine AW.skip ?_
  refine AW.seq ?_
  refine AW.seq ?_
  refine AW.region (by kernel_rfl) ?_
  refine RunF.q (o_fieldAddr rfl tk24 rfl ts3 rfl) rfl ?_
  refine RunF.q (o_load rfl tk3 ts3 rfl rfl rfl) rfl ?_
  refine RunF.q (o_fieldAddr rfl tk24 rfl ts3 rfl) rfl ?_
  refine RunF.q (o_load rfl tk3 ts3 rfl rfl rfl) rfl ?_
  refine RunF.q (o_neq rfl rfl) rfl ?_
  refine AW.cond rfl (fun hc2 => absurd hc2 (by simp)) (fun hc2 => ?_)
  refine AW.skip ?_
  refine AW.seq ?_
  refine AW.region (by kernel_rfl) ?_
  refine RunF.q (o_load_agg rfl tk24 ts24 rfl rfl rfl (by simp only [List.take_succ_cons, List.drop_succ_cons, List.drop_zero, List.take_zero, List.take_nil, List.drop_nil, Nat.zero_add, Nat.reduceAdd]; rfl)) rfl ?_
  refine RunF.q (o_load_agg rfl tk24 ts24 rfl rfl rfl (by simp only [List.take_succ_cons, List.drop_succ_cons, List.drop_zero, List.take_zero, List.take_nil, List.drop_nil, Nat.zero_add, Nat.reduceAdd]; rfl)) rfl ?_
  refine RunF.w (o_call (no := 8) (nr := 2) rfl rfl rfl (by (repeat' first | exact cl_nil | exact cL_flat rfl | exact cL_flat (ints_flat _) | apply cL_vs | apply cl_cons | exact cv_flat rfl | apply cv_agg | apply cv_ptr_o | apply cv_sl_o rfl | apply cv_func | exact cO_old rfl | (apply cO_new; (focus rfl); (focus rfl)) | (apply cv_sl_r; (focus rfl); (focus rfl); (focus (simp; done)); (focus (first | exact ints_all _ | rfl))) | (apply cv_ptr_r rfl ?_ rfl rfl) | (simp only [List.nil_append, List.cons_append, List.length_cons, List.length_nil, Nat.zero_add, Nat.reduceAdd, List.set_cons_zero, List.set_cons_succ]; rfl) | rfl)) (by rfl) (by exact mmul_ok r m c hr hm hc A B hA hB false false hR hC) (by rfl) rfl rfl (by first | exact reV_bare _ _ rfl | (simp only [reV, reVs, List.all_cons, List.all_nil, AV.flat, Bool.and_true, Bool.true_and, Bool.false_and, Bool.and_false, Bool.false_eq_true, reduceIte, CS.de, List.getElem?_cons_zero, List.getElem?_cons_succ, List.getElem?_nil, List.length_cons, List.length_nil, Nat.reduceSub, Nat.reduceAdd, Nat.zero_add, Nat.add_zero, Nat.sub_self]; rfl)) (by simp only [CS.eff, rdsR, rdsO, List.map_cons, List.map_nil, reL_ints, num, List.nil_append, List.append_nil, List.cons_append]; rfl)) (by simp only [H.app, appO, patchAll, patch, List.map_cons, List.map_nil, List.append_nil, List.nil_append, List.cons_append, List.set_cons_zero, List.set_cons_succ, Option.map_some, Option.map_none, List.contains_cons, List.contains_nil, Nat.reduceAdd, Nat.reduceEqDiff, Nat.reduceBEq, Bool.or_false, Bool.false_eq_true, reduceIte, Nat.zero_add]; rfl) ?_
  refine RunF.q (o_move rfl) rfl ?_
  refine RunF.q (o_extract rfl rfl) rfl ?_
  refine RunF.q (o_extract rfl rfl) rfl ?_
  refine RunF.q (o_extract rfl rfl) rfl ?_
  refine RunF.w (o_alloc (nm := 9) tz24 rfl) (by simp only [H.app, appO, patchAll, patch, List.map_cons, List.map_nil, List.append_nil, List.nil_append, List.cons_append, List.set_cons_zero, List.set_cons_succ, Option.map_some, Option.map_none, List.contains_cons, List.contains_nil, Nat.reduceAdd, Nat.reduceEqDiff, Nat.reduceBEq, Bool.or_false, Bool.false_eq_true, reduceIte, Nat.zero_add]; rfl) ?_
  refine RunF.wn (o_store rfl rfl rfl ts24 rfl rfl) (by simp only [H.app, appO, patchAll, patch, List.map_cons, List.map_nil, List.append_nil, List.nil_append, List.cons_append, List.set_cons_zero, List.set_cons_succ, Option.map_some, Option.map_none, List.contains_cons, List.contains_nil, Nat.reduceAdd, Nat.reduceEqDiff, Nat.reduceBEq, Bool.or_false, Bool.false_eq_true, reduceIte, Nat.zero_add]; rfl) ?_
  refine RunF.q (o_assign rfl) rfl ?_
  refine RunF.q (o_assign rfl) rfl ?_
  refine AW.seq ?_
  refine AW.draws (by kernel_rfl) (by kernel_rfl) ?_
  refine RunV.q (o_load_agg rfl tk24 ts24 rfl rfl rfl (by simp only [List.take_succ_cons, List.drop_succ_cons, List.drop_zero, List.take_zero, List.take_nil, List.drop_nil, Nat.zero_add, Nat.reduceAdd]; rfl)) rfl ?_
  refine RunV.w (o_call (no := 10) (nr := 2) rfl rfl rfl (by (repeat' first | exact cl_nil | exact cL_flat rfl | exact cL_flat (ints_flat _) | apply cL_vs | apply cl_cons | exact cv_flat rfl | apply cv_agg | apply cv_ptr_o | apply cv_sl_o rfl | apply cv_func | exact cO_old rfl | (apply cO_new; (focus rfl); (focus rfl)) | (apply cv_sl_r; (focus rfl); (focus rfl); (focus (simp; done)); (focus (first | exact ints_all _ | rfl))) | (apply cv_ptr_r rfl ?_ rfl rfl) | (simp only [List.nil_append, List.cons_append, List.length_cons, List.length_nil, Nat.zero_add, Nat.reduceAdd, List.set_cons_zero, List.set_cons_succ]; rfl) | rfl)) (by rfl) (by exact trans_ok m c hm hc B hB false hM hC) (by rfl) rfl rfl (by first | exact reV_bare _ _ rfl | (simp only [reV, reVs, List.all_cons, List.all_nil, AV.flat, Bool.and_true, Bool.true_and, Bool.false_and, Bool.and_false, Bool.false_eq_true, reduceIte, CS.de, List.getElem?_cons_zero, List.getElem?_cons_succ, List.getElem?_nil, List.length_cons, List.length_nil, Nat.reduceSub, Nat.reduceAdd, Nat.zero_add, Nat.add_zero, Nat.sub_self]; rfl)) (by simp only [CS.eff, rdsR, rdsO, List.map_cons, List.map_nil, reL_ints, num, List.nil_append, List.append_nil, List.cons_append]; rfl)) (by simp only [H.app, appO, patchAll, patch, List.map_cons, List.map_nil, List.append_nil, List.nil_append, List.cons_append, List.set_cons_zero, List.set_cons_succ, Option.map_some, Option.map_none, List.contains_cons, List.contains_nil, Nat.reduceAdd, Nat.reduceEqDiff, Nat.reduceBEq, Bool.or_false, Bool.false_eq_true, reduceIte, Nat.zero_add]; rfl) ?_
  refine RunV.q (o_load_agg rfl tk24 ts24 rfl rfl rfl (by simp only [List.take_succ_cons, List.drop_succ_cons, List.drop_zero, List.take_zero, List.take_nil, List.drop_nil, Nat.zero_add, Nat.reduceAdd]; rfl)) rfl ?_
  refine RunV.w (o_call (no := 11) (nr := 2) rfl rfl rfl (by (repeat' first | exact cl_nil | exact cL_flat rfl | exact cL_flat (ints_flat _) | apply cL_vs | apply cl_cons | exact cv_flat rfl | apply cv_agg | apply cv_ptr_o | apply cv_sl_o rfl | apply cv_func | exact cO_old rfl | (apply cO_new; (focus rfl); (focus rfl)) | (apply cv_sl_r; (focus rfl); (focus rfl); (focus (simp; done)); (focus (first | exact ints_all _ | rfl))) | (apply cv_ptr_r rfl ?_ rfl rfl) | (simp only [List.nil_append, List.cons_append, List.length_cons, List.length_nil, Nat.zero_add, Nat.reduceAdd, List.set_cons_zero, List.set_cons_succ]; rfl) | rfl)) (by rfl) (by exact trans_ok r m hr hm A hA false hR hM) (by rfl) rfl rfl (by first | exact reV_bare _ _ rfl | (simp only [reV, reVs, List.all_cons, List.all_nil, AV.flat, Bool.and_true, Bool.true_and, Bool.false_and, Bool.and_false, Bool.false_eq_true, reduceIte, CS.de, List.getElem?_cons_zero, List.getElem?_cons_succ, List.getElem?_nil, List.length_cons, List.length_nil, Nat.reduceSub, Nat.reduceAdd, Nat.zero_add, Nat.add_zero, Nat.sub_self]; rfl)) (by simp only [CS.eff, rdsR, rdsO, List.map_cons, List.map_nil, reL_ints, num, List.nil_append, List.append_nil, List.cons_append]; rfl)) (by simp only [H.app, appO, patchAll, patch, List.map_cons, List.map_nil, List.append_nil, List.nil_append, List.cons_append, List.set_cons_zero, List.set_cons_succ, Option.map_some, Option.map_none, List.contains_cons, List.contains_nil, Nat.reduceAdd, Nat.reduceEqDiff, Nat.reduceBEq, Bool.or_false, Bool.false_eq_true, reduceIte, Nat.zero_add]; rfl) ?_
  refine RunV.w (o_call (no := 12) (nr := 2) rfl rfl rfl (by (repeat' first | exact cl_nil | exact cL_flat rfl | exact cL_flat (ints_flat _) | apply cL_vs | apply cl_cons | exact cv_flat rfl | apply cv_agg | apply cv_ptr_o | apply cv_sl_o rfl | apply cv_func | exact cO_old rfl | (apply cO_new; (focus rfl); (focus rfl)) | (apply cv_sl_r; (focus rfl); (focus rfl); (focus (simp; done)); (focus (first | exact ints_all _ | rfl))) | (apply cv_ptr_r rfl ?_ rfl rfl) | (simp only [List.nil_append, List.cons_append, List.length_cons, List.length_nil, Nat.zero_add, Nat.reduceAdd, List.set_cons_zero, List.set_cons_succ]; rfl) | rfl)) (by rfl) (by exact (by have h := mmul_ok c m r hc hm hr (trL B c m) (trL A m r) (trL_length _ _ _) (trL_length _ _ _) false false hC hR; rw [← mulL_turn, mulX_turn] at h; exact h)) (by rfl) rfl rfl (by first | exact reV_bare _ _ rfl | (simp only [reV, reVs, List.all_cons, List.all_nil, AV.flat, Bool.and_true, Bool.true_and, Bool.false_and, Bool.and_false, Bool.false_eq_true, reduceIte, CS.de, List.getElem?_cons_zero, List.getElem?_cons_succ, List.getElem?_nil, List.length_cons, List.length_nil, Nat.reduceSub, Nat.reduceAdd, Nat.zero_add, Nat.add_zero, Nat.sub_self]; rfl)) (by simp only [CS.eff, rdsR, rdsO, List.map_cons, List.map_nil, reL_ints, num, List.nil_append, List.append_nil, List.cons_append]; rfl)) (by simp only [H.app, appO, patchAll, patch, List.map_cons, List.map_nil, List.append_nil, List.nil_append, List.cons_append, List.set_cons_zero, List.set_cons_succ, Option.map_some, Option.map_none, List.contains_cons, List.contains_nil, Nat.reduceAdd, Nat.reduceEqDiff, Nat.reduceBEq, Bool.or_false, Bool.false_eq_true, reduceIte, Nat.zero_add]; rfl) ?_
  refine RunV.q (o_move rfl) rfl ?_
  refine RunV.q (o_extract rfl rfl) rfl ?_
  refine RunV.q (o_extract rfl rfl) rfl ?_
  refine RunV.q (o_extract rfl rfl) rfl ?_
  refine RunV.w (o_alloc (nm := 13) tz24 rfl) (by simp only [H.app, appO, patchAll, patch, List.map_cons, List.map_nil, List.append_nil, List.nil_append, List.cons_append, List.set_cons_zero, List.set_cons_succ, Option.map_some, Option.map_none, List.contains_cons, List.contains_nil, Nat.reduceAdd, Nat.reduceEqDiff, Nat.reduceBEq, Bool.or_false, Bool.false_eq_true, reduceIte, Nat.zero_add]; rfl) ?_
  refine RunV.wn (o_store rfl rfl rfl ts24 rfl rfl) (by simp only [H.app, appO, patchAll, patch, List.map_cons, List.map_nil, List.append_nil, List.nil_append, List.cons_append, List.set_cons_zero, List.set_cons_succ, Option.map_some, Option.map_none, List.contains_cons, List.contains_nil, Nat.reduceAdd, Nat.reduceEqDiff, Nat.reduceBEq, Bool.or_false, Bool.false_eq_true, reduceIte, Nat.zero_add]; rfl) ?_
  refine RunV.q (o_assign rfl) rfl ?_
  refine RunV.q (o_assign rfl) rfl ?_
  refine And.intro (by kernel_rfl) ?_
  refine AW.seq ?_
  refine AW.draws (by kernel_rfl) (by kernel_rfl) ?_
  refine RunV.q (o_move rfl) rfl ?_
  refine RunV.q (o_move rfl) rfl ?_
  refine RunV.gq rfl (o_move rfl) rfl ?_
  refine RunV.gq rfl (o_eql rfl rfl) rfl ?_
  refine RunV.q (o_pick_t rfl rfl) rfl ?_
  refine RunV.q (o_move rfl) rfl ?_
  refine RunV.gq rfl (o_move rfl) rfl ?_
  refine RunV.gq rfl (o_eql rfl rfl) rfl ?_
  refine RunV.q (o_pick_t rfl rfl) rfl ?_
  refine RunV.q (o_move rfl) rfl ?_
  refine RunV.gq rfl (o_move rfl) rfl ?_
  refine RunV.gq rfl (o_move rfl) rfl ?_
  refine RunV.gq rfl (o_eqb tk4 rfl rfl) rfl ?_
  refine RunV.q (o_pick_t rfl rfl) rfl ?_
  refine RunV.br (o_move rfl) rfl (fun hb12_14 => ?_) (fun hb12_14 => ?_)
  · try simp only [decide_eq_true_eq, decide_eq_false_iff_not, bne_iff_ne, beq_iff_eq, bne_eq_false_iff_eq, beq_eq_false_iff_ne, ne_eq, Bool.not_eq_true', Bool.not_eq_false'] at hb12_14
    refine RunV.gq rfl (o_load_agg rfl tk24 ts24 rfl rfl rfl (by simp only [List.take_succ_cons, List.drop_succ_cons, List.drop_zero, List.take_zero, List.take_nil, List.drop_nil, Nat.zero_add, Nat.reduceAdd]; rfl)) rfl ?_
    refine RunV.gw rfl (o_call (no := 14) (nr := 2) rfl rfl rfl (by (repeat' first | exact cl_nil | exact cL_flat rfl | exact cL_flat (ints_flat _) | apply cL_vs | apply cl_cons | exact cv_flat rfl | apply cv_agg | apply cv_ptr_o | apply cv_sl_o rfl | apply cv_func | exact cO_old rfl | (apply cO_new; (focus rfl); (focus rfl)) | (apply cv_sl_r; (focus rfl); (focus rfl); (focus (simp; done)); (focus (first | exact ints_all _ | rfl))) | (apply cv_ptr_r rfl ?_ rfl rfl) | (simp only [List.nil_append, List.cons_append, List.length_cons, List.length_nil, Nat.zero_add, Nat.reduceAdd, List.set_cons_zero, List.set_cons_succ]; rfl) | rfl)) (by rfl) (by exact trans_ok r c hr hc (mulL A B r m c) (mulL_length _ _ _ _ _) false hR hC) (by rfl) rfl rfl (by first | exact reV_bare _ _ rfl | (simp only [reV, reVs, List.all_cons, List.all_nil, AV.flat, Bool.and_true, Bool.true_and, Bool.false_and, Bool.and_false, Bool.false_eq_true, reduceIte, CS.de, List.getElem?_cons_zero, List.getElem?_cons_succ, List.getElem?_nil, List.length_cons, List.length_nil, Nat.reduceSub, Nat.reduceAdd, Nat.zero_add, Nat.add_zero, Nat.sub_self]; rfl)) (by simp only [CS.eff, rdsR, rdsO, List.map_cons, List.map_nil, reL_ints, num, List.nil_append, List.append_nil, List.cons_append]; rfl)) (by simp only [H.app, appO, patchAll, patch, List.map_cons, List.map_nil, List.append_nil, List.nil_append, List.cons_append, List.set_cons_zero, List.set_cons_succ, Option.map_some, Option.map_none, List.contains_cons, List.contains_nil, Nat.reduceAdd, Nat.reduceEqDiff, Nat.reduceBEq, Bool.or_false, Bool.false_eq_true, reduceIte, Nat.zero_add]; rfl) ?_
    refine RunV.gq rfl (o_load_agg rfl tk24 ts24 rfl rfl rfl (by simp only [List.take_succ_cons, List.drop_succ_cons, List.drop_zero, List.take_zero, List.take_nil, List.drop_nil, Nat.zero_add, Nat.reduceAdd]; rfl)) rfl ?_
    refine RunV.gq rfl (o_call (no := 15) (nr := 2) rfl rfl rfl (by (repeat' first | exact cl_nil | exact cL_flat rfl | exact cL_flat (ints_flat _) | apply cL_vs | apply cl_cons | exact cv_flat rfl | apply cv_agg | apply cv_ptr_o | apply cv_sl_o rfl | apply cv_func | exact cO_old rfl | (apply cO_new; (focus rfl); (focus rfl)) | (apply cv_sl_r; (focus rfl); (focus rfl); (focus (simp; done)); (focus (first | exact ints_all _ | rfl))) | (apply cv_ptr_r rfl ?_ rfl rfl) | (simp only [List.nil_append, List.cons_append, List.length_cons, List.length_nil, Nat.zero_add, Nat.reduceAdd, List.set_cons_zero, List.set_cons_succ]; rfl) | rfl)) (by rfl) (by exact rsame_is (z := true) (by rw [trL_length]; have := small_mul hc hr; omega) (sameM_refl _ _ _)) (by rfl) rfl rfl (by first | exact reV_bare _ _ rfl | (simp only [reV, reVs, List.all_cons, List.all_nil, AV.flat, Bool.and_true, Bool.true_and, Bool.false_and, Bool.and_false, Bool.false_eq_true, reduceIte, CS.de, List.getElem?_cons_zero, List.getElem?_cons_succ, List.getElem?_nil, List.length_cons, List.length_nil, Nat.reduceSub, Nat.reduceAdd, Nat.zero_add, Nat.add_zero, Nat.sub_self]; rfl)) rfl) (by rfl) ?_
    refine RunV.q (o_pick_t rfl rfl) rfl ?_
    refine RunV.q (o_move rfl) rfl ?_
    refine RunV.gq rfl (o_load_agg rfl tk24 ts24 rfl rfl rfl (by simp only [List.take_succ_cons, List.drop_succ_cons, List.drop_zero, List.take_zero, List.take_nil, List.drop_nil, Nat.zero_add, Nat.reduceAdd]; rfl)) rfl ?_
    refine RunV.gq rfl (o_call (no := 15) (nr := 2) rfl rfl rfl (by (repeat' first | exact cl_nil | exact cL_flat rfl | exact cL_flat (ints_flat _) | apply cL_vs | apply cl_cons | exact cv_flat rfl | apply cv_agg | apply cv_ptr_o | apply cv_sl_o rfl | apply cv_func | exact cO_old rfl | (apply cO_new; (focus rfl); (focus rfl)) | (apply cv_sl_r; (focus rfl); (focus rfl); (focus (simp; done)); (focus (first | exact ints_all _ | rfl))) | (apply cv_ptr_r rfl ?_ rfl rfl) | (simp only [List.nil_append, List.cons_append, List.length_cons, List.length_nil, Nat.zero_add, Nat.reduceAdd, List.set_cons_zero, List.set_cons_succ]; rfl) | rfl)) (by rfl) (by exact mright_is (z := true) (rightM_of hR hr hC hc (mulL_length _ _ _ _ _) (mulL_inQ _ _ _ _ _))) (by rfl) rfl rfl (by first | exact reV_bare _ _ rfl | (simp only [reV, reVs, List.all_cons, List.all_nil, AV.flat, Bool.and_true, Bool.true_and, Bool.false_and, Bool.and_false, Bool.false_eq_true, reduceIte, CS.de, List.getElem?_cons_zero, List.getElem?_cons_succ, List.getElem?_nil, List.length_cons, List.length_nil, Nat.reduceSub, Nat.reduceAdd, Nat.zero_add, Nat.add_zero, Nat.sub_self]; rfl)) rfl) (by rfl) ?_
    refine RunV.q (o_pick_t rfl rfl) rfl ?_
    refine RunV.q (o_assign rfl) rfl ?_
    refine And.intro (by kernel_rfl) ?_
    refine AW.ret ?_
    exact FinQ.ret [] [] (ress_tmp rfl ress_nil) rfl .nil (.cons rfl rfl (by first | (apply PRN.flat; rfl) | (apply PRN.flat; simp; done) | (repeat' first | exact PRN.nil | apply PRN.cons | exact RN.self rfl | exact RN.top | exact RN.ptr rfl | exact RN.sl rfl | exact RN.slf rfl | apply RN.agg | apply RN.fn | exact RNs.nil | apply RNs.cons)) (.cons rfl rfl (by first | (apply PRN.flat; rfl) | (apply PRN.flat; simp; done) | (repeat' first | exact PRN.nil | apply PRN.cons | exact RN.self rfl | exact RN.top | exact RN.ptr rfl | exact RN.sl rfl | exact RN.slf rfl | apply RN.agg | apply RN.fn | exact RNs.nil | apply RNs.cons)) .nil)) (by repeat' first | exact RN.self rfl | exact RN.top | exact RN.ptr rfl | exact RN.sl rfl | exact RN.slf rfl | apply RN.agg | apply RN.tuple | apply RN.fn | exact RNs.nil | apply RNs.cons | (apply RNs.flat; simp; done))
  · try simp only [decide_eq_true_eq, decide_eq_false_iff_not, bne_iff_ne, beq_iff_eq, bne_eq_false_iff_eq, beq_eq_false_iff_ne, ne_eq, Bool.not_eq_true', Bool.not_eq_false'] at hb12_14
    exact absurd trivial hb12_14

end Go.Proofs.Ytnkijhpikeokfaa
