/- Matrices: the inner functions, by their contracts. -/
import Derived.Test.YtnkijhpikeokfaaF1
set_option linter.unusedSimpArgs false
set_option linter.unusedVariables false
namespace Go.Proofs.Ytnkijhpikeokfaa
open Go Go.Sym Go.IntWalk

theorem idx_lt {i k r c : Nat} (hi : i < r) (hk : k < c) : i * c + k < r * c := by
  have h1 : (i + 1) * c ≤ r * c := Nat.mul_le_mul_right c hi
  rw [Nat.succ_mul] at h1
  omega

theorem small_mul {r c : Nat} (hr : r ≤ 8) (hc : c ≤ 8) : r * c ≤ 64 := Nat.mul_le_mul hr hc

/-- the numbers of a matrix row by row, the first t of them -/
def tab (F : Nat → Nat → Int) (c t : Nat) : List Int := (List.range t).map fun j => F (j / c) (j % c)

theorem tab_length (F : Nat → Nat → Int) (c t : Nat) : (tab F c t).length = t := by simp [tab]
theorem tab_succ (F : Nat → Nat → Int) {c i k : Nat} (hk : k < c) : tab F c (i * c + k + 1) = tab F c (i * c + k) ++ [F i k] := by
  have h1 : (i * c + k) / c = i := by rw [Nat.add_comm, Nat.add_mul_div_right _ _ (by omega), Nat.div_eq_of_lt hk, Nat.zero_add]
  have h2 : (i * c + k) % c = k := by rw [Nat.add_comm, Nat.add_mul_mod_self_right, Nat.mod_eq_of_lt hk]
  simp only [tab, List.range_succ, List.map_append, List.map_cons, List.map_nil, h1, h2]

/-- whether one of the first t was odd -/
def anyT (X : Nat → Nat → Bool) (c t : Nat) : Bool := (List.range t).any fun j => X (j / c) (j % c)
theorem anyT_succ (X : Nat → Nat → Bool) {c i k : Nat} (hk : k < c) : anyT X c (i * c + k + 1) = (anyT X c (i * c + k) || X i k) := by
  have h1 : (i * c + k) / c = i := by rw [Nat.add_comm, Nat.add_mul_div_right _ _ (by omega), Nat.div_eq_of_lt hk, Nat.zero_add]
  have h2 : (i * c + k) % c = k := by rw [Nat.add_comm, Nat.add_mul_mod_self_right, Nat.mod_eq_of_lt hk]
  simp only [anyT, List.range_succ, List.any_append, List.any_cons, List.any_nil, Bool.or_false, h1, h2]

def slOf (j : Nat) : List Int → AV
  | [] => .nilsl
  | a :: l => .sl (.o j) 0 (a :: l).length 1 false
def rowOf : List Int → Option (List AV)
  | [] => none
  | a :: l => some (ints (a :: l))

set_option maxHeartbeats 1000000 in
theorem at_ok (r c : Nat) (hr : r ≤ 8) (hc : c ≤ 8) (L : List Int) (hL : L.length = r * c) (f : Bool) (i k : Nat) (hi : i < r) (hk : k < c) : SoundC Try.prog 78 [.agg [.int .i64 r, .int .i64 c, .sl (.r 0) 0 L.length 1 f], .int .i64 i, .int .i64 k] ⟨[ints L], []⟩ { val := .int .i64 (L.getD (i * c + k) 0) } := by
  have h1 := idx_lt hi hk
  have h2 := small_mul hr hc
  have h3 : (i : Int) * (c : Int) = ((i * c : Nat) : Int) := by simp
  have h4 : i * c ≤ 64 := by omega
  refine SoundC.of (N := 17) Try.func78 rfl rfl rfl rfl ?_
  refine AW.seq ?_
  refine AW.region (by kernel_rfl) ?_
  refine RunF.w (o_box (nm := 0) rfl rfl rfl) (by simp only [H.app, appO, patchAll, patch, List.map_cons, List.map_nil, List.append_nil, List.nil_append, List.cons_append, List.set_cons_zero, List.set_cons_succ, Option.map_some, Option.map_none, List.contains_cons, List.contains_nil, Nat.reduceAdd, Nat.reduceEqDiff, Nat.reduceBEq, Bool.or_false, Bool.false_eq_true, reduceIte, Nat.zero_add]; rfl) ?_
  refine RunF.q (o_assign rfl) rfl ?_
  refine AW.seq ?_
  refine AW.region (by kernel_rfl) ?_
  refine RunF.q (o_fieldAddr rfl tk24 rfl ts22 rfl) rfl ?_
  refine RunF.q (o_load rfl tk22 ts22 rfl rfl rfl) rfl ?_
  refine RunF.q (o_move rfl) rfl ?_
  refine RunF.q (o_fieldAddr rfl tk24 rfl ts3 rfl) rfl ?_
  refine RunF.q (o_load rfl tk3 ts3 rfl rfl rfl) rfl ?_
  refine RunF.q (o_mul rfl rfl ((i64_in _ (by rw [h3]; omega)).trans h3)) rfl ?_
  refine RunF.q (o_move rfl) rfl ?_
  refine RunF.q (o_add rfl rfl (by first | exact i64_in _ (by omega) | rfl)) rfl ?_
  refine RunF.q (o_indexAddr (m := i * c + k) tk22 ts30 rfl rfl (by rw [hL]; omega) (by omega)) rfl ?_
  refine RunF.q (o_load rfl tk30 ts30 rfl rfl (ints_getD L _ (by omega))) rfl ?_
  refine RunF.q (o_assign rfl) rfl ?_
  refine AW.ret ?_
  exact FinQ.ret [] [] (ress_tmp rfl ress_nil) rfl .nil (.cons rfl rfl (PRN.flat (by simp)) .nil) (by repeat' first | exact RN.self rfl | exact RN.top | exact RN.ptr rfl | exact RN.sl rfl | exact RN.slf rfl | apply RN.agg | apply RN.tuple | apply RN.fn | exact RNs.nil | apply RNs.cons | (apply RNs.flat; simp; done))

set_option maxHeartbeats 1000000 in
theorem trans1_ok (r c : Nat) (hr : r ≤ 8) (hc : c ≤ 8) (L : List Int) (hL : L.length = r * c) (f : Bool) (i k : Nat) (hi : i < c) (hk : k < r) : SoundC Try.prog 77 [.int .i64 i, .int .i64 k, .ptr (.o 0) 0] ⟨[ints L], [some [.int .i64 r, .int .i64 c, .sl (.r 0) 0 L.length 1 f]]⟩ { val := .tuple [.int .i64 (L.getD (k * c + i) 0), .bool false] } := by
  refine SoundC.of (N := 11) Try.func77 rfl rfl rfl rfl ?_
  refine AW.seq ?_
  refine AW.region (by kernel_rfl) ?_
  refine RunF.q (o_assign rfl) rfl ?_
  refine RunF.q (o_assign rfl) rfl ?_
  refine AW.seq ?_
  refine AW.region (by kernel_rfl) ?_
  refine RunF.q (o_load_agg rfl tk24 ts24 rfl rfl rfl (by simp only [List.take_succ_cons, List.drop_succ_cons, List.drop_zero, List.take_zero, List.take_nil, List.drop_nil, Nat.zero_add, Nat.reduceAdd]; rfl)) rfl ?_
  refine RunF.q (o_move rfl) rfl ?_
  refine RunF.q (o_move rfl) rfl ?_
  refine RunF.q (o_call (no := 1) (nr := 1) rfl rfl rfl (by (repeat' first | exact cl_nil | exact cL_flat rfl | exact cL_flat (ints_flat _) | apply cL_vs | apply cl_cons | exact cv_flat rfl | apply cv_agg | apply cv_ptr_o | apply cv_sl_o rfl | apply cv_func | exact cO_old rfl | (apply cO_new; (focus rfl); (focus rfl)) | (apply cv_sl_r; (focus rfl); (focus rfl); (focus (simp; done)); (focus (first | exact ints_all _ | rfl))) | (apply cv_ptr_r rfl ?_ rfl rfl) | (simp only [List.nil_append, List.cons_append, List.length_cons, List.length_nil, Nat.zero_add, Nat.reduceAdd, List.set_cons_zero, List.set_cons_succ]; rfl) | rfl)) (by rfl) (by exact at_ok r c hr hc L hL f k i hk hi) (by rfl) rfl rfl (by first | exact reV_bare _ _ rfl | (simp only [reV, reVs, List.all_cons, List.all_nil, AV.flat, Bool.and_true, Bool.true_and, Bool.false_and, Bool.and_false, Bool.false_eq_true, reduceIte, CS.de, List.getElem?_cons_zero, List.getElem?_cons_succ, List.getElem?_nil, List.length_cons, List.length_nil, Nat.reduceSub, Nat.reduceAdd, Nat.zero_add, Nat.add_zero, Nat.sub_self]; rfl)) rfl) (by rfl) ?_
  refine RunF.q (o_assign rfl) rfl ?_
  refine RunF.q (o_assign rfl) rfl ?_
  refine AW.ret ?_
  exact FinQ.ret [] [] (ress_tmp rfl (ress_tmp rfl ress_nil)) rfl (.some rfl rfl (by first | (apply PRN.flat; rfl) | (apply PRN.flat; simp; done) | (repeat' first | exact PRN.nil | apply PRN.cons | exact RN.self rfl | exact RN.top | exact RN.ptr rfl | exact RN.sl rfl | exact RN.slf rfl | apply RN.agg | apply RN.fn | exact RNs.nil | apply RNs.cons)) .nil) (.cons rfl rfl (PRN.flat (by simp)) .nil) (by repeat' first | exact RN.self rfl | exact RN.top | exact RN.ptr rfl | exact RN.sl rfl | exact RN.slf rfl | apply RN.agg | apply RN.tuple | apply RN.fn | exact RNs.nil | apply RNs.cons | (apply RNs.flat; simp; done))

theorem PRN.snoc {σ : Ren} (l : List Int) (q : Int) : PRN σ (ints (l ++ [q])) (ints l ++ [.int .i64 q]) := by
  rw [ints_append]; exact PRN.flat (by simp [AV.flat])
theorem getD_mem {l : List Int} {i : Nat} (h : i < l.length) : l.getD i 0 ∈ l := by
  rw [List.getD_eq_getElem?_getD, List.getElem?_eq_getElem h]; exact List.getElem_mem h
/-- the numbers of a matrix turned -/
def trL (L : List Int) (c r : Nat) : List Int := tab (fun i k => L.getD (k * c + i) 0) r (c * r)

set_option maxHeartbeats 1000000 in
theorem madeT_ok (r c : Nat) (hr : r ≤ 8) (hc : c ≤ 8) (L : List Int) (hL : L.length = r * c) (f : Bool) (hR : 0 < c) (hC : 0 < r) : SoundC Try.prog 76 [.agg [.int .i64 c, .int .i64 r], .func 77 [] [.ptr (.o 0) 0]] ⟨[ints L], [some [.int .i64 r, .int .i64 c, .sl (.r 0) 0 L.length 1 f]]⟩ { val := .tuple [.agg [.int .i64 c, .int .i64 r, .sl (.o 1) 0 (tab (fun i k => L.getD (k * c + i) 0) r (c * r)).length 1 false], .bool (anyT (fun _ _ => false) r (c * r))], newo := [ints (tab (fun i k => L.getD (k * c + i) 0) r (c * r))] } := by
  have hR8 := hc
  have hC8 := hr
  refine SoundC.of (N := 48) Try.func76 rfl rfl rfl rfl ?_
  refine AW.seq ?_
  refine AW.region (by kernel_rfl) ?_
  refine RunF.w (o_box (nm := 1) rfl rfl rfl) rfl ?_
  refine RunF.w (o_alloc (nm := 2) tz24 rfl) rfl ?_
  refine RunF.q (o_assign rfl) rfl ?_
  refine AW.seq ?_
  refine AW.region (by kernel_rfl) ?_
  refine RunF.q (o_fieldAddr rfl tk132 rfl ts3 rfl) rfl ?_
  refine RunF.q (o_load rfl tk3 ts3 rfl rfl rfl) rfl ?_
  refine RunF.q (o_fieldAddr rfl tk132 rfl ts3 rfl) rfl ?_
  refine RunF.q (o_load rfl tk3 ts3 rfl rfl rfl) rfl ?_
  refine RunF.q (o_build tk24 tz24 pl24 rfl rfl) rfl ?_
  refine RunF.w (o_alloc (nm := 3) tz24 rfl) rfl ?_
  refine RunF.wn (o_store rfl rfl rfl ts24 rfl rfl) rfl ?_
  refine AW.seq ?_
  refine AW.region (by kernel_rfl) ?_
  refine RunF.q (o_assign rfl) rfl ?_
  refine AW.seq ?_
  refine AW.seq ?_
  refine AW.region (by kernel_rfl) ?_
  refine RunF.q (o_fieldAddr rfl tk132 rfl ts3 rfl) rfl ?_
  refine RunF.q (o_load rfl tk3 ts3 rfl rfl rfl) rfl ?_
  refine RunF.q (o_move rfl) rfl ?_
  refine AW.block ?_
  refine AW.loop (α := {x : Nat × List Int × Bool // x.1 ≤ c ∧ x.2.1 = tab (fun i k => L.getD (k * c + i) 0) r (x.1 * r) ∧ x.2.2 = anyT (fun _ _ => false) r (x.1 * r)}) (fun x : {x : Nat × List Int × Bool // x.1 ≤ c ∧ x.2.1 = tab (fun i k => L.getD (k * c + i) 0) r (x.1 * r) ∧ x.2.2 = anyT (fun _ _ => false) r (x.1 * r)} => ([(1, .func 77 [] [.ptr (.o 0) 0]), (2, .ptr (.o 1) 0), (4, .ptr (.o 2) 0), (6, .ptr (.o 3) 0), (7, .bool x.1.2.2), (18, .int .i64 c), (19, .int .i64 x.1.1)], ⟨[ints L], [some [.int .i64 r, .int .i64 c, .sl (.r 0) 0 L.length 1 f], some [.int .i64 c, .int .i64 r], some [.int .i64 0, .int .i64 0, .nilsl], some [.int .i64 c, .int .i64 r, slOf 4 x.1.2.1], rowOf x.1.2.1]⟩)) (fun x => c - x.1.1) (fun x => ?_) ⟨(0, [], false), by simp, by simp [tab], by simp [anyT]⟩ ?_
  · obtain ⟨⟨i, L0, z0⟩, hx1, hx2, hx3⟩ := x
    dsimp only at hx1 hx2 hx3
    dsimp only
    refine AW.seq ?_
    refine AW.region (by kernel_rfl) ?_
    refine RunF.q (o_lss rfl rfl) rfl ?_
    refine AW.seq ?_
    refine AW.cond rfl (fun hc0 => ?_) (fun hc0 => ?_)
    · try simp only [decide_eq_true_eq, decide_eq_false_iff_not, bne_iff_ne, beq_iff_eq, bne_eq_false_iff_eq, beq_eq_false_iff_ne, ne_eq, Bool.not_eq_true', Bool.not_eq_false'] at hc0
      have hi : i < c := by omega
      refine AW.skip ?_
      refine AW.seq ?_
      refine AW.block ?_
      refine AW.seq ?_
      refine AW.region (by kernel_rfl) ?_
      refine RunF.q (o_move rfl) rfl ?_
      refine RunF.q (o_assign rfl) rfl ?_
      refine AW.seq ?_
      refine AW.region (by kernel_rfl) ?_
      refine RunF.q (o_fieldAddr rfl tk132 rfl ts3 rfl) rfl ?_
      refine RunF.q (o_load rfl tk3 ts3 rfl rfl rfl) rfl ?_
      refine RunF.q (o_move rfl) rfl ?_
      refine AW.block ?_
      refine AW.loop (α := {x : Nat × List Int × Bool // x.1 ≤ r ∧ x.2.1 = tab (fun i k => L.getD (k * c + i) 0) r (i * r + x.1) ∧ x.2.2 = anyT (fun _ _ => false) r (i * r + x.1)}) (fun x : {x : Nat × List Int × Bool // x.1 ≤ r ∧ x.2.1 = tab (fun i k => L.getD (k * c + i) 0) r (i * r + x.1) ∧ x.2.2 = anyT (fun _ _ => false) r (i * r + x.1)} => ([(1, .func 77 [] [.ptr (.o 0) 0]), (2, .ptr (.o 1) 0), (4, .ptr (.o 2) 0), (6, .ptr (.o 3) 0), (7, .bool x.1.2.2), (8, .int .i64 i), (18, .int .i64 c), (19, .int .i64 i), (23, .int .i64 r), (24, .int .i64 x.1.1)], ⟨[ints L], [some [.int .i64 r, .int .i64 c, .sl (.r 0) 0 L.length 1 f], some [.int .i64 c, .int .i64 r], some [.int .i64 0, .int .i64 0, .nilsl], some [.int .i64 c, .int .i64 r, slOf 4 x.1.2.1], rowOf x.1.2.1]⟩)) (fun x => r - x.1.1) (fun x => ?_) ⟨(0, L0, z0), by omega, by simpa using hx2, by simpa using hx3⟩ ?_
      · obtain ⟨⟨k, y1, y2⟩, hy1, hy2, hy3⟩ := x
        dsimp only at hy1 hy2 hy3
        dsimp only
        refine AW.seq ?_
        refine AW.region (by kernel_rfl) ?_
        refine RunF.q (o_lss rfl rfl) rfl ?_
        refine AW.seq ?_
        refine AW.cond rfl (fun hc1 => ?_) (fun hc1 => ?_)
        · try simp only [decide_eq_true_eq, decide_eq_false_iff_not, bne_iff_ne, beq_iff_eq, bne_eq_false_iff_eq, beq_eq_false_iff_ne, ne_eq, Bool.not_eq_true', Bool.not_eq_false'] at hc1
          have hk : k < r := by omega
          have hlen : y1.length ≤ 64 := by rw [hy2, tab_length]; have := idx_lt hi hk; have := small_mul hR8 hC8; omega
          rcases y1 with _ | ⟨a, l⟩
          · refine AW.skip ?_
            refine AW.seq ?_
            refine AW.block ?_
            refine AW.seq ?_
            refine AW.region (by kernel_rfl) ?_
            refine RunF.q (o_move rfl) rfl ?_
            refine RunF.q (o_assign rfl) rfl ?_
            refine AW.seq ?_
            refine AW.region (by kernel_rfl) ?_
            refine RunF.q (o_move rfl) rfl ?_
            refine RunF.q (o_move rfl) rfl ?_
            refine RunF.q (o_move rfl) rfl ?_
            refine RunF.q (o_call (no := 5) (nr := 1) rfl rfl rfl (by (repeat' first | exact cl_nil | exact cL_flat rfl | exact cL_flat (ints_flat _) | apply cL_vs | apply cl_cons | exact cv_flat rfl | apply cv_agg | apply cv_ptr_o | apply cv_sl_o rfl | apply cv_func | exact cO_old rfl | (apply cO_new; (focus rfl); (focus rfl)) | (apply cv_sl_r; (focus rfl); (focus rfl); (focus (simp; done)); (focus (first | exact ints_all _ | rfl))) | (apply cv_ptr_r rfl ?_ rfl rfl) | (simp only [List.nil_append, List.cons_append, List.length_cons, List.length_nil, Nat.zero_add, Nat.reduceAdd, List.set_cons_zero, List.set_cons_succ]; rfl) | rfl)) (by rfl) (by exact trans1_ok r c hr hc L hL f i k hi hk) (by rfl) rfl rfl (by first | exact reV_bare _ _ rfl | (simp only [reV, reVs, List.all_cons, List.all_nil, AV.flat, Bool.and_true, Bool.true_and, Bool.false_and, Bool.and_false, Bool.false_eq_true, reduceIte, CS.de, List.getElem?_cons_zero, List.getElem?_cons_succ, List.getElem?_nil, List.length_cons, List.length_nil, Nat.reduceSub, Nat.reduceAdd, Nat.zero_add, Nat.add_zero, Nat.sub_self]; rfl)) rfl) (by rfl) ?_
            refine RunF.q (o_move rfl) rfl ?_
            refine RunF.q (o_extract rfl rfl) rfl ?_
            refine RunF.q (o_extract rfl rfl) rfl ?_
            refine RunF.q (o_assign rfl) rfl ?_
            refine RunF.q (o_assign rfl) rfl ?_
            refine AW.seq ?_
            refine AW.region (by kernel_rfl) ?_
            refine RunF.q (o_fieldAddr rfl tk24 rfl ts22 rfl) rfl ?_
            refine RunF.q (o_load rfl tk22 ts22 rfl rfl rfl) rfl ?_
            refine RunF.q (o_move rfl) rfl ?_
            refine RunF.w (o_buildSlice (nm := 5) tk22 ts30 tz30 rfl rfl rfl rfl) rfl ?_
            refine RunF.w (o_append_nil (nm := 6) tk22 tk22 ts30 tb30 tz30 rfl rfl rfl rfl ⟨by decide, Nat.le_refl 1, by decide, by decide⟩ rfl rfl rfl) rfl ?_
            refine RunF.q (o_fieldAddr rfl tk24 rfl ts22 rfl) rfl ?_
            refine RunF.wn (o_store rfl rfl rfl ts22 rfl rfl) rfl ?_
            refine AW.region (by kernel_rfl) ?_
            refine RunF.q (o_move rfl) rfl ?_
            refine RunF.q (o_move rfl) rfl ?_
            refine RunF.gm rfl (o_move rfl) ?_
            first | refine RunF.q (o_pick_t rfl rfl) rfl ?_ | refine RunF.q (o_pick_f rfl rfl) rfl ?_ | refine RunF.q (o_pick_b rfl rfl rfl) rfl ?_ | refine RunF.q (o_pick_or rfl rfl rfl) rfl ?_ | refine RunF.q (o_pick_and rfl rfl rfl) rfl ?_
            refine RunF.q (o_assign rfl) rfl ?_
            refine AW.region (by kernel_rfl) ?_
            refine RunF.q (o_add rfl rfl (by first | exact i64_in _ (by omega) | rfl)) rfl ?_
            refine RunF.q (o_move rfl) rfl ?_
            exact ⟨⟨(k + 1, ([] : List Int) ++ [(fun i k => L.getD (k * c + i) 0) i k], y2 || (fun _ _ => false) i k), by dsimp only; omega, by dsimp only; rw [← Nat.add_assoc, tab_succ _ hk, ← hy2], by dsimp only; rw [← Nat.add_assoc, anyT_succ _ hk, ← hy3]⟩, Wk.of [1, 2, 3, 6] [] rfl (.some rfl rfl (by first | (apply PRN.flat; rfl) | (apply PRN.flat; simp; done) | (repeat' first | exact PRN.nil | apply PRN.cons | exact RN.self rfl | exact RN.top | exact RN.ptr rfl | exact RN.sl rfl | exact RN.slf rfl | apply RN.agg | apply RN.fn | exact RNs.nil | apply RNs.cons)) (.some rfl rfl (by first | (apply PRN.flat; rfl) | (apply PRN.flat; simp; done) | (repeat' first | exact PRN.nil | apply PRN.cons | exact RN.self rfl | exact RN.top | exact RN.ptr rfl | exact RN.sl rfl | exact RN.slf rfl | apply RN.agg | apply RN.fn | exact RNs.nil | apply RNs.cons)) (.some rfl rfl (by first | (apply PRN.flat; rfl) | (apply PRN.flat; simp; done) | (repeat' first | exact PRN.nil | apply PRN.cons | exact RN.self rfl | exact RN.top | exact RN.ptr rfl | exact RN.sl rfl | exact RN.slf rfl | apply RN.agg | apply RN.fn | exact RNs.nil | apply RNs.cons)) (.some rfl rfl (by first | (apply PRN.flat; rfl) | (apply PRN.flat; simp; done) | (repeat' first | exact PRN.nil | apply PRN.cons | exact RN.self rfl | exact RN.top | exact RN.ptr rfl | exact RN.sl rfl | exact RN.slf rfl | apply RN.agg | apply RN.fn | exact RNs.nil | apply RNs.cons)) (.some rfl rfl (by first | (apply PRN.flat; rfl) | (apply PRN.flat; simp; done) | (repeat' first | exact PRN.nil | apply PRN.cons | exact RN.self rfl | exact RN.top | exact RN.ptr rfl | exact RN.sl rfl | exact RN.slf rfl | apply RN.agg | apply RN.fn | exact RNs.nil | apply RNs.cons)) .nil))))) (.cons rfl rfl (by first | (apply PRN.flat; rfl) | (apply PRN.flat; simp; done) | (repeat' first | exact PRN.nil | apply PRN.cons | exact RN.self rfl | exact RN.top | exact RN.ptr rfl | exact RN.sl rfl | exact RN.slf rfl | apply RN.agg | apply RN.fn | exact RNs.nil | apply RNs.cons)) .nil) (.cons rfl (.fn .nil (.cons (.ptr rfl) .nil)) (.cons rfl (.ptr rfl) (.cons rfl (.ptr rfl) (.cons rfl (.ptr rfl) (.cons rfl (.self rfl) (.cons rfl (.self rfl) (.cons rfl (.self rfl) (.cons rfl (.self rfl) (.cons rfl (.self rfl) (.cons rfl (.self rfl) .nil)))))))))), by dsimp only; omega⟩
          · refine AW.skip ?_
            refine AW.seq ?_
            refine AW.block ?_
            refine AW.seq ?_
            refine AW.region (by kernel_rfl) ?_
            refine RunF.q (o_move rfl) rfl ?_
            refine RunF.q (o_assign rfl) rfl ?_
            refine AW.seq ?_
            refine AW.region (by kernel_rfl) ?_
            refine RunF.q (o_move rfl) rfl ?_
            refine RunF.q (o_move rfl) rfl ?_
            refine RunF.q (o_move rfl) rfl ?_
            refine RunF.q (o_call (no := 5) (nr := 1) rfl rfl rfl (by (repeat' first | exact cl_nil | exact cL_flat rfl | exact cL_flat (ints_flat _) | apply cL_vs | apply cl_cons | exact cv_flat rfl | apply cv_agg | apply cv_ptr_o | apply cv_sl_o rfl | apply cv_func | exact cO_old rfl | (apply cO_new; (focus rfl); (focus rfl)) | (apply cv_sl_r; (focus rfl); (focus rfl); (focus (simp; done)); (focus (first | exact ints_all _ | rfl))) | (apply cv_ptr_r rfl ?_ rfl rfl) | (simp only [List.nil_append, List.cons_append, List.length_cons, List.length_nil, Nat.zero_add, Nat.reduceAdd, List.set_cons_zero, List.set_cons_succ]; rfl) | rfl)) (by rfl) (by exact trans1_ok r c hr hc L hL f i k hi hk) (by rfl) rfl rfl (by first | exact reV_bare _ _ rfl | (simp only [reV, reVs, List.all_cons, List.all_nil, AV.flat, Bool.and_true, Bool.true_and, Bool.false_and, Bool.and_false, Bool.false_eq_true, reduceIte, CS.de, List.getElem?_cons_zero, List.getElem?_cons_succ, List.getElem?_nil, List.length_cons, List.length_nil, Nat.reduceSub, Nat.reduceAdd, Nat.zero_add, Nat.add_zero, Nat.sub_self]; rfl)) rfl) (by rfl) ?_
            refine RunF.q (o_move rfl) rfl ?_
            refine RunF.q (o_extract rfl rfl) rfl ?_
            refine RunF.q (o_extract rfl rfl) rfl ?_
            refine RunF.q (o_assign rfl) rfl ?_
            refine RunF.q (o_assign rfl) rfl ?_
            refine AW.seq ?_
            refine AW.region (by kernel_rfl) ?_
            refine RunF.q (o_fieldAddr rfl tk24 rfl ts22 rfl) rfl ?_
            refine RunF.q (o_load rfl tk22 ts22 rfl rfl rfl) rfl ?_
            refine RunF.q (o_move rfl) rfl ?_
            refine RunF.w (o_buildSlice (nm := 5) tk22 ts30 tz30 rfl rfl rfl rfl) rfl ?_
            refine RunF.w (o_append_own (nm := 6) (mn := ((a :: l) ++ [(fun i k => L.getD (k * c + i) 0) i k]).length) tk22 tk22 ts30 tb30 tz30 rfl rfl rfl rfl rfl ⟨by decide, Nat.le_refl 1, by simp, by simp only [List.length_cons] at hlen ⊢; omega, by simp only [List.length_cons] at hlen ⊢; omega⟩ rfl (ints_all (a :: l)) rfl rfl (by simp)) rfl ?_
            refine RunF.q (o_fieldAddr rfl tk24 rfl ts22 rfl) rfl ?_
            refine RunF.wn (o_store rfl rfl rfl ts22 rfl rfl) rfl ?_
            refine AW.region (by kernel_rfl) ?_
            refine RunF.q (o_move rfl) rfl ?_
            refine RunF.q (o_move rfl) rfl ?_
            refine RunF.gm rfl (o_move rfl) ?_
            first | refine RunF.q (o_pick_t rfl rfl) rfl ?_ | refine RunF.q (o_pick_f rfl rfl) rfl ?_ | refine RunF.q (o_pick_b rfl rfl rfl) rfl ?_ | refine RunF.q (o_pick_or rfl rfl rfl) rfl ?_ | refine RunF.q (o_pick_and rfl rfl rfl) rfl ?_
            refine RunF.q (o_assign rfl) rfl ?_
            refine AW.region (by kernel_rfl) ?_
            refine RunF.q (o_add rfl rfl (by first | exact i64_in _ (by omega) | rfl)) rfl ?_
            refine RunF.q (o_move rfl) rfl ?_
            exact ⟨⟨(k + 1, (a :: l) ++ [(fun i k => L.getD (k * c + i) 0) i k], y2 || (fun _ _ => false) i k), by dsimp only; omega, by dsimp only; rw [← Nat.add_assoc, tab_succ _ hk, ← hy2], by dsimp only; rw [← Nat.add_assoc, anyT_succ _ hk, ← hy3]⟩, Wk.of [1, 2, 3, 6] [] rfl (.some rfl rfl (by first | (apply PRN.flat; rfl) | (apply PRN.flat; simp; done) | (repeat' first | exact PRN.nil | apply PRN.cons | exact RN.self rfl | exact RN.top | exact RN.ptr rfl | exact RN.sl rfl | exact RN.slf rfl | apply RN.agg | apply RN.fn | exact RNs.nil | apply RNs.cons)) (.some rfl rfl (by first | (apply PRN.flat; rfl) | (apply PRN.flat; simp; done) | (repeat' first | exact PRN.nil | apply PRN.cons | exact RN.self rfl | exact RN.top | exact RN.ptr rfl | exact RN.sl rfl | exact RN.slf rfl | apply RN.agg | apply RN.fn | exact RNs.nil | apply RNs.cons)) (.some rfl rfl (by first | (apply PRN.flat; rfl) | (apply PRN.flat; simp; done) | (repeat' first | exact PRN.nil | apply PRN.cons | exact RN.self rfl | exact RN.top | exact RN.ptr rfl | exact RN.sl rfl | exact RN.slf rfl | apply RN.agg | apply RN.fn | exact RNs.nil | apply RNs.cons)) (.some rfl rfl (by first | (apply PRN.flat; rfl) | (apply PRN.flat; simp; done) | (repeat' first | exact PRN.nil | apply PRN.cons | exact RN.self rfl | exact RN.top | exact RN.ptr rfl | exact RN.sl rfl | exact RN.slf rfl | apply RN.agg | apply RN.fn | exact RNs.nil | apply RNs.cons)) (.some rfl rfl (PRN.snoc (a :: l) ((fun i k => L.getD (k * c + i) 0) i k)) .nil))))) (.cons rfl rfl (by first | (apply PRN.flat; rfl) | (apply PRN.flat; simp; done) | (repeat' first | exact PRN.nil | apply PRN.cons | exact RN.self rfl | exact RN.top | exact RN.ptr rfl | exact RN.sl rfl | exact RN.slf rfl | apply RN.agg | apply RN.fn | exact RNs.nil | apply RNs.cons)) .nil) (.cons rfl (.fn .nil (.cons (.ptr rfl) .nil)) (.cons rfl (.ptr rfl) (.cons rfl (.ptr rfl) (.cons rfl (.ptr rfl) (.cons rfl (.self rfl) (.cons rfl (.self rfl) (.cons rfl (.self rfl) (.cons rfl (.self rfl) (.cons rfl (.self rfl) (.cons rfl (.self rfl) .nil)))))))))), by dsimp only; omega⟩
        · try simp only [decide_eq_true_eq, decide_eq_false_iff_not, bne_iff_ne, beq_iff_eq, bne_eq_false_iff_eq, beq_eq_false_iff_ne, ne_eq, Bool.not_eq_true', Bool.not_eq_false'] at hc1
          refine AW.exit ?_
          refine AW.region (by kernel_rfl) ?_
          refine RunF.q (o_add rfl rfl (by first | exact i64_in _ (by omega) | rfl)) rfl ?_
          refine RunF.q (o_move rfl) rfl ?_
          exact ⟨⟨(i + 1, y1, y2), by dsimp only; omega, by dsimp only; rw [hy2, Nat.succ_mul]; congr 1; omega, by dsimp only; rw [hy3, Nat.succ_mul]; congr 1; omega⟩, Wk.same rfl (.cons rfl (.cons rfl (.cons rfl (.cons rfl (.cons rfl (.cons rfl (.cons rfl .nil))))))), by dsimp only; omega⟩
      · exact Wk.same rfl (.cons rfl (.cons rfl (.cons rfl (.cons rfl (.cons rfl (.cons rfl (.cons rfl (.cons rfl (.cons rfl (.cons rfl .nil))))))))))
    · try simp only [decide_eq_true_eq, decide_eq_false_iff_not, bne_iff_ne, beq_iff_eq, bne_eq_false_iff_eq, beq_eq_false_iff_ne, ne_eq, Bool.not_eq_true', Bool.not_eq_false'] at hc0
      have ei : i = c := by omega
      subst ei
      obtain ⟨a, l, rfl⟩ : ∃ a l, L0 = a :: l := by
        cases L0 with
        | nil => have := congrArg List.length hx2; rw [tab_length] at this; have := Nat.mul_pos hR hC; simp at *; omega
        | cons a l => exact ⟨a, l, rfl⟩
      refine AW.exit ?_
      refine AW.seq ?_
      refine AW.region (by kernel_rfl) ?_
      refine RunF.q (o_load_agg rfl tk24 ts24 rfl rfl rfl rfl) rfl ?_
      refine RunF.q (o_move rfl) rfl ?_
      refine RunF.wn (o_store rfl rfl rfl ts24 rfl rfl) rfl ?_
      refine RunF.q (o_assign rfl) rfl ?_
      refine AW.ret ?_
      apply FinQ.ret [4] []
      · exact (ress_agg rfl tk24 ts24 rfl rfl rfl (ress_tmp rfl ress_nil))
      · rfl
      · exact (.some rfl rfl (by first | (apply PRN.flat; rfl) | (apply PRN.flat; simp; done) | (repeat' first | exact PRN.nil | apply PRN.cons | exact RN.self rfl | exact RN.top | exact RN.ptr rfl | exact RN.sl rfl | exact RN.slf rfl | apply RN.agg | apply RN.fn | exact RNs.nil | apply RNs.cons)) (.some rfl rfl (by rw [← hx2]; exact PRN.flat (ints_flat _)) .nil))
      · exact (.cons rfl rfl (by first | (apply PRN.flat; rfl) | (apply PRN.flat; simp; done) | (repeat' first | exact PRN.nil | apply PRN.cons | exact RN.self rfl | exact RN.top | exact RN.ptr rfl | exact RN.sl rfl | exact RN.slf rfl | apply RN.agg | apply RN.fn | exact RNs.nil | apply RNs.cons)) .nil)
      · rw [← hx2, ← hx3]; exact (by repeat' first | exact RN.self rfl | exact RN.top | exact RN.ptr rfl | exact RN.sl rfl | exact RN.slf rfl | apply RN.agg | apply RN.tuple | apply RN.fn | exact RNs.nil | apply RNs.cons | (apply RNs.flat; simp; done))
  · exact Wk.of [1, 2, 3, 999] [] rfl (.some rfl rfl (by first | (apply PRN.flat; rfl) | (apply PRN.flat; simp; done) | (repeat' first | exact PRN.nil | apply PRN.cons | exact RN.self rfl | exact RN.top | exact RN.ptr rfl | exact RN.sl rfl | exact RN.slf rfl | apply RN.agg | apply RN.fn | exact RNs.nil | apply RNs.cons)) (.some rfl rfl (by first | (apply PRN.flat; rfl) | (apply PRN.flat; simp; done) | (repeat' first | exact PRN.nil | apply PRN.cons | exact RN.self rfl | exact RN.top | exact RN.ptr rfl | exact RN.sl rfl | exact RN.slf rfl | apply RN.agg | apply RN.fn | exact RNs.nil | apply RNs.cons)) (.some rfl rfl (by first | (apply PRN.flat; rfl) | (apply PRN.flat; simp; done) | (repeat' first | exact PRN.nil | apply PRN.cons | exact RN.self rfl | exact RN.top | exact RN.ptr rfl | exact RN.sl rfl | exact RN.slf rfl | apply RN.agg | apply RN.fn | exact RNs.nil | apply RNs.cons)) (.some rfl rfl (by first | (apply PRN.flat; rfl) | (apply PRN.flat; simp; done) | (repeat' first | exact PRN.nil | apply PRN.cons | exact RN.self rfl | exact RN.top | exact RN.ptr rfl | exact RN.sl rfl | exact RN.slf rfl | apply RN.agg | apply RN.fn | exact RNs.nil | apply RNs.cons)) (.none .nil))))) (.cons rfl rfl (by first | (apply PRN.flat; rfl) | (apply PRN.flat; simp; done) | (repeat' first | exact PRN.nil | apply PRN.cons | exact RN.self rfl | exact RN.top | exact RN.ptr rfl | exact RN.sl rfl | exact RN.slf rfl | apply RN.agg | apply RN.fn | exact RNs.nil | apply RNs.cons)) .nil) (.cons rfl (.fn .nil (.cons (.ptr rfl) .nil)) (.cons rfl (.ptr rfl) (.cons rfl (.ptr rfl) (.cons rfl (.ptr rfl) (.cons rfl (.self rfl) (.cons rfl (.self rfl) (.cons rfl (.self rfl) .nil)))))))

set_option maxHeartbeats 1000000 in
theorem of_ok (r c : Int) (L : List Int) (f : Bool) : SoundC Try.prog 113 [.agg [.int .i64 r, .int .i64 c, .sl (.r 0) 0 L.length 1 f]] ⟨[ints L], []⟩ { val := .agg [.int .i64 r, .int .i64 c] } := by
  refine SoundC.of (N := 8) Try.func113 rfl rfl rfl rfl ?_
  refine AW.seq ?_
  refine AW.region (by kernel_rfl) ?_
  refine RunF.w (o_box (nm := 0) rfl rfl rfl) (by simp only [H.app, appO, patchAll, patch, List.map_cons, List.map_nil, List.append_nil, List.nil_append, List.cons_append, List.set_cons_zero, List.set_cons_succ, Option.map_some, Option.map_none, List.contains_cons, List.contains_nil, Nat.reduceAdd, Nat.reduceEqDiff, Nat.reduceBEq, Bool.or_false, Bool.false_eq_true, reduceIte, Nat.zero_add]; rfl) ?_
  refine RunF.w (o_alloc (nm := 1) tz132 rfl) (by simp only [H.app, appO, patchAll, patch, List.map_cons, List.map_nil, List.append_nil, List.nil_append, List.cons_append, List.set_cons_zero, List.set_cons_succ, Option.map_some, Option.map_none, List.contains_cons, List.contains_nil, Nat.reduceAdd, Nat.reduceEqDiff, Nat.reduceBEq, Bool.or_false, Bool.false_eq_true, reduceIte, Nat.zero_add]; rfl) ?_
  refine AW.seq ?_
  refine AW.region (by kernel_rfl) ?_
  refine RunF.q (o_fieldAddr rfl tk24 rfl ts3 rfl) rfl ?_
  refine RunF.q (o_load rfl tk3 ts3 rfl rfl rfl) rfl ?_
  refine RunF.q (o_fieldAddr rfl tk24 rfl ts3 rfl) rfl ?_
  refine RunF.q (o_load rfl tk3 ts3 rfl rfl rfl) rfl ?_
  refine RunF.q (o_build tk132 tz132 pl132 rfl rfl) rfl ?_
  refine RunF.wn (o_store rfl rfl rfl ts132 rfl rfl) (by simp only [H.app, appO, patchAll, patch, List.map_cons, List.map_nil, List.append_nil, List.nil_append, List.cons_append, List.set_cons_zero, List.set_cons_succ, Option.map_some, Option.map_none, List.contains_cons, List.contains_nil, Nat.reduceAdd, Nat.reduceEqDiff, Nat.reduceBEq, Bool.or_false, Bool.false_eq_true, reduceIte, Nat.zero_add]; rfl) ?_
  refine AW.ret ?_
  exact FinQ.ret [] [] (ress_agg rfl tk132 ts132 rfl rfl rfl ress_nil) rfl .nil (.cons rfl rfl (by first | (apply PRN.flat; rfl) | (apply PRN.flat; simp; done) | (repeat' first | exact PRN.nil | apply PRN.cons | exact RN.self rfl | exact RN.top | exact RN.ptr rfl | exact RN.sl rfl | exact RN.slf rfl | apply RN.agg | apply RN.fn | exact RNs.nil | apply RNs.cons)) .nil) (by repeat' first | exact RN.self rfl | exact RN.top | exact RN.ptr rfl | exact RN.sl rfl | exact RN.slf rfl | apply RN.agg | apply RN.tuple | apply RN.fn | exact RNs.nil | apply RNs.cons | (apply RNs.flat; simp; done))

set_option maxHeartbeats 1000000 in
theorem trans_ok (r c : Nat) (hr : r ≤ 8) (hc : c ≤ 8) (L : List Int) (hL : L.length = r * c) (f : Bool) (hR : 0 < r) (hC : 0 < c) : SoundC Try.prog 30 [.agg [.int .i64 r, .int .i64 c, .sl (.r 0) 0 L.length 1 f]] ⟨[ints L], []⟩ { val := .agg [.int .i64 c, .int .i64 r, .sl (.o 0) 0 (trL L c r).length 1 false], newo := [ints (trL L c r)] } := by
  refine SoundC.of (N := 16) Try.func30 rfl rfl rfl rfl ?_
  refine AW.seq ?_
  refine AW.region (by kernel_rfl) ?_
  refine RunF.w (o_box (nm := 0) rfl rfl rfl) (by simp only [H.app, appO, patchAll, patch, List.map_cons, List.map_nil, List.append_nil, List.nil_append, List.cons_append, List.set_cons_zero, List.set_cons_succ, Option.map_some, Option.map_none, List.contains_cons, List.contains_nil, Nat.reduceAdd, Nat.reduceEqDiff, Nat.reduceBEq, Bool.or_false, Bool.false_eq_true, reduceIte, Nat.zero_add]; rfl) ?_
  refine RunF.w (o_alloc (nm := 1) tz24 rfl) (by simp only [H.app, appO, patchAll, patch, List.map_cons, List.map_nil, List.append_nil, List.nil_append, List.cons_append, List.set_cons_zero, List.set_cons_succ, Option.map_some, Option.map_none, List.contains_cons, List.contains_nil, Nat.reduceAdd, Nat.reduceEqDiff, Nat.reduceBEq, Bool.or_false, Bool.false_eq_true, reduceIte, Nat.zero_add]; rfl) ?_
  refine AW.seq ?_
  refine AW.region (by kernel_rfl) ?_
  refine RunF.q (o_fieldAddr rfl tk24 rfl ts3 rfl) rfl ?_
  refine RunF.q (o_load rfl tk3 ts3 rfl rfl rfl) rfl ?_
  refine RunF.q (o_fieldAddr rfl tk24 rfl ts3 rfl) rfl ?_
  refine RunF.q (o_load rfl tk3 ts3 rfl rfl rfl) rfl ?_
  refine RunF.q (o_build tk132 tz132 pl132 rfl rfl) rfl ?_
  refine RunF.q (o_makeFunc rfl rfl) rfl ?_
  refine RunF.w (o_call (no := 2) (nr := 1) rfl rfl rfl (by (repeat' first | exact cl_nil | exact cL_flat rfl | exact cL_flat (ints_flat _) | apply cL_vs | apply cl_cons | exact cv_flat rfl | apply cv_agg | apply cv_ptr_o | apply cv_sl_o rfl | apply cv_func | exact cO_old rfl | (apply cO_new; (focus rfl); (focus rfl)) | (apply cv_sl_r; (focus rfl); (focus rfl); (focus (simp; done)); (focus (first | exact ints_all _ | rfl))) | (apply cv_ptr_r rfl ?_ rfl rfl) | (simp only [List.nil_append, List.cons_append, List.length_cons, List.length_nil, Nat.zero_add, Nat.reduceAdd, List.set_cons_zero, List.set_cons_succ]; rfl) | rfl)) (by rfl) (by exact madeT_ok r c hr hc L hL f hC hR) (by rfl) rfl rfl (by first | exact reV_bare _ _ rfl | (simp only [reV, reVs, List.all_cons, List.all_nil, AV.flat, Bool.and_true, Bool.true_and, Bool.false_and, Bool.and_false, Bool.false_eq_true, reduceIte, CS.de, List.getElem?_cons_zero, List.getElem?_cons_succ, List.getElem?_nil, List.length_cons, List.length_nil, Nat.reduceSub, Nat.reduceAdd, Nat.zero_add, Nat.add_zero, Nat.sub_self]; rfl)) (by simp only [CS.eff, rdsR, rdsO, List.map_cons, List.map_nil, reL_ints, num, List.nil_append, List.append_nil, List.cons_append]; rfl)) (by simp only [H.app, appO, patchAll, patch, List.map_cons, List.map_nil, List.append_nil, List.nil_append, List.cons_append, List.set_cons_zero, List.set_cons_succ, Option.map_some, Option.map_none, List.contains_cons, List.contains_nil, Nat.reduceAdd, Nat.reduceEqDiff, Nat.reduceBEq, Bool.or_false, Bool.false_eq_true, reduceIte, Nat.zero_add]; rfl) ?_
  refine RunF.q (o_move rfl) rfl ?_
  refine RunF.q (o_extract rfl rfl) rfl ?_
  refine RunF.q (o_extract rfl rfl) rfl ?_
  refine RunF.w (o_alloc (nm := 3) tz24 rfl) (by simp only [H.app, appO, patchAll, patch, List.map_cons, List.map_nil, List.append_nil, List.nil_append, List.cons_append, List.set_cons_zero, List.set_cons_succ, Option.map_some, Option.map_none, List.contains_cons, List.contains_nil, Nat.reduceAdd, Nat.reduceEqDiff, Nat.reduceBEq, Bool.or_false, Bool.false_eq_true, reduceIte, Nat.zero_add]; rfl) ?_
  refine RunF.wn (o_store rfl rfl rfl ts24 rfl rfl) (by simp only [H.app, appO, patchAll, patch, List.map_cons, List.map_nil, List.append_nil, List.nil_append, List.cons_append, List.set_cons_zero, List.set_cons_succ, Option.map_some, Option.map_none, List.contains_cons, List.contains_nil, Nat.reduceAdd, Nat.reduceEqDiff, Nat.reduceBEq, Bool.or_false, Bool.false_eq_true, reduceIte, Nat.zero_add]; rfl) ?_
  refine RunF.q (o_assign rfl) rfl ?_
  refine AW.seq ?_
  refine AW.region (by kernel_rfl) ?_
  refine RunF.q (o_load_agg rfl tk24 ts24 rfl rfl rfl (by simp only [List.take_succ_cons, List.drop_succ_cons, List.drop_zero, List.take_zero, List.take_nil, List.drop_nil, Nat.zero_add, Nat.reduceAdd]; rfl)) rfl ?_
  refine RunF.wn (o_store rfl rfl rfl ts24 rfl rfl) (by simp only [H.app, appO, patchAll, patch, List.map_cons, List.map_nil, List.append_nil, List.nil_append, List.cons_append, List.set_cons_zero, List.set_cons_succ, Option.map_some, Option.map_none, List.contains_cons, List.contains_nil, Nat.reduceAdd, Nat.reduceEqDiff, Nat.reduceBEq, Bool.or_false, Bool.false_eq_true, reduceIte, Nat.zero_add]; rfl) ?_
  refine AW.ret ?_
  exact FinQ.ret [2] [] (ress_agg rfl tk24 ts24 rfl rfl rfl ress_nil) rfl (.some rfl rfl (PRN.flat (ints_flat _)) .nil) (.cons rfl rfl (by first | (apply PRN.flat; rfl) | (apply PRN.flat; simp; done) | (repeat' first | exact PRN.nil | apply PRN.cons | exact RN.self rfl | exact RN.top | exact RN.ptr rfl | exact RN.sl rfl | exact RN.slf rfl | apply RN.agg | apply RN.fn | exact RNs.nil | apply RNs.cons)) .nil) (by repeat' first | exact RN.self rfl | exact RN.top | exact RN.ptr rfl | exact RN.sl rfl | exact RN.slf rfl | apply RN.agg | apply RN.tuple | apply RN.fn | exact RNs.nil | apply RNs.cons | (apply RNs.flat; simp; done))

set_option maxHeartbeats 1000000 in
theorem each1_ok (r c : Nat) (hr : r ≤ 8) (hc : c ≤ 8) (A B : List Int) (hA : A.length = r * c) (hB : B.length = r * c) (fa fb : Bool) (kd : Nat) (D : Int → Int → Int × Bool) (hD : ∀ x ∈ A, ∀ y ∈ B, SoundC Try.prog kd [.int .i64 x, .int .i64 y] ⟨[], []⟩ { val := .tuple [.int .i64 (D x y).1, .bool (D x y).2] }) (i j : Nat) (hi : i < r) (hj : j < c) : SoundC Try.prog 114 [.int .i64 i, .int .i64 j, .ptr (.o 0) 0, .ptr (.o 1) 0, .ptr (.o 2) 0] ⟨[ints A, ints B], [some [.func kd [] []], some [.int .i64 r, .int .i64 c, .sl (.r 0) 0 A.length 1 fa], some [.int .i64 r, .int .i64 c, .sl (.r 1) 0 B.length 1 fb]]⟩ { val := .tuple [.int .i64 (D (A.getD (i * c + j) 0) (B.getD (i * c + j) 0)).1, .bool (D (A.getD (i * c + j) 0) (B.getD (i * c + j) 0)).2] } := by
  have h1 := idx_lt hi hj
  have hx : A.getD (i * c + j) 0 ∈ A := getD_mem (by omega)
  have hy : B.getD (i * c + j) 0 ∈ B := getD_mem (by omega)
  refine SoundC.of (N := 21) Try.func114 rfl rfl rfl rfl ?_
  refine AW.seq ?_
  refine AW.region (by kernel_rfl) ?_
  refine RunF.q (o_assign rfl) rfl ?_
  refine RunF.q (o_assign rfl) rfl ?_
  refine AW.seq ?_
  refine AW.draws (by kernel_rfl) (by kernel_rfl) ?_
  refine RunV.q (o_load rfl tk127 ts127 rfl rfl rfl) rfl ?_
  refine RunV.q (o_load_agg rfl tk24 ts24 rfl rfl rfl (by simp only [List.take_succ_cons, List.drop_succ_cons, List.drop_zero, List.take_zero, List.take_nil, List.drop_nil, Nat.zero_add, Nat.reduceAdd]; rfl)) rfl ?_
  refine RunV.q (o_move rfl) rfl ?_
  refine RunV.q (o_move rfl) rfl ?_
  refine RunV.q (o_call (no := 3) (nr := 2) rfl rfl rfl (by (repeat' first | exact cl_nil | exact cL_flat rfl | exact cL_flat (ints_flat _) | apply cL_vs | apply cl_cons | exact cv_flat rfl | apply cv_agg | apply cv_ptr_o | apply cv_sl_o rfl | apply cv_func | exact cO_old rfl | (apply cO_new; (focus rfl); (focus rfl)) | (apply cv_sl_r; (focus rfl); (focus rfl); (focus (simp; done)); (focus (first | exact ints_all _ | rfl))) | (apply cv_ptr_r rfl ?_ rfl rfl) | (simp only [List.nil_append, List.cons_append, List.length_cons, List.length_nil, Nat.zero_add, Nat.reduceAdd, List.set_cons_zero, List.set_cons_succ]; rfl) | rfl)) (by rfl) (by exact at_ok r c hr hc A hA fa i j hi hj) (by rfl) rfl rfl (by first | exact reV_bare _ _ rfl | (simp only [reV, reVs, List.all_cons, List.all_nil, AV.flat, Bool.and_true, Bool.true_and, Bool.false_and, Bool.and_false, Bool.false_eq_true, reduceIte, CS.de, List.getElem?_cons_zero, List.getElem?_cons_succ, List.getElem?_nil, List.length_cons, List.length_nil, Nat.reduceSub, Nat.reduceAdd, Nat.zero_add, Nat.add_zero, Nat.sub_self]; rfl)) rfl) (by rfl) ?_
  refine RunV.q (o_load_agg rfl tk24 ts24 rfl rfl rfl (by simp only [List.take_succ_cons, List.drop_succ_cons, List.drop_zero, List.take_zero, List.take_nil, List.drop_nil, Nat.zero_add, Nat.reduceAdd]; rfl)) rfl ?_
  refine RunV.q (o_move rfl) rfl ?_
  refine RunV.q (o_move rfl) rfl ?_
  refine RunV.q (o_call (no := 3) (nr := 2) rfl rfl rfl (by (repeat' first | exact cl_nil | exact cL_flat rfl | exact cL_flat (ints_flat _) | apply cL_vs | apply cl_cons | exact cv_flat rfl | apply cv_agg | apply cv_ptr_o | apply cv_sl_o rfl | apply cv_func | exact cO_old rfl | (apply cO_new; (focus rfl); (focus rfl)) | (apply cv_sl_r; (focus rfl); (focus rfl); (focus (simp; done)); (focus (first | exact ints_all _ | rfl))) | (apply cv_ptr_r rfl ?_ rfl rfl) | (simp only [List.nil_append, List.cons_append, List.length_cons, List.length_nil, Nat.zero_add, Nat.reduceAdd, List.set_cons_zero, List.set_cons_succ]; rfl) | rfl)) (by rfl) (by exact at_ok r c hr hc B hB fb i j hi hj) (by rfl) rfl rfl (by first | exact reV_bare _ _ rfl | (simp only [reV, reVs, List.all_cons, List.all_nil, AV.flat, Bool.and_true, Bool.true_and, Bool.false_and, Bool.and_false, Bool.false_eq_true, reduceIte, CS.de, List.getElem?_cons_zero, List.getElem?_cons_succ, List.getElem?_nil, List.length_cons, List.length_nil, Nat.reduceSub, Nat.reduceAdd, Nat.zero_add, Nat.add_zero, Nat.sub_self]; rfl)) rfl) (by rfl) ?_
  refine RunV.q (o_call (no := 3) (nr := 2) rfl rfl rfl (by (repeat' first | exact cl_nil | exact cL_flat rfl | exact cL_flat (ints_flat _) | apply cL_vs | apply cl_cons | exact cv_flat rfl | apply cv_agg | apply cv_ptr_o | apply cv_sl_o rfl | apply cv_func | exact cO_old rfl | (apply cO_new; (focus rfl); (focus rfl)) | (apply cv_sl_r; (focus rfl); (focus rfl); (focus (simp; done)); (focus (first | exact ints_all _ | rfl))) | (apply cv_ptr_r rfl ?_ rfl rfl) | (simp only [List.nil_append, List.cons_append, List.length_cons, List.length_nil, Nat.zero_add, Nat.reduceAdd, List.set_cons_zero, List.set_cons_succ]; rfl) | rfl)) (by rfl) (by exact hD _ hx _ hy) (by rfl) rfl rfl (by first | exact reV_bare _ _ rfl | (simp only [reV, reVs, List.all_cons, List.all_nil, AV.flat, Bool.and_true, Bool.true_and, Bool.false_and, Bool.and_false, Bool.false_eq_true, reduceIte, CS.de, List.getElem?_cons_zero, List.getElem?_cons_succ, List.getElem?_nil, List.length_cons, List.length_nil, Nat.reduceSub, Nat.reduceAdd, Nat.zero_add, Nat.add_zero, Nat.sub_self]; rfl)) rfl) (by rfl) ?_
  refine RunV.q (o_extract rfl rfl) rfl ?_
  refine RunV.q (o_extract rfl rfl) rfl ?_
  refine RunV.q (o_assign rfl) rfl ?_
  refine RunV.q (o_assign rfl) rfl ?_
  refine And.intro (by kernel_rfl) ?_
  refine AW.ret ?_
  exact FinQ.ret [] [] (ress_tmp rfl (ress_tmp rfl ress_nil)) rfl (.some rfl rfl (by first | (apply PRN.flat; rfl) | (apply PRN.flat; simp; done) | (repeat' first | exact PRN.nil | apply PRN.cons | exact RN.self rfl | exact RN.top | exact RN.ptr rfl | exact RN.sl rfl | exact RN.slf rfl | apply RN.agg | apply RN.fn | exact RNs.nil | apply RNs.cons)) (.some rfl rfl (by first | (apply PRN.flat; rfl) | (apply PRN.flat; simp; done) | (repeat' first | exact PRN.nil | apply PRN.cons | exact RN.self rfl | exact RN.top | exact RN.ptr rfl | exact RN.sl rfl | exact RN.slf rfl | apply RN.agg | apply RN.fn | exact RNs.nil | apply RNs.cons)) (.some rfl rfl (by first | (apply PRN.flat; rfl) | (apply PRN.flat; simp; done) | (repeat' first | exact PRN.nil | apply PRN.cons | exact RN.self rfl | exact RN.top | exact RN.ptr rfl | exact RN.sl rfl | exact RN.slf rfl | apply RN.agg | apply RN.fn | exact RNs.nil | apply RNs.cons)) .nil))) (.cons rfl rfl (by first | (apply PRN.flat; rfl) | (apply PRN.flat; simp; done) | (repeat' first | exact PRN.nil | apply PRN.cons | exact RN.self rfl | exact RN.top | exact RN.ptr rfl | exact RN.sl rfl | exact RN.slf rfl | apply RN.agg | apply RN.fn | exact RNs.nil | apply RNs.cons)) (.cons rfl rfl (by first | (apply PRN.flat; rfl) | (apply PRN.flat; simp; done) | (repeat' first | exact PRN.nil | apply PRN.cons | exact RN.self rfl | exact RN.top | exact RN.ptr rfl | exact RN.sl rfl | exact RN.slf rfl | apply RN.agg | apply RN.fn | exact RNs.nil | apply RNs.cons)) .nil)) (by repeat' first | exact RN.self rfl | exact RN.top | exact RN.ptr rfl | exact RN.sl rfl | exact RN.slf rfl | apply RN.agg | apply RN.tuple | apply RN.fn | exact RNs.nil | apply RNs.cons | (apply RNs.flat; simp; done))

end Go.Proofs.Ytnkijhpikeokfaa
