/- The texts F11, F12, F13, F14, C05, F16, F17, F18. -/
import Derived.Test.YtnkijhpikeokfaaG4
import Derived.Test.YtnkijhpikeokfaaG2
import Derived.Test.YtnkijhpikeokfaaG5
import Derived.Test.YtnkijhpikeokfaaProg
set_option linter.unusedSimpArgs false
set_option linter.unusedVariables false
/- Products of matrices, by their contracts. -/
namespace Go.Proofs.Ytnkijhpikeokfaa
open Go Go.Sym Go.IntWalk

/-- the sum of the products, from the first one on, and whether a bound was met -/
def dot (X Y : Nat → Int) : Nat → Int × Bool
  | 0 => (0, false)
  | j + 1 => (addQ (dot X Y j).1 (mulQ (X j) (Y j)), (dot X Y j).2 || mulF (X j) (Y j) || addF (dot X Y j).1 (mulQ (X j) (Y j)))
def mulD (A B : List Int) (m c i k : Nat) : Int × Bool := dot (fun j => A.getD (i * m + j) 0) (fun j => B.getD (j * c + k) 0) m
def mulL (A B : List Int) (r m c : Nat) : List Int := tab (fun i k => (mulD A B m c i k).1) c (r * c)
def mulX (A B : List Int) (r m c : Nat) : Bool := anyT (fun i k => (mulD A B m c i k).2) c (r * c)

set_option maxHeartbeats 1000000 in
theorem mul1_ok (r m c : Nat) (hr : r ≤ 8) (hm : m ≤ 8) (hc : c ≤ 8) (A B : List Int) (hA : A.length = r * m) (hB : B.length = m * c) (fa fb : Bool) (i k : Nat) (hi : i < r) (hk : k < c) : SoundC Try.prog 80 [.int .i64 i, .int .i64 k, .ptr (.o 0) 0, .ptr (.o 1) 0] ⟨[ints A, ints B], [some [.int .i64 r, .int .i64 m, .sl (.r 0) 0 A.length 1 fa], some [.int .i64 m, .int .i64 c, .sl (.r 1) 0 B.length 1 fb]]⟩ { val := .tuple [.int .i64 (mulD A B m c i k).1, .bool (mulD A B m c i k).2] } := by
  refine SoundC.of (N := 49) Try.func80 rfl rfl rfl rfl ?_
  refine AW.seq ?_
  refine AW.region (by kernel_rfl) ?_
  refine RunF.q (o_assign rfl) rfl ?_
  refine RunF.q (o_assign rfl) rfl ?_
  refine AW.seq ?_
  refine AW.region (by kernel_rfl) ?_
  refine RunF.q (o_assign rfl) rfl ?_
  refine RunF.q (o_assign rfl) rfl ?_
  refine AW.seq ?_
  refine AW.seq ?_
  refine AW.region (by kernel_rfl) ?_
  refine RunF.q (o_fieldAddr rfl tk24 rfl ts3 rfl) rfl ?_
  refine RunF.q (o_load rfl tk3 ts3 rfl rfl rfl) rfl ?_
  refine RunF.q (o_move rfl) rfl ?_
  refine AW.block ?_
  refine AW.loop (α := {j : Nat // j ≤ m}) (fun x : {j : Nat // j ≤ m} => ([(0, .int .i64 i), (1, .int .i64 k), (2, .ptr (.o 0) 0), (3, .ptr (.o 1) 0), (8, .int .i64 (dot (fun j => A.getD (i * m + j) 0) (fun j => B.getD (j * c + k) 0) x.1).1), (9, .bool (dot (fun j => A.getD (i * m + j) 0) (fun j => B.getD (j * c + k) 0) x.1).2), (16, .int .i64 m), (17, .int .i64 x.1)], ⟨[ints A, ints B], [some [.int .i64 r, .int .i64 m, .sl (.r 0) 0 A.length 1 fa], some [.int .i64 m, .int .i64 c, .sl (.r 1) 0 B.length 1 fb]]⟩)) (fun x => m - x.1) (fun x => ?_) ⟨0, by omega⟩ ?_
  · obtain ⟨j, hx⟩ := x
    try dsimp only at hx
    try dsimp only
    refine AW.seq ?_
    refine AW.region (by kernel_rfl) ?_
    refine RunF.q (o_lss rfl rfl) rfl ?_
    refine AW.seq ?_
    refine AW.cond rfl (fun hc0 => ?_) (fun hc0 => ?_)
    · try simp only [decide_eq_true_eq, decide_eq_false_iff_not, bne_iff_ne, beq_iff_eq, bne_eq_false_iff_eq, beq_eq_false_iff_ne, ne_eq, Bool.not_eq_true', Bool.not_eq_false'] at hc0
      have hj : j < m := by omega
      refine AW.skip ?_
      refine AW.seq ?_
      refine AW.block ?_
      refine AW.seq ?_
      refine AW.region (by kernel_rfl) ?_
      refine RunF.q (o_move rfl) rfl ?_
      refine RunF.q (o_assign rfl) rfl ?_
      refine AW.seq ?_
      refine AW.draws (by kernel_rfl) (by kernel_rfl) ?_
      refine RunV.q (o_load_agg rfl tk24 ts24 rfl rfl rfl nL) rfl ?_
      refine RunV.q (o_move rfl) rfl ?_
      refine RunV.q (o_move rfl) rfl ?_
      refine RunV.q (o_call (no := 2) (nr := 2) rfl rfl rfl nC (by rfl) (by exact at_ok r m hr hm A hA fa i j hi hj) (by rfl) rfl rfl nV rfl) (by rfl) ?_
      refine RunV.q (o_load_agg rfl tk24 ts24 rfl rfl rfl nL) rfl ?_
      refine RunV.q (o_move rfl) rfl ?_
      refine RunV.q (o_move rfl) rfl ?_
      refine RunV.q (o_call (no := 2) (nr := 2) rfl rfl rfl nC (by rfl) (by exact at_ok m c hm hc B hB fb j k hj hk) (by rfl) rfl rfl nV rfl) (by rfl) ?_
      refine RunV.q (o_call (no := 2) (nr := 2) rfl rfl rfl nC (by rfl) (by exact mul_ok _ _) (by rfl) rfl rfl nV rfl) (by rfl) ?_
      refine RunV.q (o_move rfl) rfl ?_
      refine RunV.q (o_extract rfl rfl) rfl ?_
      refine RunV.q (o_extract rfl rfl) rfl ?_
      refine RunV.q (o_assign rfl) rfl ?_
      refine RunV.q (o_assign rfl) rfl ?_
      refine And.intro (by kernel_rfl) ?_
      refine AW.seq ?_
      refine AW.region (by kernel_rfl) ?_
      refine RunF.q (o_move rfl) rfl ?_
      refine RunF.q (o_move rfl) rfl ?_
      refine RunF.q (o_call (no := 2) (nr := 2) rfl rfl rfl nC (by rfl) (by exact add_ok _ _) (by rfl) rfl rfl nV rfl) (by rfl) ?_
      refine RunF.q (o_move rfl) rfl ?_
      refine RunF.q (o_extract rfl rfl) rfl ?_
      refine RunF.q (o_extract rfl rfl) rfl ?_
      refine RunF.q (o_assign rfl) rfl ?_
      refine RunF.q (o_assign rfl) rfl ?_
      refine AW.region (by kernel_rfl) ?_
      refine RunF.q (o_move rfl) rfl ?_
      refine RunF.q (o_move rfl) rfl ?_
      refine RunF.q (o_move rfl) rfl ?_
      refine RunF.gm rfl (o_move rfl) ?_
      first | refine RunF.q (o_pick_t rfl rfl) rfl ?_ | refine RunF.q (o_pick_f rfl rfl) rfl ?_ | refine RunF.q (o_pick_b rfl rfl rfl) rfl ?_ | refine RunF.q (o_pick_or rfl rfl rfl) rfl ?_ | refine RunF.q (o_pick_and rfl rfl rfl) rfl ?_
      refine RunF.q (o_move rfl) rfl ?_
      refine RunF.gm rfl (o_move rfl) ?_
      first | refine RunF.q (o_pick_t rfl rfl) rfl ?_ | refine RunF.q (o_pick_f rfl rfl) rfl ?_ | refine RunF.q (o_pick_b rfl rfl rfl) rfl ?_ | refine RunF.q (o_pick_or rfl rfl rfl) rfl ?_ | refine RunF.q (o_pick_and rfl rfl rfl) rfl ?_
      refine RunF.q (o_assign rfl) rfl ?_
      refine RunF.q (o_assign rfl) rfl ?_
      refine AW.region (by kernel_rfl) ?_
      refine RunF.q (o_add rfl rfl (by first | exact i64_in _ (by omega) | rfl)) rfl ?_
      refine RunF.q (o_move rfl) rfl ?_
      exact ⟨⟨j + 1, by omega⟩, Wk.same rfl (.cons rfl (.cons rfl (.cons rfl (.cons rfl (.cons rfl (.cons rfl (.cons rfl (.cons rfl .nil)))))))), by dsimp only; omega⟩
    · try simp only [decide_eq_true_eq, decide_eq_false_iff_not, bne_iff_ne, beq_iff_eq, bne_eq_false_iff_eq, beq_eq_false_iff_ne, ne_eq, Bool.not_eq_true', Bool.not_eq_false'] at hc0
      obtain rfl : j = m := by omega
      refine AW.exit ?_
      refine AW.seq ?_
      refine AW.region (by kernel_rfl) ?_
      refine RunF.q (o_move rfl) rfl ?_
      refine RunF.q (o_move rfl) rfl ?_
      refine RunF.q (o_assign rfl) rfl ?_
      refine RunF.q (o_assign rfl) rfl ?_
      refine AW.ret ?_
      exact FinQ.ret [] [] (ress_tmp rfl (ress_tmp rfl ress_nil)) rfl (.some rfl rfl nP (.some rfl rfl nP .nil)) (.cons rfl rfl nP (.cons rfl rfl nP .nil)) nR
  · exact Wk.same rfl (.cons rfl (.cons rfl (.cons rfl (.cons rfl (.cons rfl (.cons rfl (.cons rfl (.cons rfl .nil))))))))

set_option maxHeartbeats 1000000 in
theorem madeM_ok (r m c : Nat) (hr : r ≤ 8) (hm : m ≤ 8) (hc : c ≤ 8) (A B : List Int) (hA : A.length = r * m) (hB : B.length = m * c) (fa fb : Bool) (hR : 0 < r) (hC : 0 < c) : SoundC Try.prog 76 [.agg [.int .i64 r, .int .i64 c], .func 80 [] [.ptr (.o 0) 0, .ptr (.o 1) 0]] ⟨[ints A, ints B], [some [.int .i64 r, .int .i64 m, .sl (.r 0) 0 A.length 1 fa], some [.int .i64 m, .int .i64 c, .sl (.r 1) 0 B.length 1 fb]]⟩ { val := .tuple [.agg [.int .i64 r, .int .i64 c, .sl (.o 2) 0 (tab (fun i k => (mulD A B m c i k).1) c (r * c)).length 1 false], .bool (anyT (fun i k => (mulD A B m c i k).2) c (r * c))], newo := [ints (tab (fun i k => (mulD A B m c i k).1) c (r * c))] } := by
  have hR8 := hr
  have hC8 := hc
  refine SoundC.of (N := 48) Try.func76 rfl rfl rfl rfl ?_
  refine AW.seq ?_
  refine AW.region (by kernel_rfl) ?_
  refine RunF.w (o_box (nm := 2) rfl rfl rfl) rfl ?_
  refine RunF.w (o_alloc (nm := 3) tz24 rfl) rfl ?_
  refine RunF.q (o_assign rfl) rfl ?_
  refine AW.seq ?_
  refine AW.region (by kernel_rfl) ?_
  refine RunF.q (o_fieldAddr rfl tk132 rfl ts3 rfl) rfl ?_
  refine RunF.q (o_load rfl tk3 ts3 rfl rfl rfl) rfl ?_
  refine RunF.q (o_fieldAddr rfl tk132 rfl ts3 rfl) rfl ?_
  refine RunF.q (o_load rfl tk3 ts3 rfl rfl rfl) rfl ?_
  refine RunF.q (o_build tk24 tz24 pl24 rfl rfl) rfl ?_
  refine RunF.w (o_alloc (nm := 4) tz24 rfl) rfl ?_
  refine RunF.wn (o_store rfl rfl rfl ts24 rfl rfl) rfl ?_
  refine AW.seq ?_
  refine AW.region (by kernel_rfl) ?_
  refine RunF.q (o_assign rfl) rfl ?_
  refine AW.seq ?_
  refine AW.seq ?_
  refine AW.region (by kernel_rfl) ?_
  refine RunF.q (o_fieldAddr rfl tk132 rfl ts3 rfl) rfl ?_
  refine RunF.q (o_load rfl tk3 ts3 rfl rfl rfl) rfl ?_
  refine RunF.q (o_move rfl) rfl ?_
  refine AW.block ?_
  refine AW.loop (α := {x : Nat × List Int × Bool // x.1 ≤ r ∧ x.2.1 = tab (fun i k => (mulD A B m c i k).1) c (x.1 * c) ∧ x.2.2 = anyT (fun i k => (mulD A B m c i k).2) c (x.1 * c)}) (fun x : {x : Nat × List Int × Bool // x.1 ≤ r ∧ x.2.1 = tab (fun i k => (mulD A B m c i k).1) c (x.1 * c) ∧ x.2.2 = anyT (fun i k => (mulD A B m c i k).2) c (x.1 * c)} => ([(1, .func 80 [] [.ptr (.o 0) 0, .ptr (.o 1) 0]), (2, .ptr (.o 2) 0), (4, .ptr (.o 3) 0), (6, .ptr (.o 4) 0), (7, .bool x.1.2.2), (18, .int .i64 r), (19, .int .i64 x.1.1)], ⟨[ints A, ints B], [some [.int .i64 r, .int .i64 m, .sl (.r 0) 0 A.length 1 fa], some [.int .i64 m, .int .i64 c, .sl (.r 1) 0 B.length 1 fb], some [.int .i64 r, .int .i64 c], some [.int .i64 0, .int .i64 0, .nilsl], some [.int .i64 r, .int .i64 c, slOf 5 x.1.2.1], rowOf x.1.2.1]⟩)) (fun x => r - x.1.1) (fun x => ?_) ⟨(0, [], false), by simp, by simp [tab], by simp [anyT]⟩ ?_
  · obtain ⟨⟨i, L0, z0⟩, hx1, hx2, hx3⟩ := x
    dsimp only at hx1 hx2 hx3
    dsimp only
    refine AW.seq ?_
    refine AW.region (by kernel_rfl) ?_
    refine RunF.q (o_lss rfl rfl) rfl ?_
    refine AW.seq ?_
    refine AW.cond rfl (fun hc0 => ?_) (fun hc0 => ?_)
    · try simp only [decide_eq_true_eq, decide_eq_false_iff_not, bne_iff_ne, beq_iff_eq, bne_eq_false_iff_eq, beq_eq_false_iff_ne, ne_eq, Bool.not_eq_true', Bool.not_eq_false'] at hc0
      have hi : i < r := by omega
      refine AW.skip ?_
      refine AW.seq ?_
      refine AW.block ?_
      refine AW.seq ?_
      refine AW.region (by kernel_rfl) ?_
      refine RunF.q (o_move rfl) rfl ?_
      refine RunF.q (o_assign rfl) rfl ?_
      refine AW.seq ?_
      refine AW.region (by kernel_rfl) ?_
      refine RunF.q (o_fieldAddr rfl tk132 rfl ts3 rfl) rfl ?_
      refine RunF.q (o_load rfl tk3 ts3 rfl rfl rfl) rfl ?_
      refine RunF.q (o_move rfl) rfl ?_
      refine AW.block ?_
      refine AW.loop (α := {x : Nat × List Int × Bool // x.1 ≤ c ∧ x.2.1 = tab (fun i k => (mulD A B m c i k).1) c (i * c + x.1) ∧ x.2.2 = anyT (fun i k => (mulD A B m c i k).2) c (i * c + x.1)}) (fun x : {x : Nat × List Int × Bool // x.1 ≤ c ∧ x.2.1 = tab (fun i k => (mulD A B m c i k).1) c (i * c + x.1) ∧ x.2.2 = anyT (fun i k => (mulD A B m c i k).2) c (i * c + x.1)} => ([(1, .func 80 [] [.ptr (.o 0) 0, .ptr (.o 1) 0]), (2, .ptr (.o 2) 0), (4, .ptr (.o 3) 0), (6, .ptr (.o 4) 0), (7, .bool x.1.2.2), (8, .int .i64 i), (18, .int .i64 r), (19, .int .i64 i), (23, .int .i64 c), (24, .int .i64 x.1.1)], ⟨[ints A, ints B], [some [.int .i64 r, .int .i64 m, .sl (.r 0) 0 A.length 1 fa], some [.int .i64 m, .int .i64 c, .sl (.r 1) 0 B.length 1 fb], some [.int .i64 r, .int .i64 c], some [.int .i64 0, .int .i64 0, .nilsl], some [.int .i64 r, .int .i64 c, slOf 5 x.1.2.1], rowOf x.1.2.1]⟩)) (fun x => c - x.1.1) (fun x => ?_) ⟨(0, L0, z0), by omega, by simpa using hx2, by simpa using hx3⟩ ?_
      · obtain ⟨⟨k, y1, y2⟩, hy1, hy2, hy3⟩ := x
        dsimp only at hy1 hy2 hy3
        dsimp only
        refine AW.seq ?_
        refine AW.region (by kernel_rfl) ?_
        refine RunF.q (o_lss rfl rfl) rfl ?_
        refine AW.seq ?_
        refine AW.cond rfl (fun hc1 => ?_) (fun hc1 => ?_)
        · try simp only [decide_eq_true_eq, decide_eq_false_iff_not, bne_iff_ne, beq_iff_eq, bne_eq_false_iff_eq, beq_eq_false_iff_ne, ne_eq, Bool.not_eq_true', Bool.not_eq_false'] at hc1
          have hk : k < c := by omega
          have hlen : y1.length ≤ 64 := by rw [hy2, tab_length]; have := idx_lt hi hk; have := small_mul hR8 hC8; omega
          rcases y1 with _ | ⟨a, l⟩
          · refine AW.skip ?_
            refine AW.seq ?_
            refine AW.block ?_
            refine AW.seq ?_
            refine AW.region (by kernel_rfl) ?_
            refine RunF.q (o_move rfl) rfl ?_
            refine RunF.q (o_assign rfl) rfl ?_
            refine AW.seq ?_
            refine AW.region (by kernel_rfl) ?_
            refine RunF.q (o_move rfl) rfl ?_
            refine RunF.q (o_move rfl) rfl ?_
            refine RunF.q (o_move rfl) rfl ?_
            refine RunF.q (o_call (no := 6) (nr := 2) rfl rfl rfl nC (by rfl) (by exact mul1_ok r m c hr hm hc A B hA hB fa fb i k hi hk) (by rfl) rfl rfl nV rfl) (by rfl) ?_
            refine RunF.q (o_move rfl) rfl ?_
            refine RunF.q (o_extract rfl rfl) rfl ?_
            refine RunF.q (o_extract rfl rfl) rfl ?_
            refine RunF.q (o_assign rfl) rfl ?_
            refine RunF.q (o_assign rfl) rfl ?_
            refine AW.seq ?_
            refine AW.region (by kernel_rfl) ?_
            refine RunF.q (o_fieldAddr rfl tk24 rfl ts22 rfl) rfl ?_
            refine RunF.q (o_load rfl tk22 ts22 rfl rfl rfl) rfl ?_
            refine RunF.q (o_move rfl) rfl ?_
            refine RunF.w (o_buildSlice (nm := 6) tk22 ts30 tz30 rfl rfl rfl rfl) rfl ?_
            refine RunF.w (o_append_nil (nm := 7) tk22 tk22 ts30 tb30 tz30 rfl rfl rfl rfl ⟨by decide, Nat.le_refl 1, by decide, by decide⟩ rfl rfl rfl) rfl ?_
            refine RunF.q (o_fieldAddr rfl tk24 rfl ts22 rfl) rfl ?_
            refine RunF.wn (o_store rfl rfl rfl ts22 rfl rfl) rfl ?_
            refine AW.region (by kernel_rfl) ?_
            refine RunF.q (o_move rfl) rfl ?_
            refine RunF.q (o_move rfl) rfl ?_
            refine RunF.gm rfl (o_move rfl) ?_
            first | refine RunF.q (o_pick_t rfl rfl) rfl ?_ | refine RunF.q (o_pick_f rfl rfl) rfl ?_ | refine RunF.q (o_pick_b rfl rfl rfl) rfl ?_ | refine RunF.q (o_pick_or rfl rfl rfl) rfl ?_ | refine RunF.q (o_pick_and rfl rfl rfl) rfl ?_
            refine RunF.q (o_assign rfl) rfl ?_
            refine AW.region (by kernel_rfl) ?_
            refine RunF.q (o_add rfl rfl (by first | exact i64_in _ (by omega) | rfl)) rfl ?_
            refine RunF.q (o_move rfl) rfl ?_
            exact ⟨⟨(k + 1, ([] : List Int) ++ [(fun i k => (mulD A B m c i k).1) i k], y2 || (fun i k => (mulD A B m c i k).2) i k), by dsimp only; omega, by dsimp only; rw [← Nat.add_assoc, tab_succ _ hk, ← hy2], by dsimp only; rw [← Nat.add_assoc, anyT_succ _ hk, ← hy3]⟩, Wk.of [2, 3, 4, 7] [] rfl (.some rfl rfl nP (.some rfl rfl nP (.some rfl rfl nP (.some rfl rfl nP (.some rfl rfl nP (.some rfl rfl nP .nil)))))) (.cons rfl rfl nP (.cons rfl rfl nP .nil)) (.cons rfl (.fn .nil (.cons (.ptr rfl) (.cons (.ptr rfl) .nil))) (.cons rfl (.ptr rfl) (.cons rfl (.ptr rfl) (.cons rfl (.ptr rfl) (.cons rfl (.self rfl) (.cons rfl (.self rfl) (.cons rfl (.self rfl) (.cons rfl (.self rfl) (.cons rfl (.self rfl) (.cons rfl (.self rfl) .nil)))))))))), by dsimp only; omega⟩
          · refine AW.skip ?_
            refine AW.seq ?_
            refine AW.block ?_
            refine AW.seq ?_
            refine AW.region (by kernel_rfl) ?_
            refine RunF.q (o_move rfl) rfl ?_
            refine RunF.q (o_assign rfl) rfl ?_
            refine AW.seq ?_
            refine AW.region (by kernel_rfl) ?_
            refine RunF.q (o_move rfl) rfl ?_
            refine RunF.q (o_move rfl) rfl ?_
            refine RunF.q (o_move rfl) rfl ?_
            refine RunF.q (o_call (no := 6) (nr := 2) rfl rfl rfl nC (by rfl) (by exact mul1_ok r m c hr hm hc A B hA hB fa fb i k hi hk) (by rfl) rfl rfl nV rfl) (by rfl) ?_
            refine RunF.q (o_move rfl) rfl ?_
            refine RunF.q (o_extract rfl rfl) rfl ?_
            refine RunF.q (o_extract rfl rfl) rfl ?_
            refine RunF.q (o_assign rfl) rfl ?_
            refine RunF.q (o_assign rfl) rfl ?_
            refine AW.seq ?_
            refine AW.region (by kernel_rfl) ?_
            refine RunF.q (o_fieldAddr rfl tk24 rfl ts22 rfl) rfl ?_
            refine RunF.q (o_load rfl tk22 ts22 rfl rfl rfl) rfl ?_
            refine RunF.q (o_move rfl) rfl ?_
            refine RunF.w (o_buildSlice (nm := 6) tk22 ts30 tz30 rfl rfl rfl rfl) rfl ?_
            refine RunF.w (o_append_own (nm := 7) (mn := ((a :: l) ++ [(fun i k => (mulD A B m c i k).1) i k]).length) tk22 tk22 ts30 tb30 tz30 rfl rfl rfl rfl rfl ⟨by decide, Nat.le_refl 1, by simp, by simp only [List.length_cons] at hlen ⊢; omega, by simp only [List.length_cons] at hlen ⊢; omega⟩ rfl (ints_all (a :: l)) rfl rfl (by simp)) rfl ?_
            refine RunF.q (o_fieldAddr rfl tk24 rfl ts22 rfl) rfl ?_
            refine RunF.wn (o_store rfl rfl rfl ts22 rfl rfl) rfl ?_
            refine AW.region (by kernel_rfl) ?_
            refine RunF.q (o_move rfl) rfl ?_
            refine RunF.q (o_move rfl) rfl ?_
            refine RunF.gm rfl (o_move rfl) ?_
            first | refine RunF.q (o_pick_t rfl rfl) rfl ?_ | refine RunF.q (o_pick_f rfl rfl) rfl ?_ | refine RunF.q (o_pick_b rfl rfl rfl) rfl ?_ | refine RunF.q (o_pick_or rfl rfl rfl) rfl ?_ | refine RunF.q (o_pick_and rfl rfl rfl) rfl ?_
            refine RunF.q (o_assign rfl) rfl ?_
            refine AW.region (by kernel_rfl) ?_
            refine RunF.q (o_add rfl rfl (by first | exact i64_in _ (by omega) | rfl)) rfl ?_
            refine RunF.q (o_move rfl) rfl ?_
            exact ⟨⟨(k + 1, (a :: l) ++ [(fun i k => (mulD A B m c i k).1) i k], y2 || (fun i k => (mulD A B m c i k).2) i k), by dsimp only; omega, by dsimp only; rw [← Nat.add_assoc, tab_succ _ hk, ← hy2], by dsimp only; rw [← Nat.add_assoc, anyT_succ _ hk, ← hy3]⟩, Wk.of [2, 3, 4, 7] [] rfl (.some rfl rfl nP (.some rfl rfl nP (.some rfl rfl nP (.some rfl rfl nP (.some rfl rfl nP (.some rfl rfl (PRN.snoc (a :: l) ((fun i k => (mulD A B m c i k).1) i k)) .nil)))))) (.cons rfl rfl nP (.cons rfl rfl nP .nil)) (.cons rfl (.fn .nil (.cons (.ptr rfl) (.cons (.ptr rfl) .nil))) (.cons rfl (.ptr rfl) (.cons rfl (.ptr rfl) (.cons rfl (.ptr rfl) (.cons rfl (.self rfl) (.cons rfl (.self rfl) (.cons rfl (.self rfl) (.cons rfl (.self rfl) (.cons rfl (.self rfl) (.cons rfl (.self rfl) .nil)))))))))), by dsimp only; omega⟩
        · try simp only [decide_eq_true_eq, decide_eq_false_iff_not, bne_iff_ne, beq_iff_eq, bne_eq_false_iff_eq, beq_eq_false_iff_ne, ne_eq, Bool.not_eq_true', Bool.not_eq_false'] at hc1
          refine AW.exit ?_
          refine AW.region (by kernel_rfl) ?_
          refine RunF.q (o_add rfl rfl (by first | exact i64_in _ (by omega) | rfl)) rfl ?_
          refine RunF.q (o_move rfl) rfl ?_
          exact ⟨⟨(i + 1, y1, y2), by dsimp only; omega, by dsimp only; rw [hy2, Nat.succ_mul]; congr 1; omega, by dsimp only; rw [hy3, Nat.succ_mul]; congr 1; omega⟩, Wk.same rfl (.cons rfl (.cons rfl (.cons rfl (.cons rfl (.cons rfl (.cons rfl (.cons rfl .nil))))))), by dsimp only; omega⟩
      · exact Wk.same rfl (.cons rfl (.cons rfl (.cons rfl (.cons rfl (.cons rfl (.cons rfl (.cons rfl (.cons rfl (.cons rfl (.cons rfl .nil))))))))))
    · try simp only [decide_eq_true_eq, decide_eq_false_iff_not, bne_iff_ne, beq_iff_eq, bne_eq_false_iff_eq, beq_eq_false_iff_ne, ne_eq, Bool.not_eq_true', Bool.not_eq_false'] at hc0
      have ei : i = r := by omega
      subst ei
      obtain ⟨a, l, rfl⟩ : ∃ a l, L0 = a :: l := by
        cases L0 with
        | nil => have := congrArg List.length hx2; rw [tab_length] at this; have := Nat.mul_pos hR hC; simp at *; omega
        | cons a l => exact ⟨a, l, rfl⟩
      refine AW.exit ?_
      refine AW.seq ?_
      refine AW.region (by kernel_rfl) ?_
      refine RunF.q (o_load_agg rfl tk24 ts24 rfl rfl rfl rfl) rfl ?_
      refine RunF.q (o_move rfl) rfl ?_
      refine RunF.wn (o_store rfl rfl rfl ts24 rfl rfl) rfl ?_
      refine RunF.q (o_assign rfl) rfl ?_
      refine AW.ret ?_
      apply FinQ.ret [5] []
      · exact (ress_agg rfl tk24 ts24 rfl rfl rfl (ress_tmp rfl ress_nil))
      · rfl
      · exact (.some rfl rfl nP (.some rfl rfl nP (.some rfl rfl (by rw [← hx2]; exact PRN.flat (ints_flat _)) .nil)))
      · exact (.cons rfl rfl nP (.cons rfl rfl nP .nil))
      · rw [← hx2, ← hx3]; exact nR
  · exact Wk.of [2, 3, 4, 999] [] rfl (.some rfl rfl nP (.some rfl rfl nP (.some rfl rfl nP (.some rfl rfl nP (.some rfl rfl nP (.none .nil)))))) (.cons rfl rfl nP (.cons rfl rfl nP .nil)) (.cons rfl (.fn .nil (.cons (.ptr rfl) (.cons (.ptr rfl) .nil))) (.cons rfl (.ptr rfl) (.cons rfl (.ptr rfl) (.cons rfl (.ptr rfl) (.cons rfl (.self rfl) (.cons rfl (.self rfl) (.cons rfl (.self rfl) .nil)))))))

set_option maxHeartbeats 1000000 in
theorem mmul_ok (r m c : Nat) (hr : r ≤ 8) (hm : m ≤ 8) (hc : c ≤ 8) (A B : List Int) (hA : A.length = r * m) (hB : B.length = m * c) (fa fb : Bool) (hR : 0 < r) (hC : 0 < c) : SoundC Try.prog 32 [.agg [.int .i64 r, .int .i64 m, .sl (.r 0) 0 A.length 1 fa], .agg [.int .i64 m, .int .i64 c, .sl (.r 1) 0 B.length 1 fb]] ⟨[ints A, ints B], []⟩ { val := .tuple [.agg [.int .i64 r, .int .i64 c, .sl (.o 0) 0 (mulL A B r m c).length 1 false], .bool (mulX A B r m c), .int .i64 0], newo := [ints (mulL A B r m c)] } := by
  refine SoundC.of (N := 27) Try.func32 rfl rfl rfl rfl ?_
  refine AW.seq ?_
  refine AW.region (by kernel_rfl) ?_
  refine RunF.w (o_box (nm := 0) rfl rfl rfl) nH ?_
  refine RunF.w (o_box (nm := 1) rfl rfl rfl) nH ?_
  refine RunF.w (o_alloc (nm := 2) tz24 rfl) nH ?_
  refine RunF.q (o_assign rfl) rfl ?_
  refine RunF.q (o_assign rfl) rfl ?_
  refine AW.seq ?_
  refine AW.seq ?_
  refine AW.region (by kernel_rfl) ?_
  refine RunF.q (o_fieldAddr rfl tk24 rfl ts3 rfl) rfl ?_
  refine RunF.q (o_load rfl tk3 ts3 rfl rfl rfl) rfl ?_
  refine RunF.q (o_fieldAddr rfl tk24 rfl ts3 rfl) rfl ?_
  refine RunF.q (o_load rfl tk3 ts3 rfl rfl rfl) rfl ?_
  refine RunF.q (o_neq rfl rfl) rfl ?_
  refine AW.cond rfl (fun hc0 => absurd hc0 (by simp)) (fun hc0 => ?_)
  refine AW.skip ?_
  refine AW.seq ?_
  refine AW.region (by kernel_rfl) ?_
  refine RunF.q (o_fieldAddr rfl tk24 rfl ts3 rfl) rfl ?_
  refine RunF.q (o_load rfl tk3 ts3 rfl rfl rfl) rfl ?_
  refine RunF.q (o_fieldAddr rfl tk24 rfl ts3 rfl) rfl ?_
  refine RunF.q (o_load rfl tk3 ts3 rfl rfl rfl) rfl ?_
  refine RunF.q (o_build tk132 tz132 pl132 rfl rfl) rfl ?_
  refine RunF.q (o_makeFunc rfl rfl) rfl ?_
  refine RunF.w (o_call (no := 3) (nr := 2) rfl rfl rfl nC (by rfl) (by exact madeM_ok r m c hr hm hc A B hA hB fa fb hR hC) (by rfl) rfl rfl nV nE) nH ?_
  refine RunF.q (o_move rfl) rfl ?_
  refine RunF.q (o_extract rfl rfl) rfl ?_
  refine RunF.q (o_extract rfl rfl) rfl ?_
  refine RunF.w (o_alloc (nm := 4) tz24 rfl) nH ?_
  refine RunF.wn (o_store rfl rfl rfl ts24 rfl rfl) nH ?_
  refine RunF.q (o_assign rfl) rfl ?_
  refine AW.seq ?_
  refine AW.region (by kernel_rfl) ?_
  refine RunF.q (o_load_agg rfl tk24 ts24 rfl rfl rfl nL) rfl ?_
  refine RunF.q (o_move rfl) rfl ?_
  refine RunF.wn (o_store rfl rfl rfl ts24 rfl rfl) nH ?_
  refine RunF.q (o_assign rfl) rfl ?_
  refine RunF.q (o_assign rfl) rfl ?_
  refine AW.ret ?_
  exact FinQ.ret [3] [] (ress_agg rfl tk24 ts24 rfl rfl rfl (ress_tmp rfl (ress_tmp rfl ress_nil))) rfl (.some rfl rfl (PRN.flat (ints_flat _)) .nil) (.cons rfl rfl nP (.cons rfl rfl nP .nil)) nR

end Go.Proofs.Ytnkijhpikeokfaa

/- Eye: closed runs, one for each size. -/
namespace Go.Proofs.Ytnkijhpikeokfaa
open Go Go.Sym Go.IntWalk

def eyeL (n : Nat) : List Int := tab (fun i k => if i = k then 16777216 else 0) n (n * n)
def eyeR (n : Nat) : Res := { val := .tuple [.agg [.int .i64 n, .int .i64 n, .sl (.o 0) 0 (eyeL n).length 1 false], .int .i64 0], newo := [ints (eyeL n)] }
theorem eyeL_length (n : Nat) : (eyeL n).length = n * n := by simp [eyeL, tab_length]

theorem eye1 : exec Try.prog noO 400 20 31 [.int .i64 1] ⟨[], []⟩ = some (eyeR 1) := by kernel_rfl
theorem eye2 : exec Try.prog noO 400 20 31 [.int .i64 2] ⟨[], []⟩ = some (eyeR 2) := by kernel_rfl
theorem eye3 : exec Try.prog noO 400 20 31 [.int .i64 3] ⟨[], []⟩ = some (eyeR 3) := by kernel_rfl
theorem eye4 : exec Try.prog noO 400 20 31 [.int .i64 4] ⟨[], []⟩ = some (eyeR 4) := by kernel_rfl
theorem eye5 : exec Try.prog noO 400 20 31 [.int .i64 5] ⟨[], []⟩ = some (eyeR 5) := by kernel_rfl
theorem eye6 : exec Try.prog noO 400 20 31 [.int .i64 6] ⟨[], []⟩ = some (eyeR 6) := by kernel_rfl
theorem eye7 : exec Try.prog noO 400 20 31 [.int .i64 7] ⟨[], []⟩ = some (eyeR 7) := by kernel_rfl
theorem eye8 : exec Try.prog noO 400 20 31 [.int .i64 8] ⟨[], []⟩ = some (eyeR 8) := by kernel_rfl
theorem eye_ok (n : Nat) (h0 : 0 < n) (hn : n ≤ 8) : SoundC Try.prog 31 [.int .i64 n] ⟨[], []⟩ { val := .tuple [.agg [.int .i64 n, .int .i64 n, .sl (.o 0) 0 (eyeL n).length 1 false], .int .i64 0], newo := [ints (eyeL n)] } := by
  have : n = 1 ∨ n = 2 ∨ n = 3 ∨ n = 4 ∨ n = 5 ∨ n = 6 ∨ n = 7 ∨ n = 8 := by omega
  rcases this with rfl | rfl | rfl | rfl | rfl | rfl | rfl | rfl
  · exact exec_sound (noO_sound _) 400 20 _ _ _ _ eye1
  · exact exec_sound (noO_sound _) 400 20 _ _ _ _ eye2
  · exact exec_sound (noO_sound _) 400 20 _ _ _ _ eye3
  · exact exec_sound (noO_sound _) 400 20 _ _ _ _ eye4
  · exact exec_sound (noO_sound _) 400 20 _ _ _ _ eye5
  · exact exec_sound (noO_sound _) 400 20 _ _ _ _ eye6
  · exact exec_sound (noO_sound _) 400 20 _ _ _ _ eye7
  · exact exec_sound (noO_sound _) 400 20 _ _ _ _ eye8

end Go.Proofs.Ytnkijhpikeokfaa

/- Turns: turned twice as before; a product turned; times Eye as before. -/
namespace Go.Proofs.Ytnkijhpikeokfaa
open Go Go.Sym Go.IntWalk

theorem signedQ_in (p q : Int) (z : Bool) : inQ (signedQ p q z) := by
  unfold signedQ
  split
  · exact clampQ_in _
  · exact clampQ_in _
theorem mulN2_comm (x y : Int) : mulN2 x y = mulN2 y x := by unfold mulN2; rw [Nat.mul_comm]
theorem mulZ_comm (x y : Int) : mulZ x y = mulZ y x := by unfold mulZ; cases decide (clampQ x < 0) <;> cases decide (clampQ y < 0) <;> rfl
theorem mulQ_comm (x y : Int) : mulQ x y = mulQ y x := by unfold mulQ; rw [mulN2_comm, mulZ_comm]
theorem mulF_comm (x y : Int) : mulF x y = mulF y x := by unfold mulF; rw [mulN2_comm, mulZ_comm, both2_comm]
theorem inQ_zero : inQ 0 := by unfold inQ; omega
theorem inQ_one : inQ 16777216 := by unfold inQ; omega
theorem rnd24_zero : rnd24 0 = 0 := by decide
theorem rnd24_whole (n : Nat) : rnd24 (n * 16777216) = n := by unfold rnd24; split <;> omega
theorem signed_small {q : Nat} {z : Bool} (h : q ≤ 70368744177663) : signedQ ((q / 18446744073709551616 : Nat) : Int) ((q % 18446744073709551616 : Nat) : Int) z = (if z then 0 - (q : Int) else q) ∧ signedF ((q / 18446744073709551616 : Nat) : Int) ((q % 18446744073709551616 : Nat) : Int) z = false := by
  have e1 : q / 18446744073709551616 = 0 := by omega
  have e2 : q % 18446744073709551616 = q := by omega
  rw [e1, e2]
  have hc : ¬ (((0 : Nat) : Int) ≠ 0 ∨ (q : Int) > 70368744177664) := by omega
  have hin : inQ (if z then 0 - (q : Int) else q) := by unfold inQ; cases z <;> simp <;> omega
  unfold signedQ signedF
  rw [if_neg hc, if_neg hc, clampQ_inQ hin]
  simp
theorem signed_low {q : Nat} (h : q ≤ 70368744177664) : signedQ ((q / 18446744073709551616 : Nat) : Int) ((q % 18446744073709551616 : Nat) : Int) true = 0 - (q : Int) ∧ signedF ((q / 18446744073709551616 : Nat) : Int) ((q % 18446744073709551616 : Nat) : Int) true = false := by
  have e1 : q / 18446744073709551616 = 0 := by omega
  have e2 : q % 18446744073709551616 = q := by omega
  rw [e1, e2]
  have hc : ¬ (((0 : Nat) : Int) ≠ 0 ∨ (q : Int) > 70368744177664) := by omega
  have hin : inQ (if true then 0 - (q : Int) else q) := by unfold inQ; simp; omega
  unfold signedQ signedF
  rw [if_neg hc, if_neg hc, clampQ_inQ hin]
  simp
theorem mulQ_zero {x : Int} (h : inQ x) : mulQ x 0 = 0 ∧ mulF x 0 = false := by
  have e : mulN2 x 0 = 0 := by unfold mulN2; rw [clampQ_inQ inQ_zero]; simp [rnd24_zero]
  unfold mulQ mulF
  rw [e, both2_inQ h inQ_zero]
  have := signed_small (q := 0) (z := mulZ x 0) (by omega)
  rw [this.1, this.2]
  simp
theorem mulQ_one {x : Int} (h : inQ x) : mulQ x 16777216 = x ∧ mulF x 16777216 = false := by
  have e : mulN2 x 16777216 = x.natAbs := by
    unfold mulN2; rw [clampQ_inQ inQ_one, clampQ_inQ h]; exact rnd24_whole _
  have ez : mulZ x 16777216 = decide (x < 0) := by unfold mulZ; rw [clampQ_inQ inQ_one, clampQ_inQ h]; cases hd : decide (x < 0) <;> rfl
  unfold mulQ mulF
  rw [e, both2_inQ h inQ_one, ez]
  unfold inQ at h
  by_cases hx : x < 0
  · have := signed_low (q := x.natAbs) (by omega)
    rw [decide_eq_true hx, this.1, this.2]
    refine ⟨by omega, rfl⟩
  · have := signed_small (q := x.natAbs) (z := false) (by omega)
    rw [decide_eq_false hx, this.1, this.2]
    refine ⟨by simp; omega, rfl⟩
theorem addQ_zero_left {x : Int} (h : inQ x) : addQ 0 x = x := by rw [addQ_comm]; exact addQ_zero h
theorem addF_zero_left {x : Int} (h : inQ x) : addF 0 x = false := by rw [addF_comm]; exact addF_zero h

theorem dot_congr {X Y X' Y' : Nat → Int} : ∀ {n : Nat}, (∀ j, j < n → X j = X' j ∧ Y j = Y' j) → dot X Y n = dot X' Y' n
  | 0, _ => rfl
  | n + 1, h => by
    have h1 := dot_congr (n := n) fun j hj => h j (by omega)
    have h2 := h n (by omega)
    simp only [dot, h1, h2.1, h2.2]
theorem dot_comm (X Y : Nat → Int) : ∀ n, dot X Y n = dot Y X n
  | 0 => rfl
  | n + 1 => by simp only [dot, dot_comm X Y n, mulQ_comm (X n), mulF_comm (X n)]
theorem dot_inQ (X Y : Nat → Int) : ∀ n, inQ (dot X Y n).1
  | 0 => inQ_zero
  | n + 1 => by simp only [dot]; exact clampQ_in _
theorem dot_eye {X : Nat → Int} (hX : ∀ j, inQ (X j)) (k : Nat) : ∀ n, dot X (fun j => if j = k then 16777216 else 0) n = (if k < n then X k else 0, false)
  | 0 => rfl
  | n + 1 => by
    have ih := dot_eye hX k n
    simp only [dot, ih]
    by_cases e : n = k
    · subst e
      have := mulQ_one (hX n)
      simp only [if_true, Nat.lt_irrefl, if_false, Nat.lt_succ_self, this.1, this.2, addQ_zero_left (hX n), addF_zero_left (hX n), Bool.or_false]
    · have := mulQ_zero (hX n)
      have hin : inQ (if k < n then X k else 0) := by split; exact hX k; exact inQ_zero
      have e2 : (if k < n + 1 then X k else 0) = (if k < n then X k else 0) := by
        by_cases h : k < n
        · rw [if_pos h, if_pos (by omega)]
        · rw [if_neg h, if_neg (by omega)]
      simp only [if_neg e, this.1, this.2, addQ_zero hin, addF_zero hin, Bool.or_false, e2]

theorem mulD_eye {A : List Int} {m : Nat} (hQ : ∀ x ∈ A, inQ x) {i k : Nat} (hk : k < m) : mulD A (eyeL m) m m i k = (A.getD (i * m + k) 0, false) := by
  unfold mulD
  rw [dot_congr (X' := fun j => A.getD (i * m + j) 0) (Y' := fun j => if j = k then 16777216 else 0) (fun j hj => ⟨rfl, by unfold eyeL; rw [tab_at hj hk]⟩)]
  rw [dot_eye (fun j => getD_inQ hQ _) k m, if_pos hk]
theorem mulL_eye {A : List Int} {r m : Nat} (hA : A.length = r * m) (hQ : ∀ x ∈ A, inQ x) : mulL A (eyeL m) r m m = A := by
  have h1 : mulL A (eyeL m) r m m = tab (fun i k => A.getD (i * m + k) 0) m (r * m) := by
    unfold mulL
    exact tab_congr fun i k hi hk => by rw [mulD_eye hQ hk]
  rw [h1, tab_self hA]
theorem mulX_eye {A : List Int} {r m : Nat} (hQ : ∀ x ∈ A, inQ x) : mulX A (eyeL m) r m m = false := by
  unfold mulX
  exact anyT_none fun i k hi hk => by rw [mulD_eye hQ hk]
theorem trL_twice {L : List Int} {r c : Nat} (hL : L.length = r * c) : trL (trL L c r) r c = L := by
  have h1 : trL (trL L c r) r c = tab (fun i k => L.getD (i * c + k) 0) c (r * c) := by
    conv => lhs; unfold trL
    exact tab_congr fun i k hi hk => trL_at hk hi
  rw [h1, tab_self hL]
theorem mulD_turn {A B : List Int} {r m c i k : Nat} (hi : i < r) (hk : k < c) : mulD (trL B c m) (trL A m r) m r k i = mulD A B m c i k := by
  unfold mulD
  rw [dot_comm]
  exact dot_congr fun j hj => ⟨trL_at hj hi, trL_at hk hj⟩
theorem mulL_turn {A B : List Int} {r m c : Nat} : trL (mulL A B r m c) c r = mulL (trL B c m) (trL A m r) c m r := by
  conv => lhs; unfold trL
  conv => rhs; unfold mulL
  refine tab_congr fun k i hk hi => ?_
  rw [mulD_turn hi hk]
  unfold mulL
  rw [tab_at hi hk]
theorem anyT_iff {F : Nat → Nat → Bool} {r c : Nat} : anyT F c (r * c) = true ↔ ∃ i k, i < r ∧ k < c ∧ F i k = true := by
  unfold anyT
  simp only [List.any_eq_true, List.mem_range]
  constructor
  · rintro ⟨j, hj, hx⟩
    have hc : 0 < c := by rcases Nat.eq_zero_or_pos c with h0 | h0; · subst h0; simp at hj
                          exact h0
    exact ⟨_, _, (Nat.div_lt_iff_lt_mul hc).2 hj, Nat.mod_lt j hc, hx⟩
  · rintro ⟨i, k, hi, hk, hx⟩
    refine ⟨i * c + k, idx_lt hi hk, ?_⟩
    have h1 : (i * c + k) / c = i := by rw [Nat.add_comm, Nat.add_mul_div_right _ _ (by omega), Nat.div_eq_of_lt hk, Nat.zero_add]
    have h2 : (i * c + k) % c = k := by rw [Nat.add_comm, Nat.add_mul_mod_self_right, Nat.mod_eq_of_lt hk]
    rw [h1, h2]; exact hx
theorem mulX_turn {A B : List Int} {r m c : Nat} : mulX (trL B c m) (trL A m r) c m r = mulX A B r m c := by
  unfold mulX
  apply Bool.eq_iff_iff.2
  rw [anyT_iff, anyT_iff]
  constructor
  · rintro ⟨k, i, hk, hi, hx⟩; exact ⟨i, k, hi, hk, by rw [← hx, mulD_turn hi hk]⟩
  · rintro ⟨i, k, hi, hk, hx⟩; exact ⟨k, i, hk, hi, by rw [← hx, mulD_turn hi hk]⟩
theorem mulL_length (A B : List Int) (r m c : Nat) : (mulL A B r m c).length = r * c := by simp [mulL, tab_length]
theorem mulL_inQ (A B : List Int) (r m c : Nat) : ∀ x ∈ mulL A B r m c, inQ x := by
  intro y hy
  simp only [mulL, tab, List.mem_map] at hy
  obtain ⟨j, _, rfl⟩ := hy
  exact dot_inQ _ _ _

set_option maxHeartbeats 1000000 in
theorem matTurns_no1 (R C R2 C2 : Int) (A B : List Int) (hn : rightM R C A = false) : SoundC Try.prog 5 [.agg [.int .i64 R, .int .i64 C, .sl (.r 0) 0 A.length 1 false], .agg [.int .i64 R2, .int .i64 C2, .sl (.r 1) 0 B.length 1 false]] ⟨[ints A, ints B], []⟩ { val := .bool true } := by
  refine SoundC.of (N := 105) Try.func5 rfl rfl rfl rfl ?_
  refine AW.seq ?_
  refine AW.region (by kernel_rfl) ?_
  refine RunF.w (o_box (nm := 0) rfl rfl rfl) nH ?_
  refine RunF.w (o_box (nm := 1) rfl rfl rfl) nH ?_
  refine RunF.q (o_assign rfl) rfl ?_
  refine AW.seq ?_
  refine AW.region (by kernel_rfl) ?_
  refine RunF.q (o_call (no := 2) (nr := 2) rfl rfl rfl nC (by rfl) (by exact shown03_ok) (by rfl) rfl rfl nV rfl) (by rfl) ?_
  refine RunF.q (o_assign rfl) rfl ?_
  refine AW.seq ?_
  refine AW.seq ?_
  refine AW.region (by kernel_rfl) ?_
  refine RunF.q (o_load_agg rfl tk24 ts24 rfl rfl rfl nL) rfl ?_
  refine RunF.q (o_call (no := 2) (nr := 2) rfl rfl rfl nC (by rfl) (by exact rright_is hn) (by rfl) rfl rfl nV rfl) (by rfl) ?_
  refine RunF.q (o_not rfl) rfl ?_
  refine RunF.q (o_move rfl) rfl ?_
  refine RunF.gs (b := true) rfl rfl ?_
  refine RunF.gs (b := true) rfl rfl ?_
  refine RunF.gs (b := true) rfl rfl ?_
  refine RunF.q (o_pick_t rfl rfl) rfl ?_
  refine AW.cond rfl (fun hc0 => ?_) (fun hc0 => absurd hc0 (by simp))
  refine AW.seq ?_
  refine AW.region (by kernel_rfl) ?_
  refine RunF.q (o_move rfl) rfl ?_
  refine RunF.q (o_assign rfl) rfl ?_
  refine AW.ret ?_
  exact FinQ.ret [] [] (ress_tmp rfl ress_nil) rfl .nil (.cons rfl rfl nP (.cons rfl rfl nP .nil)) nR

set_option maxHeartbeats 1000000 in
theorem matTurns_no2 (R C R2 C2 : Int) (A B : List Int) (hy : rightM R C A = true) (hn : rightM R2 C2 B = false) : SoundC Try.prog 5 [.agg [.int .i64 R, .int .i64 C, .sl (.r 0) 0 A.length 1 false], .agg [.int .i64 R2, .int .i64 C2, .sl (.r 1) 0 B.length 1 false]] ⟨[ints A, ints B], []⟩ { val := .bool true } := by
  refine SoundC.of (N := 105) Try.func5 rfl rfl rfl rfl ?_
  refine AW.seq ?_
  refine AW.region (by kernel_rfl) ?_
  refine RunF.w (o_box (nm := 0) rfl rfl rfl) nH ?_
  refine RunF.w (o_box (nm := 1) rfl rfl rfl) nH ?_
  refine RunF.q (o_assign rfl) rfl ?_
  refine AW.seq ?_
  refine AW.region (by kernel_rfl) ?_
  refine RunF.q (o_call (no := 2) (nr := 2) rfl rfl rfl nC (by rfl) (by exact shown03_ok) (by rfl) rfl rfl nV rfl) (by rfl) ?_
  refine RunF.q (o_assign rfl) rfl ?_
  refine AW.seq ?_
  refine AW.seq ?_
  refine AW.region (by kernel_rfl) ?_
  refine RunF.q (o_load_agg rfl tk24 ts24 rfl rfl rfl nL) rfl ?_
  refine RunF.q (o_call (no := 2) (nr := 2) rfl rfl rfl nC (by rfl) (by exact rright_is hy) (by rfl) rfl rfl nV rfl) (by rfl) ?_
  refine RunF.q (o_not rfl) rfl ?_
  refine RunF.q (o_move rfl) rfl ?_
  refine RunF.gq rfl (o_load_agg rfl tk24 ts24 rfl rfl rfl nL) rfl ?_
  refine RunF.gq rfl (o_call (no := 2) (nr := 2) rfl rfl rfl nC (by rfl) (by exact rright_is hn) (by rfl) rfl rfl nV rfl) (by rfl) ?_
  refine RunF.gq rfl (o_not rfl) rfl ?_
  refine RunF.q (o_pick_f rfl rfl) rfl ?_
  refine AW.cond rfl (fun hc0 => ?_) (fun hc0 => absurd hc0 (by simp))
  refine AW.seq ?_
  refine AW.region (by kernel_rfl) ?_
  refine RunF.q (o_move rfl) rfl ?_
  refine RunF.q (o_assign rfl) rfl ?_
  refine AW.ret ?_
  exact FinQ.ret [] [] (ress_tmp rfl ress_nil) rfl .nil (.cons rfl rfl nP (.cons rfl rfl nP .nil)) nR

set_option maxHeartbeats 1000000 in
theorem matTurns_ne (r m : Nat) (hR : 0 < r) (hr : r ≤ 8) (hM : 0 < m) (hm : m ≤ 8) (A B : List Int) (hA : A.length = r * m) (hQ : ∀ x ∈ A, inQ x) (r2 c : Nat) (hy2 : rightM r2 c B = true) (hne : m ≠ r2) : SoundC Try.prog 5 [.agg [.int .i64 r, .int .i64 m, .sl (.r 0) 0 A.length 1 false], .agg [.int .i64 r2, .int .i64 c, .sl (.r 1) 0 B.length 1 false]] ⟨[ints A, ints B], []⟩ { val := .bool true } := by
  have hsm := small_mul hr hm
  refine SoundC.of (N := 105) Try.func5 rfl rfl rfl rfl ?_
  refine AW.seq ?_
  refine AW.region (by kernel_rfl) ?_
  refine RunF.w (o_box (nm := 0) rfl rfl rfl) nH ?_
  refine RunF.w (o_box (nm := 1) rfl rfl rfl) nH ?_
  refine RunF.q (o_assign rfl) rfl ?_
  refine AW.seq ?_
  refine AW.region (by kernel_rfl) ?_
  refine RunF.q (o_call (no := 2) (nr := 2) rfl rfl rfl nC (by rfl) (by exact shown03_ok) (by rfl) rfl rfl nV rfl) (by rfl) ?_
  refine RunF.q (o_assign rfl) rfl ?_
  refine AW.seq ?_
  refine AW.seq ?_
  refine AW.region (by kernel_rfl) ?_
  refine RunF.q (o_load_agg rfl tk24 ts24 rfl rfl rfl nL) rfl ?_
  refine RunF.q (o_call (no := 2) (nr := 2) rfl rfl rfl nC (by rfl) (by exact rright_is (rightM_of hR hr hM hm hA hQ)) (by rfl) rfl rfl nV rfl) (by rfl) ?_
  refine RunF.q (o_not rfl) rfl ?_
  refine RunF.q (o_move rfl) rfl ?_
  refine RunF.gq rfl (o_load_agg rfl tk24 ts24 rfl rfl rfl nL) rfl ?_
  refine RunF.gq rfl (o_call (no := 2) (nr := 2) rfl rfl rfl nC (by rfl) (by exact rright_is hy2) (by rfl) rfl rfl nV rfl) (by rfl) ?_
  refine RunF.gq rfl (o_not rfl) rfl ?_
  refine RunF.q (o_pick_f rfl rfl) rfl ?_
  refine AW.cond rfl (fun hc0 => absurd hc0 (by simp)) (fun hc0 => ?_)
  refine AW.skip ?_
  refine AW.seq ?_
  refine AW.region (by kernel_rfl) ?_
  refine RunF.q (o_fieldAddr rfl tk24 rfl ts3 rfl) rfl ?_
  refine RunF.q (o_load rfl tk3 ts3 rfl rfl rfl) rfl ?_
  refine RunF.w (o_call (no := 2) (nr := 2) rfl rfl rfl nC (by rfl) (by exact eye_ok m hM hm) (by rfl) rfl rfl nV nE) nH ?_
  refine RunF.q (o_move rfl) rfl ?_
  refine RunF.q (o_extract rfl rfl) rfl ?_
  refine RunF.q (o_extract rfl rfl) rfl ?_
  refine RunF.w (o_alloc (nm := 3) tz24 rfl) nH ?_
  refine RunF.wn (o_store rfl rfl rfl ts24 rfl rfl) nH ?_
  refine RunF.q (o_assign rfl) rfl ?_
  refine AW.seq ?_
  refine AW.region (by kernel_rfl) ?_
  refine RunF.q (o_load_agg rfl tk24 ts24 rfl rfl rfl nL) rfl ?_
  refine RunF.q (o_load_agg rfl tk24 ts24 rfl rfl rfl nL) rfl ?_
  refine RunF.w (o_call (no := 4) (nr := 2) rfl rfl rfl nC (by rfl) (by exact (by have h := mmul_ok r m m hr hm hm A (eyeL m) hA (eyeL_length m) false false hR hM; rw [mulL_eye hA hQ, mulX_eye hQ] at h; exact h)) (by rfl) rfl rfl nV nE) nH ?_
  refine RunF.q (o_move rfl) rfl ?_
  refine RunF.q (o_extract rfl rfl) rfl ?_
  refine RunF.q (o_extract rfl rfl) rfl ?_
  refine RunF.q (o_extract rfl rfl) rfl ?_
  refine RunF.w (o_alloc (nm := 5) tz24 rfl) nH ?_
  refine RunF.wn (o_store rfl rfl rfl ts24 rfl rfl) nH ?_
  refine RunF.q (o_assign rfl) rfl ?_
  refine RunF.q (o_assign rfl) rfl ?_
  refine AW.seq ?_
  refine AW.seq ?_
  refine AW.draws (by kernel_rfl) (by kernel_rfl) ?_
  refine RunV.q (o_load_agg rfl tk24 ts24 rfl rfl rfl nL) rfl ?_
  refine RunV.w (o_call (no := 6) (nr := 2) rfl rfl rfl nC (by rfl) (by exact trans_ok r m hr hm A hA false hR hM) (by rfl) rfl rfl nV nE) nH ?_
  refine RunV.w (o_call (no := 7) (nr := 2) rfl rfl rfl nC (by rfl) (by exact (by have h := trans_ok m r hm hr (trL A m r) (trL_length A m r) false hM hR; rw [trL_twice hA] at h; exact h)) (by rfl) rfl rfl nV nE) nH ?_
  refine RunV.q (o_load_agg rfl tk24 ts24 rfl rfl rfl nL) rfl ?_
  refine RunV.q (o_call (no := 8) (nr := 2) rfl rfl rfl nC (by rfl) (by exact rsame_is (z := true) (by omega) (sameM_refl _ _ _)) (by rfl) rfl rfl nV rfl) (by rfl) ?_
  refine RunV.q (o_not rfl) rfl ?_
  refine RunV.q (o_move rfl) rfl ?_
  refine RunV.gq rfl (o_move rfl) rfl ?_
  refine RunV.gq rfl (o_neq rfl rfl) rfl ?_
  refine RunV.q (o_pick_f rfl rfl) rfl ?_
  refine RunV.q (o_move rfl) rfl ?_
  refine RunV.gq rfl (o_move rfl) rfl ?_
  refine RunV.q (o_pick_f rfl rfl) rfl ?_
  refine RunV.q (o_move rfl) rfl ?_
  refine RunV.gq rfl (o_load_agg rfl tk24 ts24 rfl rfl rfl nL) rfl ?_
  refine RunV.gq rfl (o_load_agg rfl tk24 ts24 rfl rfl rfl nL) rfl ?_
  refine RunV.gq rfl (o_call (no := 8) (nr := 2) rfl rfl rfl nC (by rfl) (by exact rsame_is (z := true) (by omega) (sameM_refl _ _ _)) (by rfl) rfl rfl nV rfl) (by rfl) ?_
  refine RunV.gq rfl (o_not rfl) rfl ?_
  refine RunV.q (o_pick_f rfl rfl) rfl ?_
  refine And.intro (by kernel_rfl) ?_
  refine AW.cond rfl (fun hc1 => absurd hc1 (by simp)) (fun hc1 => ?_)
  refine AW.skip ?_
  refine AW.seq ?_
  refine AW.seq ?_
  refine AW.region (by kernel_rfl) ?_
  refine RunF.q (o_fieldAddr rfl tk24 rfl ts3 rfl) rfl ?_
  refine RunF.q (o_load rfl tk3 ts3 rfl rfl rfl) rfl ?_
  refine RunF.q (o_fieldAddr rfl tk24 rfl ts3 rfl) rfl ?_
  refine RunF.q (o_load rfl tk3 ts3 rfl rfl rfl) rfl ?_
  refine RunF.q (o_neq rfl rfl) rfl ?_
  refine AW.cond rfl (fun hc2 => ?_) (fun hc2 => absurd hc2 (by simp <;> omega))
  refine AW.seq ?_
  refine AW.region (by kernel_rfl) ?_
  refine RunF.q (o_move rfl) rfl ?_
  refine RunF.q (o_assign rfl) rfl ?_
  refine AW.ret ?_
  exact FinQ.ret [] [] (ress_tmp rfl ress_nil) rfl .nil (.cons rfl rfl nP (.cons rfl rfl nP .nil)) nR

set_option maxHeartbeats 1000000 in
theorem matTurns_yes (r m : Nat) (hR : 0 < r) (hr : r ≤ 8) (hM : 0 < m) (hm : m ≤ 8) (A B : List Int) (hA : A.length = r * m) (hQ : ∀ x ∈ A, inQ x) (c : Nat) (hC : 0 < c) (hc : c ≤ 8) (hB : B.length = m * c) (hQB : ∀ x ∈ B, inQ x) : SoundC Try.prog 5 [.agg [.int .i64 r, .int .i64 m, .sl (.r 0) 0 A.length 1 false], .agg [.int .i64 m, .int .i64 c, .sl (.r 1) 0 B.length 1 false]] ⟨[ints A, ints B], []⟩ { val := .bool true } := by
  have hsm := small_mul hr hm
  refine SoundC.of (N := 105) Try.func5 rfl rfl rfl rfl ?_
  refine AW.seq ?_
  refine AW.region (by kernel_rfl) ?_
  refine RunF.w (o_box (nm := 0) rfl rfl rfl) nH ?_
  refine RunF.w (o_box (nm := 1) rfl rfl rfl) nH ?_
  refine RunF.q (o_assign rfl) rfl ?_
  refine AW.seq ?_
  refine AW.region (by kernel_rfl) ?_
  refine RunF.q (o_call (no := 2) (nr := 2) rfl rfl rfl nC (by rfl) (by exact shown03_ok) (by rfl) rfl rfl nV rfl) (by rfl) ?_
  refine RunF.q (o_assign rfl) rfl ?_
  refine AW.seq ?_
  refine AW.seq ?_
  refine AW.region (by kernel_rfl) ?_
  refine RunF.q (o_load_agg rfl tk24 ts24 rfl rfl rfl nL) rfl ?_
  refine RunF.q (o_call (no := 2) (nr := 2) rfl rfl rfl nC (by rfl) (by exact rright_is (rightM_of hR hr hM hm hA hQ)) (by rfl) rfl rfl nV rfl) (by rfl) ?_
  refine RunF.q (o_not rfl) rfl ?_
  refine RunF.q (o_move rfl) rfl ?_
  refine RunF.gq rfl (o_load_agg rfl tk24 ts24 rfl rfl rfl nL) rfl ?_
  refine RunF.gq rfl (o_call (no := 2) (nr := 2) rfl rfl rfl nC (by rfl) (by exact rright_is (rightM_of hM hm hC hc hB hQB)) (by rfl) rfl rfl nV rfl) (by rfl) ?_
  refine RunF.gq rfl (o_not rfl) rfl ?_
  refine RunF.q (o_pick_f rfl rfl) rfl ?_
  refine AW.cond rfl (fun hc0 => absurd hc0 (by simp)) (fun hc0 => ?_)
  refine AW.skip ?_
  refine AW.seq ?_
  refine AW.region (by kernel_rfl) ?_
  refine RunF.q (o_fieldAddr rfl tk24 rfl ts3 rfl) rfl ?_
  refine RunF.q (o_load rfl tk3 ts3 rfl rfl rfl) rfl ?_
  refine RunF.w (o_call (no := 2) (nr := 2) rfl rfl rfl nC (by rfl) (by exact eye_ok m hM hm) (by rfl) rfl rfl nV nE) nH ?_
  refine RunF.q (o_move rfl) rfl ?_
  refine RunF.q (o_extract rfl rfl) rfl ?_
  refine RunF.q (o_extract rfl rfl) rfl ?_
  refine RunF.w (o_alloc (nm := 3) tz24 rfl) nH ?_
  refine RunF.wn (o_store rfl rfl rfl ts24 rfl rfl) nH ?_
  refine RunF.q (o_assign rfl) rfl ?_
  refine AW.seq ?_
  refine AW.region (by kernel_rfl) ?_
  refine RunF.q (o_load_agg rfl tk24 ts24 rfl rfl rfl nL) rfl ?_
  refine RunF.q (o_load_agg rfl tk24 ts24 rfl rfl rfl nL) rfl ?_
  refine RunF.w (o_call (no := 4) (nr := 2) rfl rfl rfl nC (by rfl) (by exact (by have h := mmul_ok r m m hr hm hm A (eyeL m) hA (eyeL_length m) false false hR hM; rw [mulL_eye hA hQ, mulX_eye hQ] at h; exact h)) (by rfl) rfl rfl nV nE) nH ?_
  refine RunF.q (o_move rfl) rfl ?_
  refine RunF.q (o_extract rfl rfl) rfl ?_
  refine RunF.q (o_extract rfl rfl) rfl ?_
  refine RunF.q (o_extract rfl rfl) rfl ?_
  refine RunF.w (o_alloc (nm := 5) tz24 rfl) nH ?_
  refine RunF.wn (o_store rfl rfl rfl ts24 rfl rfl) nH ?_
  refine RunF.q (o_assign rfl) rfl ?_
  refine RunF.q (o_assign rfl) rfl ?_
  refine AW.seq ?_
  refine AW.seq ?_
  refine AW.draws (by kernel_rfl) (by kernel_rfl) ?_
  refine RunV.q (o_load_agg rfl tk24 ts24 rfl rfl rfl nL) rfl ?_
  refine RunV.w (o_call (no := 6) (nr := 2) rfl rfl rfl nC (by rfl) (by exact trans_ok r m hr hm A hA false hR hM) (by rfl) rfl rfl nV nE) nH ?_
  refine RunV.w (o_call (no := 7) (nr := 2) rfl rfl rfl nC (by rfl) (by exact (by have h := trans_ok m r hm hr (trL A m r) (trL_length A m r) false hM hR; rw [trL_twice hA] at h; exact h)) (by rfl) rfl rfl nV nE) nH ?_
  refine RunV.q (o_load_agg rfl tk24 ts24 rfl rfl rfl nL) rfl ?_
  refine RunV.q (o_call (no := 8) (nr := 2) rfl rfl rfl nC (by rfl) (by exact rsame_is (z := true) (by omega) (sameM_refl _ _ _)) (by rfl) rfl rfl nV rfl) (by rfl) ?_
  refine RunV.q (o_not rfl) rfl ?_
  refine RunV.q (o_move rfl) rfl ?_
  refine RunV.gq rfl (o_move rfl) rfl ?_
  refine RunV.gq rfl (o_neq rfl rfl) rfl ?_
  refine RunV.q (o_pick_f rfl rfl) rfl ?_
  refine RunV.q (o_move rfl) rfl ?_
  refine RunV.gq rfl (o_move rfl) rfl ?_
  refine RunV.q (o_pick_f rfl rfl) rfl ?_
  refine RunV.q (o_move rfl) rfl ?_
  refine RunV.gq rfl (o_load_agg rfl tk24 ts24 rfl rfl rfl nL) rfl ?_
  refine RunV.gq rfl (o_load_agg rfl tk24 ts24 rfl rfl rfl nL) rfl ?_
  refine RunV.gq rfl (o_call (no := 8) (nr := 2) rfl rfl rfl nC (by rfl) (by exact rsame_is (z := true) (by omega) (sameM_refl _ _ _)) (by rfl) rfl rfl nV rfl) (by rfl) ?_
  refine RunV.gq rfl (o_not rfl) rfl ?_
  refine RunV.q (o_pick_f rfl rfl) rfl ?_
  refine And.intro (by kernel_rfl) ?_
  refine AW.cond rfl (fun hc1 => absurd hc1 (by simp)) (fun hc1 => ?_)
  refine AW.skip ?_
  refine AW.seq ?_
  refine AW.seq ?_
  refine AW.region (by kernel_rfl) ?_
  refine RunF.q (o_fieldAddr rfl tk24 rfl ts3 rfl) rfl ?_
  refine RunF.q (o_load rfl tk3 ts3 rfl rfl rfl) rfl ?_
  refine RunF.q (o_fieldAddr rfl tk24 rfl ts3 rfl) rfl ?_
  refine RunF.q (o_load rfl tk3 ts3 rfl rfl rfl) rfl ?_
  refine RunF.q (o_neq rfl rfl) rfl ?_
  refine AW.cond rfl (fun hc2 => absurd hc2 (by simp)) (fun hc2 => ?_)
  refine AW.skip ?_
  refine AW.seq ?_
  refine AW.region (by kernel_rfl) ?_
  refine RunF.q (o_load_agg rfl tk24 ts24 rfl rfl rfl nL) rfl ?_
  refine RunF.q (o_load_agg rfl tk24 ts24 rfl rfl rfl nL) rfl ?_
  refine RunF.w (o_call (no := 8) (nr := 2) rfl rfl rfl nC (by rfl) (by exact mmul_ok r m c hr hm hc A B hA hB false false hR hC) (by rfl) rfl rfl nV nE) nH ?_
  refine RunF.q (o_move rfl) rfl ?_
  refine RunF.q (o_extract rfl rfl) rfl ?_
  refine RunF.q (o_extract rfl rfl) rfl ?_
  refine RunF.q (o_extract rfl rfl) rfl ?_
  refine RunF.w (o_alloc (nm := 9) tz24 rfl) nH ?_
  refine RunF.wn (o_store rfl rfl rfl ts24 rfl rfl) nH ?_
  refine RunF.q (o_assign rfl) rfl ?_
  refine RunF.q (o_assign rfl) rfl ?_
  refine AW.seq ?_
  refine AW.draws (by kernel_rfl) (by kernel_rfl) ?_
  refine RunV.q (o_load_agg rfl tk24 ts24 rfl rfl rfl nL) rfl ?_
  refine RunV.w (o_call (no := 10) (nr := 2) rfl rfl rfl nC (by rfl) (by exact trans_ok m c hm hc B hB false hM hC) (by rfl) rfl rfl nV nE) nH ?_
  refine RunV.q (o_load_agg rfl tk24 ts24 rfl rfl rfl nL) rfl ?_
  refine RunV.w (o_call (no := 11) (nr := 2) rfl rfl rfl nC (by rfl) (by exact trans_ok r m hr hm A hA false hR hM) (by rfl) rfl rfl nV nE) nH ?_
  refine RunV.w (o_call (no := 12) (nr := 2) rfl rfl rfl nC (by rfl) (by exact (by have h := mmul_ok c m r hc hm hr (trL B c m) (trL A m r) (trL_length _ _ _) (trL_length _ _ _) false false hC hR; rw [← mulL_turn, mulX_turn] at h; exact h)) (by rfl) rfl rfl nV nE) nH ?_
  refine RunV.q (o_move rfl) rfl ?_
  refine RunV.q (o_extract rfl rfl) rfl ?_
  refine RunV.q (o_extract rfl rfl) rfl ?_
  refine RunV.q (o_extract rfl rfl) rfl ?_
  refine RunV.w (o_alloc (nm := 13) tz24 rfl) nH ?_
  refine RunV.wn (o_store rfl rfl rfl ts24 rfl rfl) nH ?_
  refine RunV.q (o_assign rfl) rfl ?_
  refine RunV.q (o_assign rfl) rfl ?_
  refine And.intro (by kernel_rfl) ?_
  refine AW.seq ?_
  refine AW.draws (by kernel_rfl) (by kernel_rfl) ?_
  refine RunV.q (o_move rfl) rfl ?_
  refine RunV.q (o_move rfl) rfl ?_
  refine RunV.gq rfl (o_move rfl) rfl ?_
  refine RunV.gq rfl (o_eql rfl rfl) rfl ?_
  refine RunV.q (o_pick_t rfl rfl) rfl ?_
  refine RunV.q (o_move rfl) rfl ?_
  refine RunV.gq rfl (o_move rfl) rfl ?_
  refine RunV.gq rfl (o_eql rfl rfl) rfl ?_
  refine RunV.q (o_pick_t rfl rfl) rfl ?_
  refine RunV.q (o_move rfl) rfl ?_
  refine RunV.gq rfl (o_move rfl) rfl ?_
  refine RunV.gq rfl (o_move rfl) rfl ?_
  refine RunV.gq rfl (o_eqb tk4 rfl rfl) rfl ?_
  refine RunV.q (o_pick_t rfl rfl) rfl ?_
  refine RunV.br (o_move rfl) rfl (fun hb12_14 => ?_) (fun hb12_14 => ?_)
  · try simp only [decide_eq_true_eq, decide_eq_false_iff_not, bne_iff_ne, beq_iff_eq, bne_eq_false_iff_eq, beq_eq_false_iff_ne, ne_eq, Bool.not_eq_true', Bool.not_eq_false'] at hb12_14
    refine RunV.gq rfl (o_load_agg rfl tk24 ts24 rfl rfl rfl nL) rfl ?_
    refine RunV.gw rfl (o_call (no := 14) (nr := 2) rfl rfl rfl nC (by rfl) (by exact trans_ok r c hr hc (mulL A B r m c) (mulL_length _ _ _ _ _) false hR hC) (by rfl) rfl rfl nV nE) nH ?_
    refine RunV.gq rfl (o_load_agg rfl tk24 ts24 rfl rfl rfl nL) rfl ?_
    refine RunV.gq rfl (o_call (no := 15) (nr := 2) rfl rfl rfl nC (by rfl) (by exact rsame_is (z := true) (by rw [trL_length]; have := small_mul hc hr; omega) (sameM_refl _ _ _)) (by rfl) rfl rfl nV rfl) (by rfl) ?_
    refine RunV.q (o_pick_t rfl rfl) rfl ?_
    refine RunV.q (o_move rfl) rfl ?_
    refine RunV.gq rfl (o_load_agg rfl tk24 ts24 rfl rfl rfl nL) rfl ?_
    refine RunV.gq rfl (o_call (no := 15) (nr := 2) rfl rfl rfl nC (by rfl) (by exact mright_is (z := true) (rightM_of hR hr hC hc (mulL_length _ _ _ _ _) (mulL_inQ _ _ _ _ _))) (by rfl) rfl rfl nV rfl) (by rfl) ?_
    refine RunV.q (o_pick_t rfl rfl) rfl ?_
    refine RunV.q (o_assign rfl) rfl ?_
    refine And.intro (by kernel_rfl) ?_
    refine AW.ret ?_
    exact FinQ.ret [] [] (ress_tmp rfl ress_nil) rfl .nil (.cons rfl rfl nP (.cons rfl rfl nP .nil)) nR
  · try simp only [decide_eq_true_eq, decide_eq_false_iff_not, bne_iff_ne, beq_iff_eq, bne_eq_false_iff_eq, beq_eq_false_iff_ne, ne_eq, Bool.not_eq_true', Bool.not_eq_false'] at hb12_14
    exact absurd trivial hb12_14

end Go.Proofs.Ytnkijhpikeokfaa

/- Diagonals, by their contracts. -/
namespace Go.Proofs.Ytnkijhpikeokfaa
open Go Go.Sym Go.IntWalk

def diagL (L : List Int) : List Int := tab (fun i k => if i = k then L.getD i 0 else 0) L.length (L.length * L.length)
theorem diagL_length (L : List Int) : (diagL L).length = L.length * L.length := by simp [diagL, tab_length]

set_option maxHeartbeats 1000000 in
theorem diag1_ok (L : List Int) (f : Bool) (h0 : 0 < L.length) (hn : L.length ≤ 8) (i k : Nat) (hi : i < L.length) : SoundC Try.prog 84 [.int .i64 i, .int .i64 k, .ptr (.o 0) 0] ⟨[ints L], [some [.sl (.r 0) 0 L.length 1 f]]⟩ { val := .tuple [.int .i64 (if i = k then L.getD i 0 else 0), .bool false] } := by
  refine SoundC.of (N := 14) Try.func84 rfl rfl rfl rfl ?_
  refine AW.seq ?_
  refine AW.region (by kernel_rfl) ?_
  refine RunF.q (o_assign rfl) rfl ?_
  refine RunF.q (o_assign rfl) rfl ?_
  refine AW.seq ?_
  refine AW.seq ?_
  refine AW.region (by kernel_rfl) ?_
  refine RunF.q (o_move rfl) rfl ?_
  refine RunF.q (o_move rfl) rfl ?_
  refine RunF.q (o_eql rfl rfl) rfl ?_
  refine AW.cond rfl (fun hc0 => ?_) (fun hc0 => ?_)
  · try simp only [decide_eq_true_eq, decide_eq_false_iff_not, bne_iff_ne, beq_iff_eq, bne_eq_false_iff_eq, beq_eq_false_iff_ne, ne_eq, Bool.not_eq_true', Bool.not_eq_false'] at hc0
    refine AW.seq ?_
    refine AW.region (by kernel_rfl) ?_
    refine RunF.q (o_load rfl tk22 ts22 rfl rfl rfl) rfl ?_
    refine RunF.q (o_move rfl) rfl ?_
    refine RunF.q (o_indexAddr (m := i) tk22 ts30 rfl rfl (by omega) (by omega)) rfl ?_
    refine RunF.q (o_load rfl tk30 ts30 rfl rfl (ints_getD L i (by omega))) rfl ?_
    refine RunF.q (o_assign rfl) rfl ?_
    refine RunF.q (o_assign rfl) rfl ?_
    refine AW.ret ?_
    exact FinQ.ret [] [] (ress_tmp rfl (ress_tmp rfl ress_nil)) rfl (.some rfl rfl nP .nil) (.cons rfl rfl nP .nil) (by rw [if_pos (show i = k by omega)]; exact nR)
  · try simp only [decide_eq_true_eq, decide_eq_false_iff_not, bne_iff_ne, beq_iff_eq, bne_eq_false_iff_eq, beq_eq_false_iff_ne, ne_eq, Bool.not_eq_true', Bool.not_eq_false'] at hc0
    refine AW.skip ?_
    refine AW.seq ?_
    refine AW.region (by kernel_rfl) ?_
    refine RunF.q (o_assign rfl) rfl ?_
    refine RunF.q (o_assign rfl) rfl ?_
    refine AW.ret ?_
    exact FinQ.ret [] [] (ress_tmp rfl (ress_tmp rfl ress_nil)) rfl (.some rfl rfl nP .nil) (.cons rfl rfl nP .nil) (by rw [if_neg (show ¬ i = k by omega)]; exact nR)

set_option maxHeartbeats 1000000 in
theorem madeD_ok (L : List Int) (f : Bool) (h0 : 0 < L.length) (hn : L.length ≤ 8) : SoundC Try.prog 76 [.agg [.int .i64 L.length, .int .i64 L.length], .func 84 [] [.ptr (.o 0) 0]] ⟨[ints L], [some [.sl (.r 0) 0 L.length 1 f]]⟩ { val := .tuple [.agg [.int .i64 L.length, .int .i64 L.length, .sl (.o 1) 0 (tab (fun i k => if i = k then L.getD i 0 else 0) L.length (L.length * L.length)).length 1 false], .bool (anyT (fun _ _ => false) L.length (L.length * L.length))], newo := [ints (tab (fun i k => if i = k then L.getD i 0 else 0) L.length (L.length * L.length))] } := by
  have hR8 := hn
  have hC8 := hn
  have hR := h0
  have hC := h0
  refine SoundC.of (N := 48) Try.func76 rfl rfl rfl rfl ?_
  refine AW.seq ?_
  refine AW.region (by kernel_rfl) ?_
  refine RunF.w (o_box (nm := 1) rfl rfl rfl) rfl ?_
  refine RunF.w (o_alloc (nm := 2) tz24 rfl) rfl ?_
  refine RunF.q (o_assign rfl) rfl ?_
  refine AW.seq ?_
  refine AW.region (by kernel_rfl) ?_
  refine RunF.q (o_fieldAddr rfl tk132 rfl ts3 rfl) rfl ?_
  refine RunF.q (o_load rfl tk3 ts3 rfl rfl rfl) rfl ?_
  refine RunF.q (o_fieldAddr rfl tk132 rfl ts3 rfl) rfl ?_
  refine RunF.q (o_load rfl tk3 ts3 rfl rfl rfl) rfl ?_
  refine RunF.q (o_build tk24 tz24 pl24 rfl rfl) rfl ?_
  refine RunF.w (o_alloc (nm := 3) tz24 rfl) rfl ?_
  refine RunF.wn (o_store rfl rfl rfl ts24 rfl rfl) rfl ?_
  refine AW.seq ?_
  refine AW.region (by kernel_rfl) ?_
  refine RunF.q (o_assign rfl) rfl ?_
  refine AW.seq ?_
  refine AW.seq ?_
  refine AW.region (by kernel_rfl) ?_
  refine RunF.q (o_fieldAddr rfl tk132 rfl ts3 rfl) rfl ?_
  refine RunF.q (o_load rfl tk3 ts3 rfl rfl rfl) rfl ?_
  refine RunF.q (o_move rfl) rfl ?_
  refine AW.block ?_
  refine AW.loop (α := {x : Nat × List Int × Bool // x.1 ≤ L.length ∧ x.2.1 = tab (fun i k => if i = k then L.getD i 0 else 0) L.length (x.1 * L.length) ∧ x.2.2 = anyT (fun _ _ => false) L.length (x.1 * L.length)}) (fun x : {x : Nat × List Int × Bool // x.1 ≤ L.length ∧ x.2.1 = tab (fun i k => if i = k then L.getD i 0 else 0) L.length (x.1 * L.length) ∧ x.2.2 = anyT (fun _ _ => false) L.length (x.1 * L.length)} => ([(1, .func 84 [] [.ptr (.o 0) 0]), (2, .ptr (.o 1) 0), (4, .ptr (.o 2) 0), (6, .ptr (.o 3) 0), (7, .bool x.1.2.2), (18, .int .i64 L.length), (19, .int .i64 x.1.1)], ⟨[ints L], [some [.sl (.r 0) 0 L.length 1 f], some [.int .i64 L.length, .int .i64 L.length], some [.int .i64 0, .int .i64 0, .nilsl], some [.int .i64 L.length, .int .i64 L.length, slOf 4 x.1.2.1], rowOf x.1.2.1]⟩)) (fun x => L.length - x.1.1) (fun x => ?_) ⟨(0, [], false), by simp, by simp [tab], by simp [anyT]⟩ ?_
  · obtain ⟨⟨i, L0, z0⟩, hx1, hx2, hx3⟩ := x
    dsimp only at hx1 hx2 hx3
    dsimp only
    refine AW.seq ?_
    refine AW.region (by kernel_rfl) ?_
    refine RunF.q (o_lss rfl rfl) rfl ?_
    refine AW.seq ?_
    refine AW.cond rfl (fun hc0 => ?_) (fun hc0 => ?_)
    · try simp only [decide_eq_true_eq, decide_eq_false_iff_not, bne_iff_ne, beq_iff_eq, bne_eq_false_iff_eq, beq_eq_false_iff_ne, ne_eq, Bool.not_eq_true', Bool.not_eq_false'] at hc0
      have hi : i < L.length := by omega
      refine AW.skip ?_
      refine AW.seq ?_
      refine AW.block ?_
      refine AW.seq ?_
      refine AW.region (by kernel_rfl) ?_
      refine RunF.q (o_move rfl) rfl ?_
      refine RunF.q (o_assign rfl) rfl ?_
      refine AW.seq ?_
      refine AW.region (by kernel_rfl) ?_
      refine RunF.q (o_fieldAddr rfl tk132 rfl ts3 rfl) rfl ?_
      refine RunF.q (o_load rfl tk3 ts3 rfl rfl rfl) rfl ?_
      refine RunF.q (o_move rfl) rfl ?_
      refine AW.block ?_
      refine AW.loop (α := {x : Nat × List Int × Bool // x.1 ≤ L.length ∧ x.2.1 = tab (fun i k => if i = k then L.getD i 0 else 0) L.length (i * L.length + x.1) ∧ x.2.2 = anyT (fun _ _ => false) L.length (i * L.length + x.1)}) (fun x : {x : Nat × List Int × Bool // x.1 ≤ L.length ∧ x.2.1 = tab (fun i k => if i = k then L.getD i 0 else 0) L.length (i * L.length + x.1) ∧ x.2.2 = anyT (fun _ _ => false) L.length (i * L.length + x.1)} => ([(1, .func 84 [] [.ptr (.o 0) 0]), (2, .ptr (.o 1) 0), (4, .ptr (.o 2) 0), (6, .ptr (.o 3) 0), (7, .bool x.1.2.2), (8, .int .i64 i), (18, .int .i64 L.length), (19, .int .i64 i), (23, .int .i64 L.length), (24, .int .i64 x.1.1)], ⟨[ints L], [some [.sl (.r 0) 0 L.length 1 f], some [.int .i64 L.length, .int .i64 L.length], some [.int .i64 0, .int .i64 0, .nilsl], some [.int .i64 L.length, .int .i64 L.length, slOf 4 x.1.2.1], rowOf x.1.2.1]⟩)) (fun x => L.length - x.1.1) (fun x => ?_) ⟨(0, L0, z0), by omega, by simpa using hx2, by simpa using hx3⟩ ?_
      · obtain ⟨⟨k, y1, y2⟩, hy1, hy2, hy3⟩ := x
        dsimp only at hy1 hy2 hy3
        dsimp only
        refine AW.seq ?_
        refine AW.region (by kernel_rfl) ?_
        refine RunF.q (o_lss rfl rfl) rfl ?_
        refine AW.seq ?_
        refine AW.cond rfl (fun hc1 => ?_) (fun hc1 => ?_)
        · try simp only [decide_eq_true_eq, decide_eq_false_iff_not, bne_iff_ne, beq_iff_eq, bne_eq_false_iff_eq, beq_eq_false_iff_ne, ne_eq, Bool.not_eq_true', Bool.not_eq_false'] at hc1
          have hk : k < L.length := by omega
          have hlen : y1.length ≤ 64 := by rw [hy2, tab_length]; have := idx_lt hi hk; have := small_mul hR8 hC8; omega
          rcases y1 with _ | ⟨a, l⟩
          · refine AW.skip ?_
            refine AW.seq ?_
            refine AW.block ?_
            refine AW.seq ?_
            refine AW.region (by kernel_rfl) ?_
            refine RunF.q (o_move rfl) rfl ?_
            refine RunF.q (o_assign rfl) rfl ?_
            refine AW.seq ?_
            refine AW.region (by kernel_rfl) ?_
            refine RunF.q (o_move rfl) rfl ?_
            refine RunF.q (o_move rfl) rfl ?_
            refine RunF.q (o_move rfl) rfl ?_
            refine RunF.q (o_call (no := 5) (nr := 1) rfl rfl rfl nC (by rfl) (by exact diag1_ok L f h0 hn i k hi) (by rfl) rfl rfl nV rfl) (by rfl) ?_
            refine RunF.q (o_move rfl) rfl ?_
            refine RunF.q (o_extract rfl rfl) rfl ?_
            refine RunF.q (o_extract rfl rfl) rfl ?_
            refine RunF.q (o_assign rfl) rfl ?_
            refine RunF.q (o_assign rfl) rfl ?_
            refine AW.seq ?_
            refine AW.region (by kernel_rfl) ?_
            refine RunF.q (o_fieldAddr rfl tk24 rfl ts22 rfl) rfl ?_
            refine RunF.q (o_load rfl tk22 ts22 rfl rfl rfl) rfl ?_
            refine RunF.q (o_move rfl) rfl ?_
            refine RunF.w (o_buildSlice (nm := 5) tk22 ts30 tz30 rfl rfl rfl rfl) rfl ?_
            refine RunF.w (o_append_nil (nm := 6) tk22 tk22 ts30 tb30 tz30 rfl rfl rfl rfl ⟨by decide, Nat.le_refl 1, by decide, by decide⟩ rfl rfl rfl) rfl ?_
            refine RunF.q (o_fieldAddr rfl tk24 rfl ts22 rfl) rfl ?_
            refine RunF.wn (o_store rfl rfl rfl ts22 rfl rfl) rfl ?_
            refine AW.region (by kernel_rfl) ?_
            refine RunF.q (o_move rfl) rfl ?_
            refine RunF.q (o_move rfl) rfl ?_
            refine RunF.gm rfl (o_move rfl) ?_
            first | refine RunF.q (o_pick_t rfl rfl) rfl ?_ | refine RunF.q (o_pick_f rfl rfl) rfl ?_ | refine RunF.q (o_pick_b rfl rfl rfl) rfl ?_ | refine RunF.q (o_pick_or rfl rfl rfl) rfl ?_ | refine RunF.q (o_pick_and rfl rfl rfl) rfl ?_
            refine RunF.q (o_assign rfl) rfl ?_
            refine AW.region (by kernel_rfl) ?_
            refine RunF.q (o_add rfl rfl (by first | exact i64_in _ (by omega) | rfl)) rfl ?_
            refine RunF.q (o_move rfl) rfl ?_
            exact ⟨⟨(k + 1, ([] : List Int) ++ [(fun i k => if i = k then L.getD i 0 else 0) i k], y2 || (fun _ _ => false) i k), by dsimp only; omega, by dsimp only; rw [← Nat.add_assoc, tab_succ _ hk, ← hy2], by dsimp only; rw [← Nat.add_assoc, anyT_succ _ hk, ← hy3]⟩, Wk.of [1, 2, 3, 6] [] rfl (.some rfl rfl nP (.some rfl rfl nP (.some rfl rfl nP (.some rfl rfl nP (.some rfl rfl nP .nil))))) (.cons rfl rfl nP .nil) (.cons rfl (.fn .nil (.cons (.ptr rfl) .nil)) (.cons rfl (.ptr rfl) (.cons rfl (.ptr rfl) (.cons rfl (.ptr rfl) (.cons rfl (.self rfl) (.cons rfl (.self rfl) (.cons rfl (.self rfl) (.cons rfl (.self rfl) (.cons rfl (.self rfl) (.cons rfl (.self rfl) .nil)))))))))), by dsimp only; omega⟩
          · refine AW.skip ?_
            refine AW.seq ?_
            refine AW.block ?_
            refine AW.seq ?_
            refine AW.region (by kernel_rfl) ?_
            refine RunF.q (o_move rfl) rfl ?_
            refine RunF.q (o_assign rfl) rfl ?_
            refine AW.seq ?_
            refine AW.region (by kernel_rfl) ?_
            refine RunF.q (o_move rfl) rfl ?_
            refine RunF.q (o_move rfl) rfl ?_
            refine RunF.q (o_move rfl) rfl ?_
            refine RunF.q (o_call (no := 5) (nr := 1) rfl rfl rfl nC (by rfl) (by exact diag1_ok L f h0 hn i k hi) (by rfl) rfl rfl nV rfl) (by rfl) ?_
            refine RunF.q (o_move rfl) rfl ?_
            refine RunF.q (o_extract rfl rfl) rfl ?_
            refine RunF.q (o_extract rfl rfl) rfl ?_
            refine RunF.q (o_assign rfl) rfl ?_
            refine RunF.q (o_assign rfl) rfl ?_
            refine AW.seq ?_
            refine AW.region (by kernel_rfl) ?_
            refine RunF.q (o_fieldAddr rfl tk24 rfl ts22 rfl) rfl ?_
            refine RunF.q (o_load rfl tk22 ts22 rfl rfl rfl) rfl ?_
            refine RunF.q (o_move rfl) rfl ?_
            refine RunF.w (o_buildSlice (nm := 5) tk22 ts30 tz30 rfl rfl rfl rfl) rfl ?_
            refine RunF.w (o_append_own (nm := 6) (mn := ((a :: l) ++ [(fun i k => if i = k then L.getD i 0 else 0) i k]).length) tk22 tk22 ts30 tb30 tz30 rfl rfl rfl rfl rfl ⟨by decide, Nat.le_refl 1, by simp, by simp only [List.length_cons] at hlen ⊢; omega, by simp only [List.length_cons] at hlen ⊢; omega⟩ rfl (ints_all (a :: l)) rfl rfl (by simp)) rfl ?_
            refine RunF.q (o_fieldAddr rfl tk24 rfl ts22 rfl) rfl ?_
            refine RunF.wn (o_store rfl rfl rfl ts22 rfl rfl) rfl ?_
            refine AW.region (by kernel_rfl) ?_
            refine RunF.q (o_move rfl) rfl ?_
            refine RunF.q (o_move rfl) rfl ?_
            refine RunF.gm rfl (o_move rfl) ?_
            first | refine RunF.q (o_pick_t rfl rfl) rfl ?_ | refine RunF.q (o_pick_f rfl rfl) rfl ?_ | refine RunF.q (o_pick_b rfl rfl rfl) rfl ?_ | refine RunF.q (o_pick_or rfl rfl rfl) rfl ?_ | refine RunF.q (o_pick_and rfl rfl rfl) rfl ?_
            refine RunF.q (o_assign rfl) rfl ?_
            refine AW.region (by kernel_rfl) ?_
            refine RunF.q (o_add rfl rfl (by first | exact i64_in _ (by omega) | rfl)) rfl ?_
            refine RunF.q (o_move rfl) rfl ?_
            exact ⟨⟨(k + 1, (a :: l) ++ [(fun i k => if i = k then L.getD i 0 else 0) i k], y2 || (fun _ _ => false) i k), by dsimp only; omega, by dsimp only; rw [← Nat.add_assoc, tab_succ _ hk, ← hy2], by dsimp only; rw [← Nat.add_assoc, anyT_succ _ hk, ← hy3]⟩, Wk.of [1, 2, 3, 6] [] rfl (.some rfl rfl nP (.some rfl rfl nP (.some rfl rfl nP (.some rfl rfl nP (.some rfl rfl (PRN.snoc (a :: l) ((fun i k => if i = k then L.getD i 0 else 0) i k)) .nil))))) (.cons rfl rfl nP .nil) (.cons rfl (.fn .nil (.cons (.ptr rfl) .nil)) (.cons rfl (.ptr rfl) (.cons rfl (.ptr rfl) (.cons rfl (.ptr rfl) (.cons rfl (.self rfl) (.cons rfl (.self rfl) (.cons rfl (.self rfl) (.cons rfl (.self rfl) (.cons rfl (.self rfl) (.cons rfl (.self rfl) .nil)))))))))), by dsimp only; omega⟩
        · try simp only [decide_eq_true_eq, decide_eq_false_iff_not, bne_iff_ne, beq_iff_eq, bne_eq_false_iff_eq, beq_eq_false_iff_ne, ne_eq, Bool.not_eq_true', Bool.not_eq_false'] at hc1
          refine AW.exit ?_
          refine AW.region (by kernel_rfl) ?_
          refine RunF.q (o_add rfl rfl (by first | exact i64_in _ (by omega) | rfl)) rfl ?_
          refine RunF.q (o_move rfl) rfl ?_
          exact ⟨⟨(i + 1, y1, y2), by dsimp only; omega, by dsimp only; rw [hy2, Nat.succ_mul]; congr 1; omega, by dsimp only; rw [hy3, Nat.succ_mul]; congr 1; omega⟩, Wk.same rfl (.cons rfl (.cons rfl (.cons rfl (.cons rfl (.cons rfl (.cons rfl (.cons rfl .nil))))))), by dsimp only; omega⟩
      · exact Wk.same rfl (.cons rfl (.cons rfl (.cons rfl (.cons rfl (.cons rfl (.cons rfl (.cons rfl (.cons rfl (.cons rfl (.cons rfl .nil))))))))))
    · try simp only [decide_eq_true_eq, decide_eq_false_iff_not, bne_iff_ne, beq_iff_eq, bne_eq_false_iff_eq, beq_eq_false_iff_ne, ne_eq, Bool.not_eq_true', Bool.not_eq_false'] at hc0
      have ei : i = L.length := by omega
      subst ei
      obtain ⟨a, l, rfl⟩ : ∃ a l, L0 = a :: l := by
        cases L0 with
        | nil => have := congrArg List.length hx2; rw [tab_length] at this; have := Nat.mul_pos hR hC; simp at *; omega
        | cons a l => exact ⟨a, l, rfl⟩
      refine AW.exit ?_
      refine AW.seq ?_
      refine AW.region (by kernel_rfl) ?_
      refine RunF.q (o_load_agg rfl tk24 ts24 rfl rfl rfl rfl) rfl ?_
      refine RunF.q (o_move rfl) rfl ?_
      refine RunF.wn (o_store rfl rfl rfl ts24 rfl rfl) rfl ?_
      refine RunF.q (o_assign rfl) rfl ?_
      refine AW.ret ?_
      apply FinQ.ret [4] []
      · exact (ress_agg rfl tk24 ts24 rfl rfl rfl (ress_tmp rfl ress_nil))
      · rfl
      · exact (.some rfl rfl nP (.some rfl rfl (by rw [← hx2]; exact PRN.flat (ints_flat _)) .nil))
      · exact (.cons rfl rfl nP .nil)
      · rw [← hx2, ← hx3]; exact nR
  · exact Wk.of [1, 2, 3, 999] [] rfl (.some rfl rfl nP (.some rfl rfl nP (.some rfl rfl nP (.some rfl rfl nP (.none .nil))))) (.cons rfl rfl nP .nil) (.cons rfl (.fn .nil (.cons (.ptr rfl) .nil)) (.cons rfl (.ptr rfl) (.cons rfl (.ptr rfl) (.cons rfl (.ptr rfl) (.cons rfl (.self rfl) (.cons rfl (.self rfl) (.cons rfl (.self rfl) .nil)))))))

set_option maxHeartbeats 1000000 in
theorem diag_ok (L : List Int) (f : Bool) (h0 : 0 < L.length) (hn : L.length ≤ 8) (hQ : ∀ x ∈ L, inQ x) : SoundC Try.prog 34 [.sl (.r 0) 0 L.length 1 f] ⟨[ints L], []⟩ { val := .tuple [.agg [.int .i64 L.length, .int .i64 L.length, .sl (.o 0) 0 (diagL L).length 1 false], .int .i64 0], newo := [ints (diagL L)] } := by
  refine SoundC.of (N := 32) Try.func34 rfl rfl rfl rfl ?_
  refine AW.seq ?_
  refine AW.region (by kernel_rfl) ?_
  refine RunF.w (o_box (nm := 0) rfl rfl rfl) nH ?_
  refine RunF.w (o_alloc (nm := 1) tz24 rfl) nH ?_
  refine RunF.q (o_assign rfl) rfl ?_
  refine AW.seq ?_
  refine AW.region (by kernel_rfl) ?_
  refine RunF.q (o_load rfl tk22 ts22 rfl rfl rfl) rfl ?_
  first | refine RunF.q (o_len tk22 rfl) rfl ?_ | refine RunF.q (o_len_nil tk22 rfl) rfl ?_
  refine RunF.q (o_assign rfl) rfl ?_
  refine AW.seq ?_
  refine AW.seq ?_
  refine AW.region (by kernel_rfl) ?_
  refine RunF.q (o_move rfl) rfl ?_
  refine RunF.q (o_lss rfl rfl) rfl ?_
  refine RunF.br (o_move rfl) rfl (fun hb2_2 => ?_) (fun hb2_2 => ?_)
  · try simp only [decide_eq_true_eq, decide_eq_false_iff_not, bne_iff_ne, beq_iff_eq, bne_eq_false_iff_eq, beq_eq_false_iff_ne, ne_eq, Bool.not_eq_true', Bool.not_eq_false'] at hb2_2
    exfalso; omega
  · try simp only [decide_eq_true_eq, decide_eq_false_iff_not, bne_iff_ne, beq_iff_eq, bne_eq_false_iff_eq, beq_eq_false_iff_ne, ne_eq, Bool.not_eq_true', Bool.not_eq_false'] at hb2_2
    refine RunF.gq rfl (o_move rfl) rfl ?_
    refine RunF.gq rfl (o_gtr rfl rfl) rfl ?_
    refine RunF.q (o_pick_f rfl rfl) rfl ?_
    refine RunF.br (o_move rfl) rfl (fun hb2_6 => ?_) (fun hb2_6 => ?_)
    · try simp only [decide_eq_true_eq, decide_eq_false_iff_not, bne_iff_ne, beq_iff_eq, bne_eq_false_iff_eq, beq_eq_false_iff_ne, ne_eq, Bool.not_eq_true', Bool.not_eq_false'] at hb2_6
      exfalso; omega
    · try simp only [decide_eq_true_eq, decide_eq_false_iff_not, bne_iff_ne, beq_iff_eq, bne_eq_false_iff_eq, beq_eq_false_iff_ne, ne_eq, Bool.not_eq_true', Bool.not_eq_false'] at hb2_6
      refine RunF.gq rfl (o_move rfl) rfl ?_
      refine RunF.gq rfl (o_load rfl tk22 ts22 rfl rfl rfl) rfl ?_
      refine RunF.gq rfl (o_build tk24 tz24 pl24 rfl rfl) rfl ?_
      refine RunF.gq rfl (o_call (no := 2) (nr := 1) rfl rfl rfl nC (by rfl) (by exact mright_is (R := 1) (C := (L.length : Int)) (L := L) (z := true) (decide_eq_true ⟨by omega, by omega, by omega, by omega, by omega, hQ⟩)) (by rfl) rfl rfl nV rfl) (by rfl) ?_
      refine RunF.gq rfl (o_not rfl) rfl ?_
      refine RunF.q (o_pick_f rfl rfl) rfl ?_
      refine AW.cond rfl (fun hc0 => absurd hc0 (by simp)) (fun hc0 => ?_)
      refine AW.skip ?_
      refine AW.seq ?_
      refine AW.region (by kernel_rfl) ?_
      refine RunF.q (o_move rfl) rfl ?_
      refine RunF.q (o_move rfl) rfl ?_
      refine RunF.q (o_build tk132 tz132 pl132 rfl rfl) rfl ?_
      refine RunF.q (o_makeFunc rfl rfl) rfl ?_
      refine RunF.w (o_call (no := 2) (nr := 1) rfl rfl rfl nC (by rfl) (by exact madeD_ok L f h0 hn) (by rfl) rfl rfl nV nE) nH ?_
      refine RunF.q (o_move rfl) rfl ?_
      refine RunF.q (o_extract rfl rfl) rfl ?_
      refine RunF.q (o_extract rfl rfl) rfl ?_
      refine RunF.w (o_alloc (nm := 3) tz24 rfl) nH ?_
      refine RunF.wn (o_store rfl rfl rfl ts24 rfl rfl) nH ?_
      refine RunF.q (o_assign rfl) rfl ?_
      refine AW.seq ?_
      refine AW.region (by kernel_rfl) ?_
      refine RunF.q (o_load_agg rfl tk24 ts24 rfl rfl rfl nL) rfl ?_
      refine RunF.wn (o_store rfl rfl rfl ts24 rfl rfl) nH ?_
      refine RunF.q (o_assign rfl) rfl ?_
      refine AW.ret ?_
      exact FinQ.ret [2] [] (ress_agg rfl tk24 ts24 rfl rfl rfl (ress_tmp rfl ress_nil)) rfl (.some rfl rfl (PRN.flat (ints_flat _)) .nil) (.cons rfl rfl nP .nil) nR

end Go.Proofs.Ytnkijhpikeokfaa

/- The example at the head of the layer's statements: a closed run. -/
namespace Go.Proofs.Ytnkijhpikeokfaa
open Go Go.Sym
theorem shown05_ok : SoundC Try.prog 35 [] ⟨[], []⟩ { val := .bool true } := .true (noO_sound _) (F := 400) (n := 40) (by kernel_rfl)
end Go.Proofs.Ytnkijhpikeokfaa

/- Tracks: which are right, which are the same, what is good. -/
namespace Go.Proofs.Ytnkijhpikeokfaa
open Go Go.Sym Go.IntWalk

theorem ints_set (L : List Int) (k : Nat) (v : Int) : (ints L).set k (.int .i64 v) = ints (L.set k v) := by simp [ints, List.map_set]

theorem store_int {L : List Int} {k : Nat} {v : Int} (h : k < L.length) : (Nat.beq [AV.int .i64 v].length 1 && Nat.ble (k + [AV.int .i64 v].length) (ints L).length && [AV.int .i64 v].all AV.scalar) = true := by
  have h1 : Nat.ble (k + 1) (ints L).length = true := Nat.ble_eq_true_of_le (by simp [ints]; omega)
  simp only [List.length_cons, List.length_nil, Nat.zero_add, h1]
  rfl

/-- what a track that is right bears -/
def RightT (XR XC : Int) (x : List Int) (PR PC : Int) (p : List Int) : Prop :=
  rightM XR XC x = true ∧ rightM PR PC p = true ∧ XC = 1 ∧ PR = XR ∧ PC = XR ∧ (∀ i k, i < XR.toNat → k < XR.toNat → p.getD (i * XR.toNat + k) 0 = p.getD (k * XR.toNat + i) 0) ∧ ∀ i, i < XR.toNat → 0 ≤ p.getD (i * XR.toNat + i) 0
noncomputable def rightT (XR XC : Int) (x : List Int) (PR PC : Int) (p : List Int) : Bool := @decide (RightT XR XC x PR PC p) (Classical.propDecidable _)
theorem rightT_yes {XR XC : Int} {x : List Int} {PR PC : Int} {p : List Int} (h : RightT XR XC x PR PC p) : rightT XR XC x PR PC p = true := by unfold rightT; exact @decide_eq_true _ (Classical.propDecidable _) h
theorem rightT_no {XR XC : Int} {x : List Int} {PR PC : Int} {p : List Int} (h : ¬ RightT XR XC x PR PC p) : rightT XR XC x PR PC p = false := by unfold rightT; exact @decide_eq_false _ (Classical.propDecidable _) h
theorem rightT_is {XR XC : Int} {x : List Int} {PR PC : Int} {p : List Int} (h : rightT XR XC x PR PC p = true) : RightT XR XC x PR PC p := by unfold rightT at h; exact @of_decide_eq_true _ (Classical.propDecidable _) h

theorem turned_iff {p : List Int} {n : Nat} (hp : p.length = n * n) : p = trL p n n ↔ ∀ i k, i < n → k < n → p.getD (i * n + k) 0 = p.getD (k * n + i) 0 := by
  constructor
  · intro h i k hi hk
    conv => lhs; rw [h]
    exact trL_at hi hk
  · intro h
    have h1 : trL p n n = tab (fun i k => p.getD (i * n + k) 0) n (n * n) := by
      unfold trL; exact tab_congr fun i k hi hk => h k i hk hi
    rw [h1, tab_self hp]
theorem sameM_true {r c : Int} {A : List Int} {r' c' : Int} {B : List Int} (h : sameM r c A r' c' B = true) : r = r' ∧ c = c' ∧ A = B := of_decide_eq_true h
theorem sameM_false {r c : Int} {A B : List Int} (h : sameM r c A r c B = false) : A ≠ B := fun e => (of_decide_eq_false h) ⟨rfl, rfl, e⟩

/-- noughts for what is below, on the diagonal, of the first i -/
def goodN (E : List Int) (n : Nat) : Nat → List Int
  | 0 => E
  | i + 1 => (goodN E n i).set (i * n + i) (if (0 : Int) > (goodN E n i).getD (i * n + i) 0 then 0 else (goodN E n i).getD (i * n + i) 0)
def goodL (p : List Int) (n : Nat) : List Int := goodN (evenL p n) n n
theorem goodN_length (E : List Int) (n : Nat) : ∀ i, (goodN E n i).length = E.length
  | 0 => rfl
  | i + 1 => by simp only [goodN, List.length_set]; exact goodN_length E n i
theorem goodL_length' (E : List Int) (n : Nat) : (goodN E n n).length = E.length := goodN_length E n n
theorem goodL_length (p : List Int) (n : Nat) : (goodL p n).length = n * n := by unfold goodL; rw [goodN_length, evenL_length]
theorem good_even_length (p : List Int) (n : Nat) : (evenL p n).length = (goodL p n).length := by rw [goodL_length, evenL_length]

set_option maxHeartbeats 1000000 in
theorem ksame_ok (XR XC PR PC XR' XC' PR' PC' : Int) (x p x' p' : List Int) (f0 f1 f2 f3 : Bool) (hx : x.length ≤ 1000000) (hp : p.length ≤ 1000000) : SoundC Try.prog 45 [.agg [.int .i64 XR, .int .i64 XC, .sl (.r 0) 0 x.length 1 f0, .int .i64 PR, .int .i64 PC, .sl (.r 1) 0 p.length 1 f1], .agg [.int .i64 XR', .int .i64 XC', .sl (.r 2) 0 x'.length 1 f2, .int .i64 PR', .int .i64 PC', .sl (.r 3) 0 p'.length 1 f3]] ⟨[ints x, ints p, ints x', ints p'], []⟩ { val := .bool (sameM XR XC x XR' XC' x' && sameM PR PC p PR' PC' p') } := by
  refine SoundC.of (N := 17) Try.func45 rfl rfl rfl rfl ?_
  refine AW.seq ?_
  refine AW.region (by kernel_rfl) ?_
  refine RunF.w (o_box (nm := 0) rfl rfl rfl) nH ?_
  refine RunF.w (o_box (nm := 1) rfl rfl rfl) nH ?_
  refine RunF.q (o_assign rfl) rfl ?_
  refine AW.seq ?_
  refine AW.region (by kernel_rfl) ?_
  refine RunF.q (o_fieldAddr rfl tk41 rfl ts24 rfl) rfl ?_
  refine RunF.q (o_load_agg rfl tk24 ts24 rfl rfl rfl nL) rfl ?_
  refine RunF.q (o_fieldAddr rfl tk41 rfl ts24 rfl) rfl ?_
  refine RunF.q (o_load_agg rfl tk24 ts24 rfl rfl rfl nL) rfl ?_
  refine RunF.q (o_call (no := 2) (nr := 4) rfl rfl rfl nC (by rfl) (by exact msame_ok XR XC XR' XC' x x' f0 f2 hx) (by rfl) rfl rfl nV rfl) (by rfl) ?_
  refine RunF.br (o_move rfl) rfl (fun hb1_5 => ?_) (fun hb1_5 => ?_)
  · try simp only [decide_eq_true_eq, decide_eq_false_iff_not, bne_iff_ne, beq_iff_eq, bne_eq_false_iff_eq, beq_eq_false_iff_ne, ne_eq, Bool.not_eq_true', Bool.not_eq_false'] at hb1_5
    refine RunF.gq rfl (o_fieldAddr rfl tk41 rfl ts24 rfl) rfl ?_
    refine RunF.gq rfl (o_load_agg rfl tk24 ts24 rfl rfl rfl nL) rfl ?_
    refine RunF.gq rfl (o_fieldAddr rfl tk41 rfl ts24 rfl) rfl ?_
    refine RunF.gq rfl (o_load_agg rfl tk24 ts24 rfl rfl rfl nL) rfl ?_
    refine RunF.gq rfl (o_call (no := 2) (nr := 4) rfl rfl rfl nC (by rfl) (by exact msame_ok PR PC PR' PC' p p' f1 f3 hp) (by rfl) rfl rfl nV rfl) (by rfl) ?_
    refine RunF.q (o_pick_t rfl rfl) rfl ?_
    refine RunF.q (o_assign rfl) rfl ?_
    refine AW.ret ?_
    exact FinQ.ret [] [] (ress_tmp rfl ress_nil) rfl .nil (.cons rfl rfl nP (.cons rfl rfl nP (.cons rfl rfl nP (.cons rfl rfl nP .nil)))) (by rw [hb1_5, Bool.true_and]; exact nR)
  · try simp only [decide_eq_true_eq, decide_eq_false_iff_not, bne_iff_ne, beq_iff_eq, bne_eq_false_iff_eq, beq_eq_false_iff_ne, ne_eq, Bool.not_eq_true', Bool.not_eq_false'] at hb1_5
    refine RunF.gs (b := false) rfl rfl ?_
    refine RunF.gs (b := false) rfl rfl ?_
    refine RunF.gs (b := false) rfl rfl ?_
    refine RunF.gs (b := false) rfl rfl ?_
    refine RunF.gs (b := false) rfl rfl ?_
    refine RunF.q (o_pick_f rfl rfl) rfl ?_
    refine RunF.q (o_assign rfl) rfl ?_
    refine AW.ret ?_
    exact FinQ.ret [] [] (ress_tmp rfl ress_nil) rfl .nil (.cons rfl rfl nP (.cons rfl rfl nP (.cons rfl rfl nP (.cons rfl rfl nP .nil)))) (by rw [hb1_5, Bool.false_and]; exact nR)

set_option maxHeartbeats 1000000 in
theorem r5same_ok (XR XC PR PC XR' XC' PR' PC' : Int) (x p x' p' : List Int) (f0 f1 f2 f3 : Bool) (hx : x.length ≤ 1000000) (hp : p.length ≤ 1000000) : SoundC Try.prog 43 [.agg [.int .i64 XR, .int .i64 XC, .sl (.r 0) 0 x.length 1 f0, .int .i64 PR, .int .i64 PC, .sl (.r 1) 0 p.length 1 f1], .agg [.int .i64 XR', .int .i64 XC', .sl (.r 2) 0 x'.length 1 f2, .int .i64 PR', .int .i64 PC', .sl (.r 3) 0 p'.length 1 f3]] ⟨[ints x, ints p, ints x', ints p'], []⟩ { val := .bool (sameM XR XC x XR' XC' x' && sameM PR PC p PR' PC' p') } := by
  refine SoundC.of (N := 17) Try.func43 rfl rfl rfl rfl ?_
  refine AW.seq ?_
  refine AW.region (by kernel_rfl) ?_
  refine RunF.w (o_box (nm := 0) rfl rfl rfl) nH ?_
  refine RunF.w (o_box (nm := 1) rfl rfl rfl) nH ?_
  refine RunF.q (o_assign rfl) rfl ?_
  refine AW.seq ?_
  refine AW.region (by kernel_rfl) ?_
  refine RunF.q (o_fieldAddr rfl tk41 rfl ts24 rfl) rfl ?_
  refine RunF.q (o_load_agg rfl tk24 ts24 rfl rfl rfl nL) rfl ?_
  refine RunF.q (o_fieldAddr rfl tk41 rfl ts24 rfl) rfl ?_
  refine RunF.q (o_load_agg rfl tk24 ts24 rfl rfl rfl nL) rfl ?_
  refine RunF.q (o_call (no := 2) (nr := 4) rfl rfl rfl nC (by rfl) (by exact rsame_ok XR XC XR' XC' x x' f0 f2 hx) (by rfl) rfl rfl nV rfl) (by rfl) ?_
  refine RunF.br (o_move rfl) rfl (fun hb1_5 => ?_) (fun hb1_5 => ?_)
  · try simp only [decide_eq_true_eq, decide_eq_false_iff_not, bne_iff_ne, beq_iff_eq, bne_eq_false_iff_eq, beq_eq_false_iff_ne, ne_eq, Bool.not_eq_true', Bool.not_eq_false'] at hb1_5
    refine RunF.gq rfl (o_fieldAddr rfl tk41 rfl ts24 rfl) rfl ?_
    refine RunF.gq rfl (o_load_agg rfl tk24 ts24 rfl rfl rfl nL) rfl ?_
    refine RunF.gq rfl (o_fieldAddr rfl tk41 rfl ts24 rfl) rfl ?_
    refine RunF.gq rfl (o_load_agg rfl tk24 ts24 rfl rfl rfl nL) rfl ?_
    refine RunF.gq rfl (o_call (no := 2) (nr := 4) rfl rfl rfl nC (by rfl) (by exact rsame_ok PR PC PR' PC' p p' f1 f3 hp) (by rfl) rfl rfl nV rfl) (by rfl) ?_
    refine RunF.q (o_pick_t rfl rfl) rfl ?_
    refine RunF.q (o_assign rfl) rfl ?_
    refine AW.ret ?_
    exact FinQ.ret [] [] (ress_tmp rfl ress_nil) rfl .nil (.cons rfl rfl nP (.cons rfl rfl nP (.cons rfl rfl nP (.cons rfl rfl nP .nil)))) (by rw [hb1_5, Bool.true_and]; exact nR)
  · try simp only [decide_eq_true_eq, decide_eq_false_iff_not, bne_iff_ne, beq_iff_eq, bne_eq_false_iff_eq, beq_eq_false_iff_ne, ne_eq, Bool.not_eq_true', Bool.not_eq_false'] at hb1_5
    refine RunF.gs (b := false) rfl rfl ?_
    refine RunF.gs (b := false) rfl rfl ?_
    refine RunF.gs (b := false) rfl rfl ?_
    refine RunF.gs (b := false) rfl rfl ?_
    refine RunF.gs (b := false) rfl rfl ?_
    refine RunF.q (o_pick_f rfl rfl) rfl ?_
    refine RunF.q (o_assign rfl) rfl ?_
    refine AW.ret ?_
    exact FinQ.ret [] [] (ress_tmp rfl ress_nil) rfl .nil (.cons rfl rfl nP (.cons rfl rfl nP (.cons rfl rfl nP (.cons rfl rfl nP .nil)))) (by rw [hb1_5, Bool.false_and]; exact nR)

set_option maxHeartbeats 1000000 in
theorem kright_ok (XR XC PR PC : Int) (x p : List Int) (f0 f1 : Bool) : SoundC Try.prog 41 [.agg [.int .i64 XR, .int .i64 XC, .sl (.r 0) 0 x.length 1 f0, .int .i64 PR, .int .i64 PC, .sl (.r 1) 0 p.length 1 f1]] ⟨[ints x, ints p], []⟩ { val := .bool (rightT XR XC x PR PC p) } := by
  refine SoundC.of (N := 63) Try.func41 rfl rfl rfl rfl ?_
  refine AW.seq ?_
  refine AW.region (by kernel_rfl) ?_
  refine RunF.w (o_box (nm := 0) rfl rfl rfl) nH ?_
  refine RunF.q (o_assign rfl) rfl ?_
  refine AW.seq ?_
  refine AW.region (by kernel_rfl) ?_
  refine RunF.q (o_fieldAddr rfl tk41 rfl ts24 rfl) rfl ?_
  refine RunF.q (o_fieldAddr rfl tk24 rfl ts3 rfl) rfl ?_
  refine RunF.q (o_load rfl tk3 ts3 rfl rfl rfl) rfl ?_
  refine RunF.q (o_assign rfl) rfl ?_
  refine AW.seq ?_
  refine AW.seq ?_
  refine AW.draws (by kernel_rfl) (by kernel_rfl) ?_
  refine RunV.q (o_fieldAddr rfl tk41 rfl ts24 rfl) rfl ?_
  refine RunV.q (o_load_agg rfl tk24 ts24 rfl rfl rfl nL) rfl ?_
  refine RunV.q (o_call (no := 1) (nr := 2) rfl rfl rfl nC (by rfl) (by exact mright_ok XR XC x f0) (by rfl) rfl rfl nV rfl) (by rfl) ?_
  refine RunV.q (o_not rfl) rfl ?_
  refine RunV.br (o_move rfl) rfl (fun hb2_4 => ?_) (fun hb2_4 => ?_)
  · try simp only [decide_eq_true_eq, decide_eq_false_iff_not, bne_iff_ne, beq_iff_eq, bne_eq_false_iff_eq, beq_eq_false_iff_ne, ne_eq, Bool.not_eq_true', Bool.not_eq_false'] at hb2_4
    refine RunV.gs (b := true) rfl rfl ?_
    refine RunV.gs (b := true) rfl rfl ?_
    refine RunV.gs (b := true) rfl rfl ?_
    refine RunV.gs (b := true) rfl rfl ?_
    refine RunV.q (o_pick_t rfl rfl) rfl ?_
    refine RunV.q (o_move rfl) rfl ?_
    refine RunV.gs (b := true) rfl rfl ?_
    refine RunV.gs (b := true) rfl rfl ?_
    refine RunV.gs (b := true) rfl rfl ?_
    refine RunV.gs (b := true) rfl rfl ?_
    refine RunV.q (o_pick_t rfl rfl) rfl ?_
    refine RunV.q (o_move rfl) rfl ?_
    refine RunV.gs (b := true) rfl rfl ?_
    refine RunV.gs (b := true) rfl rfl ?_
    refine RunV.gs (b := true) rfl rfl ?_
    refine RunV.gs (b := true) rfl rfl ?_
    refine RunV.gs (b := true) rfl rfl ?_
    refine RunV.q (o_pick_t rfl rfl) rfl ?_
    refine RunV.q (o_move rfl) rfl ?_
    refine RunV.gs (b := true) rfl rfl ?_
    refine RunV.gs (b := true) rfl rfl ?_
    refine RunV.gs (b := true) rfl rfl ?_
    refine RunV.gs (b := true) rfl rfl ?_
    refine RunV.gs (b := true) rfl rfl ?_
    refine RunV.q (o_pick_t rfl rfl) rfl ?_
    refine RunV.q (o_move rfl) rfl ?_
    refine RunV.gs (b := true) rfl rfl ?_
    refine RunV.gs (b := true) rfl rfl ?_
    refine RunV.gs (b := true) rfl rfl ?_
    refine RunV.gs (b := true) rfl rfl ?_
    refine RunV.gs (b := true) rfl rfl ?_
    refine RunV.gs (b := true) rfl rfl ?_
    refine RunV.gs (b := true) rfl rfl ?_
    refine RunV.q (o_pick_t rfl rfl) rfl ?_
    refine And.intro (by kernel_rfl) ?_
    refine AW.cond rfl (fun hc0 => ?_) (fun hc0 => absurd hc0 (by simp))
    refine AW.seq ?_
    refine AW.region (by kernel_rfl) ?_
    refine RunF.q (o_assign rfl) rfl ?_
    refine AW.ret ?_
    exact FinQ.ret [] [] (ress_tmp rfl ress_nil) rfl .nil (.cons rfl rfl nP (.cons rfl rfl nP .nil)) (by first | (rw [show rightT XR XC x PR PC p = false from (rightT_no (by unfold RightT; rintro ⟨h1, h2, h3, h4, h5, h6, h7⟩; first | omega | simp_all))]; exact nR) | (rw [show rightT n c x n n p = false from rightT_no (by unfold RightT; rintro ⟨h1, h2, h3, h4, h5, h6, h7⟩; exact sameM_false hc0 ((turned_iff hpl).2 (by simpa using h6)))]; exact nR))
  · try simp only [decide_eq_true_eq, decide_eq_false_iff_not, bne_iff_ne, beq_iff_eq, bne_eq_false_iff_eq, beq_eq_false_iff_ne, ne_eq, Bool.not_eq_true', Bool.not_eq_false'] at hb2_4
    refine RunV.gq rfl (o_fieldAddr rfl tk41 rfl ts24 rfl) rfl ?_
    refine RunV.gq rfl (o_load_agg rfl tk24 ts24 rfl rfl rfl nL) rfl ?_
    refine RunV.gq rfl (o_call (no := 1) (nr := 2) rfl rfl rfl nC (by rfl) (by exact mright_ok PR PC p f1) (by rfl) rfl rfl nV rfl) (by rfl) ?_
    refine RunV.gq rfl (o_not rfl) rfl ?_
    refine RunV.q (o_pick_f rfl rfl) rfl ?_
    refine RunV.br (o_move rfl) rfl (fun hb2_10 => ?_) (fun hb2_10 => ?_)
    · try simp only [decide_eq_true_eq, decide_eq_false_iff_not, bne_iff_ne, beq_iff_eq, bne_eq_false_iff_eq, beq_eq_false_iff_ne, ne_eq, Bool.not_eq_true', Bool.not_eq_false'] at hb2_10
      refine RunV.gs (b := true) rfl rfl ?_
      refine RunV.gs (b := true) rfl rfl ?_
      refine RunV.gs (b := true) rfl rfl ?_
      refine RunV.gs (b := true) rfl rfl ?_
      refine RunV.q (o_pick_t rfl rfl) rfl ?_
      refine RunV.q (o_move rfl) rfl ?_
      refine RunV.gs (b := true) rfl rfl ?_
      refine RunV.gs (b := true) rfl rfl ?_
      refine RunV.gs (b := true) rfl rfl ?_
      refine RunV.gs (b := true) rfl rfl ?_
      refine RunV.gs (b := true) rfl rfl ?_
      refine RunV.q (o_pick_t rfl rfl) rfl ?_
      refine RunV.q (o_move rfl) rfl ?_
      refine RunV.gs (b := true) rfl rfl ?_
      refine RunV.gs (b := true) rfl rfl ?_
      refine RunV.gs (b := true) rfl rfl ?_
      refine RunV.gs (b := true) rfl rfl ?_
      refine RunV.gs (b := true) rfl rfl ?_
      refine RunV.q (o_pick_t rfl rfl) rfl ?_
      refine RunV.q (o_move rfl) rfl ?_
      refine RunV.gs (b := true) rfl rfl ?_
      refine RunV.gs (b := true) rfl rfl ?_
      refine RunV.gs (b := true) rfl rfl ?_
      refine RunV.gs (b := true) rfl rfl ?_
      refine RunV.gs (b := true) rfl rfl ?_
      refine RunV.gs (b := true) rfl rfl ?_
      refine RunV.gs (b := true) rfl rfl ?_
      refine RunV.q (o_pick_t rfl rfl) rfl ?_
      refine And.intro (by kernel_rfl) ?_
      refine AW.cond rfl (fun hc0 => ?_) (fun hc0 => absurd hc0 (by simp))
      refine AW.seq ?_
      refine AW.region (by kernel_rfl) ?_
      refine RunF.q (o_assign rfl) rfl ?_
      refine AW.ret ?_
      exact FinQ.ret [] [] (ress_tmp rfl ress_nil) rfl .nil (.cons rfl rfl nP (.cons rfl rfl nP .nil)) (by first | (rw [show rightT XR XC x PR PC p = false from (rightT_no (by unfold RightT; rintro ⟨h1, h2, h3, h4, h5, h6, h7⟩; first | omega | simp_all))]; exact nR) | (rw [show rightT n c x n n p = false from rightT_no (by unfold RightT; rintro ⟨h1, h2, h3, h4, h5, h6, h7⟩; exact sameM_false hc0 ((turned_iff hpl).2 (by simpa using h6)))]; exact nR))
    · try simp only [decide_eq_true_eq, decide_eq_false_iff_not, bne_iff_ne, beq_iff_eq, bne_eq_false_iff_eq, beq_eq_false_iff_ne, ne_eq, Bool.not_eq_true', Bool.not_eq_false'] at hb2_10
      refine RunV.gq rfl (o_fieldAddr rfl tk41 rfl ts24 rfl) rfl ?_
      refine RunV.gq rfl (o_fieldAddr rfl tk24 rfl ts3 rfl) rfl ?_
      refine RunV.gq rfl (o_load rfl tk3 ts3 rfl rfl rfl) rfl ?_
      refine RunV.gq rfl (o_neq rfl rfl) rfl ?_
      refine RunV.q (o_pick_f rfl rfl) rfl ?_
      refine RunV.br (o_move rfl) rfl (fun hb2_16 => ?_) (fun hb2_16 => ?_)
      · try simp only [decide_eq_true_eq, decide_eq_false_iff_not, bne_iff_ne, beq_iff_eq, bne_eq_false_iff_eq, beq_eq_false_iff_ne, ne_eq, Bool.not_eq_true', Bool.not_eq_false'] at hb2_16
        refine RunV.gs (b := true) rfl rfl ?_
        refine RunV.gs (b := true) rfl rfl ?_
        refine RunV.gs (b := true) rfl rfl ?_
        refine RunV.gs (b := true) rfl rfl ?_
        refine RunV.gs (b := true) rfl rfl ?_
        refine RunV.q (o_pick_t rfl rfl) rfl ?_
        refine RunV.q (o_move rfl) rfl ?_
        refine RunV.gs (b := true) rfl rfl ?_
        refine RunV.gs (b := true) rfl rfl ?_
        refine RunV.gs (b := true) rfl rfl ?_
        refine RunV.gs (b := true) rfl rfl ?_
        refine RunV.gs (b := true) rfl rfl ?_
        refine RunV.q (o_pick_t rfl rfl) rfl ?_
        refine RunV.q (o_move rfl) rfl ?_
        refine RunV.gs (b := true) rfl rfl ?_
        refine RunV.gs (b := true) rfl rfl ?_
        refine RunV.gs (b := true) rfl rfl ?_
        refine RunV.gs (b := true) rfl rfl ?_
        refine RunV.gs (b := true) rfl rfl ?_
        refine RunV.gs (b := true) rfl rfl ?_
        refine RunV.gs (b := true) rfl rfl ?_
        refine RunV.q (o_pick_t rfl rfl) rfl ?_
        refine And.intro (by kernel_rfl) ?_
        refine AW.cond rfl (fun hc0 => ?_) (fun hc0 => absurd hc0 (by simp))
        refine AW.seq ?_
        refine AW.region (by kernel_rfl) ?_
        refine RunF.q (o_assign rfl) rfl ?_
        refine AW.ret ?_
        exact FinQ.ret [] [] (ress_tmp rfl ress_nil) rfl .nil (.cons rfl rfl nP (.cons rfl rfl nP .nil)) (by first | (rw [show rightT XR XC x PR PC p = false from (rightT_no (by unfold RightT; rintro ⟨h1, h2, h3, h4, h5, h6, h7⟩; first | omega | simp_all))]; exact nR) | (rw [show rightT n c x n n p = false from rightT_no (by unfold RightT; rintro ⟨h1, h2, h3, h4, h5, h6, h7⟩; exact sameM_false hc0 ((turned_iff hpl).2 (by simpa using h6)))]; exact nR))
      · try simp only [decide_eq_true_eq, decide_eq_false_iff_not, bne_iff_ne, beq_iff_eq, bne_eq_false_iff_eq, beq_eq_false_iff_ne, ne_eq, Bool.not_eq_true', Bool.not_eq_false'] at hb2_16
        refine RunV.gq rfl (o_fieldAddr rfl tk41 rfl ts24 rfl) rfl ?_
        refine RunV.gq rfl (o_fieldAddr rfl tk24 rfl ts3 rfl) rfl ?_
        refine RunV.gq rfl (o_load rfl tk3 ts3 rfl rfl rfl) rfl ?_
        refine RunV.gq rfl (o_move rfl) rfl ?_
        refine RunV.gq rfl (o_neq rfl rfl) rfl ?_
        refine RunV.q (o_pick_f rfl rfl) rfl ?_
        refine RunV.br (o_move rfl) rfl (fun hb2_23 => ?_) (fun hb2_23 => ?_)
        · try simp only [decide_eq_true_eq, decide_eq_false_iff_not, bne_iff_ne, beq_iff_eq, bne_eq_false_iff_eq, beq_eq_false_iff_ne, ne_eq, Bool.not_eq_true', Bool.not_eq_false'] at hb2_23
          refine RunV.gs (b := true) rfl rfl ?_
          refine RunV.gs (b := true) rfl rfl ?_
          refine RunV.gs (b := true) rfl rfl ?_
          refine RunV.gs (b := true) rfl rfl ?_
          refine RunV.gs (b := true) rfl rfl ?_
          refine RunV.q (o_pick_t rfl rfl) rfl ?_
          refine RunV.q (o_move rfl) rfl ?_
          refine RunV.gs (b := true) rfl rfl ?_
          refine RunV.gs (b := true) rfl rfl ?_
          refine RunV.gs (b := true) rfl rfl ?_
          refine RunV.gs (b := true) rfl rfl ?_
          refine RunV.gs (b := true) rfl rfl ?_
          refine RunV.gs (b := true) rfl rfl ?_
          refine RunV.gs (b := true) rfl rfl ?_
          refine RunV.q (o_pick_t rfl rfl) rfl ?_
          refine And.intro (by kernel_rfl) ?_
          refine AW.cond rfl (fun hc0 => ?_) (fun hc0 => absurd hc0 (by simp))
          refine AW.seq ?_
          refine AW.region (by kernel_rfl) ?_
          refine RunF.q (o_assign rfl) rfl ?_
          refine AW.ret ?_
          exact FinQ.ret [] [] (ress_tmp rfl ress_nil) rfl .nil (.cons rfl rfl nP (.cons rfl rfl nP .nil)) (by first | (rw [show rightT XR XC x PR PC p = false from (rightT_no (by unfold RightT; rintro ⟨h1, h2, h3, h4, h5, h6, h7⟩; first | omega | simp_all))]; exact nR) | (rw [show rightT n c x n n p = false from rightT_no (by unfold RightT; rintro ⟨h1, h2, h3, h4, h5, h6, h7⟩; exact sameM_false hc0 ((turned_iff hpl).2 (by simpa using h6)))]; exact nR))
        · try simp only [decide_eq_true_eq, decide_eq_false_iff_not, bne_iff_ne, beq_iff_eq, bne_eq_false_iff_eq, beq_eq_false_iff_ne, ne_eq, Bool.not_eq_true', Bool.not_eq_false'] at hb2_23
          refine RunV.gq rfl (o_fieldAddr rfl tk41 rfl ts24 rfl) rfl ?_
          refine RunV.gq rfl (o_fieldAddr rfl tk24 rfl ts3 rfl) rfl ?_
          refine RunV.gq rfl (o_load rfl tk3 ts3 rfl rfl rfl) rfl ?_
          refine RunV.gq rfl (o_move rfl) rfl ?_
          refine RunV.gq rfl (o_neq rfl rfl) rfl ?_
          refine RunV.q (o_pick_f rfl rfl) rfl ?_
          refine RunV.br (o_move rfl) rfl (fun hb2_30 => ?_) (fun hb2_30 => ?_)
          · try simp only [decide_eq_true_eq, decide_eq_false_iff_not, bne_iff_ne, beq_iff_eq, bne_eq_false_iff_eq, beq_eq_false_iff_ne, ne_eq, Bool.not_eq_true', Bool.not_eq_false'] at hb2_30
            refine RunV.gs (b := true) rfl rfl ?_
            refine RunV.gs (b := true) rfl rfl ?_
            refine RunV.gs (b := true) rfl rfl ?_
            refine RunV.gs (b := true) rfl rfl ?_
            refine RunV.gs (b := true) rfl rfl ?_
            refine RunV.gs (b := true) rfl rfl ?_
            refine RunV.gs (b := true) rfl rfl ?_
            refine RunV.q (o_pick_t rfl rfl) rfl ?_
            refine And.intro (by kernel_rfl) ?_
            refine AW.cond rfl (fun hc0 => ?_) (fun hc0 => absurd hc0 (by simp))
            refine AW.seq ?_
            refine AW.region (by kernel_rfl) ?_
            refine RunF.q (o_assign rfl) rfl ?_
            refine AW.ret ?_
            exact FinQ.ret [] [] (ress_tmp rfl ress_nil) rfl .nil (.cons rfl rfl nP (.cons rfl rfl nP .nil)) (by first | (rw [show rightT XR XC x PR PC p = false from (rightT_no (by unfold RightT; rintro ⟨h1, h2, h3, h4, h5, h6, h7⟩; first | omega | simp_all))]; exact nR) | (rw [show rightT n c x n n p = false from rightT_no (by unfold RightT; rintro ⟨h1, h2, h3, h4, h5, h6, h7⟩; exact sameM_false hc0 ((turned_iff hpl).2 (by simpa using h6)))]; exact nR))
          · try simp only [decide_eq_true_eq, decide_eq_false_iff_not, bne_iff_ne, beq_iff_eq, bne_eq_false_iff_eq, beq_eq_false_iff_ne, ne_eq, Bool.not_eq_true', Bool.not_eq_false'] at hb2_30
            obtain ⟨n, c, rfl, rfl, n0, n8, c0, c8, hxl, hxq⟩ := rightM_nat hb2_4
            obtain rfl : PR = (n : Int) := by omega
            obtain rfl : PC = (n : Int) := by omega
            obtain ⟨n2, c2, e1, e2, _, _, _, _, hpl, hpq⟩ := rightM_nat hb2_10
            obtain rfl : n = n2 := by omega
            obtain rfl : n = c2 := by omega
            have hsm := small_mul n8 n8
            refine RunV.gq rfl (o_fieldAddr rfl tk41 rfl ts24 rfl) rfl ?_
            refine RunV.gq rfl (o_load_agg rfl tk24 ts24 rfl rfl rfl nL) rfl ?_
            refine RunV.gq rfl (o_fieldAddr rfl tk41 rfl ts24 rfl) rfl ?_
            refine RunV.gq rfl (o_load_agg rfl tk24 ts24 rfl rfl rfl nL) rfl ?_
            refine RunV.gw rfl (o_call (no := 1) (nr := 2) rfl rfl rfl nC (by rfl) (by exact trans_ok n n n8 n8 p hpl f1 n0 n0) (by rfl) rfl rfl nV nE) nH ?_
            refine RunV.gq rfl (o_call (no := 2) (nr := 2) rfl rfl rfl nC (by rfl) (by exact msame_ok n n n n p (trL p n n) f1 false (by omega)) (by rfl) rfl rfl nV rfl) (by rfl) ?_
            refine RunV.gq rfl (o_not rfl) rfl ?_
            refine RunV.q (o_pick_f rfl rfl) rfl ?_
            refine And.intro (by kernel_rfl) ?_
            refine AW.cond rfl (fun hc0 => ?_) (fun hc0 => ?_)
            · try simp only [decide_eq_true_eq, decide_eq_false_iff_not, bne_iff_ne, beq_iff_eq, bne_eq_false_iff_eq, beq_eq_false_iff_ne, ne_eq, Bool.not_eq_true', Bool.not_eq_false'] at hc0
              refine AW.seq ?_
              refine AW.region (by kernel_rfl) ?_
              refine RunF.q (o_assign rfl) rfl ?_
              refine AW.ret ?_
              exact FinQ.ret [] [] (ress_tmp rfl ress_nil) rfl .nil (.cons rfl rfl nP (.cons rfl rfl nP .nil)) (by first | (rw [show rightT XR XC x PR PC p = false from (rightT_no (by unfold RightT; rintro ⟨h1, h2, h3, h4, h5, h6, h7⟩; first | omega | simp_all))]; exact nR) | (rw [show rightT n c x n n p = false from rightT_no (by unfold RightT; rintro ⟨h1, h2, h3, h4, h5, h6, h7⟩; exact sameM_false hc0 ((turned_iff hpl).2 (by simpa using h6)))]; exact nR))
            · try simp only [decide_eq_true_eq, decide_eq_false_iff_not, bne_iff_ne, beq_iff_eq, bne_eq_false_iff_eq, beq_eq_false_iff_ne, ne_eq, Bool.not_eq_true', Bool.not_eq_false'] at hc0
              refine AW.skip ?_
              refine AW.seq ?_
              refine AW.seq ?_
              refine AW.region (by kernel_rfl) ?_
              refine RunF.q (o_move rfl) rfl ?_
              refine RunF.q (o_move rfl) rfl ?_
              refine AW.block ?_
              refine AW.loop (α := {i : Nat // i ≤ n ∧ ∀ j, j < i → 0 ≤ p.getD (j * n + j) 0}) (fun y : {i : Nat // i ≤ n ∧ ∀ j, j < i → 0 ≤ p.getD (j * n + j) 0} => ([(1, .ptr (.o 0) 0), (3, .int .i64 n), (47, .int .i64 n), (48, .int .i64 y.1)], ⟨[ints x, ints p], [some [.int .i64 n, .int .i64 c, .sl (.r 0) 0 x.length 1 f0, .int .i64 n, .int .i64 n, .sl (.r 1) 0 p.length 1 f1], some (ints (trL p n n))]⟩)) (fun y => n - y.1) (fun y => ?_) ⟨0, by omega, fun j hj => absurd hj (by omega)⟩ ?_
              · obtain ⟨i, hx, hxs⟩ := y
                try dsimp only at hx hxs
                try dsimp only
                refine AW.seq ?_
                refine AW.region (by kernel_rfl) ?_
                refine RunF.q (o_lss rfl rfl) rfl ?_
                refine AW.seq ?_
                refine AW.cond rfl (fun hc1 => ?_) (fun hc1 => ?_)
                · try simp only [decide_eq_true_eq, decide_eq_false_iff_not, bne_iff_ne, beq_iff_eq, bne_eq_false_iff_eq, beq_eq_false_iff_ne, ne_eq, Bool.not_eq_true', Bool.not_eq_false'] at hc1
                  have hi : i < n := by omega
                  have h1 := idx_lt hi hi
                  have h3 : (i : Int) * (n : Int) = ((i * n : Nat) : Int) := by simp
                  have h4 : i * n ≤ 64 := by omega
                  refine AW.skip ?_
                  refine AW.seq ?_
                  refine AW.block ?_
                  refine AW.seq ?_
                  refine AW.region (by kernel_rfl) ?_
                  refine RunF.q (o_move rfl) rfl ?_
                  refine RunF.q (o_assign rfl) rfl ?_
                  refine AW.seq ?_
                  refine AW.region (by kernel_rfl) ?_
                  refine RunF.q (o_fieldAddr rfl tk41 rfl ts24 rfl) rfl ?_
                  refine RunF.q (o_fieldAddr rfl tk24 rfl ts22 rfl) rfl ?_
                  refine RunF.q (o_load rfl tk22 ts22 rfl rfl rfl) rfl ?_
                  refine RunF.q (o_move rfl) rfl ?_
                  refine RunF.q (o_move rfl) rfl ?_
                  refine RunF.q (o_mul rfl rfl ((i64_in _ (by rw [h3]; omega)).trans h3)) rfl ?_
                  refine RunF.q (o_move rfl) rfl ?_
                  refine RunF.q (o_add rfl rfl (by first | exact i64_in _ (by omega) | rfl)) rfl ?_
                  refine RunF.q (o_indexAddr (m := i * n + i) tk22 ts30 rfl rfl (by omega) (by omega)) rfl ?_
                  refine RunF.q (o_load rfl tk30 ts30 rfl rfl (ints_getD p _ (by omega))) rfl ?_
                  refine RunF.q (o_lss rfl rfl) rfl ?_
                  refine AW.cond rfl (fun hc2 => ?_) (fun hc2 => ?_)
                  · try simp only [decide_eq_true_eq, decide_eq_false_iff_not, bne_iff_ne, beq_iff_eq, bne_eq_false_iff_eq, beq_eq_false_iff_ne, ne_eq, Bool.not_eq_true', Bool.not_eq_false'] at hc2
                    refine AW.seq ?_
                    refine AW.region (by kernel_rfl) ?_
                    refine RunF.q (o_assign rfl) rfl ?_
                    refine AW.ret ?_
                    exact FinQ.ret [] [] (ress_tmp rfl ress_nil) rfl .nil (.cons rfl rfl nP (.cons rfl rfl nP .nil)) (by rw [show rightT n c x n n p = false from rightT_no (by unfold RightT; rintro ⟨h1, h2, h3, h4, h5, h6, h7⟩; have := h7 i (by simpa using hi); simp only [Int.toNat_natCast] at this; omega)]; exact nR)
                  · try simp only [decide_eq_true_eq, decide_eq_false_iff_not, bne_iff_ne, beq_iff_eq, bne_eq_false_iff_eq, beq_eq_false_iff_ne, ne_eq, Bool.not_eq_true', Bool.not_eq_false'] at hc2
                    refine AW.skip ?_
                    refine AW.region (by kernel_rfl) ?_
                    refine RunF.q (o_add rfl rfl (by first | exact i64_in _ (by omega) | rfl)) rfl ?_
                    refine RunF.q (o_move rfl) rfl ?_
                    exact ⟨⟨i + 1, by omega, upto_succ hxs (by omega)⟩, Wk.same rfl (.cons rfl (.cons rfl (.cons rfl (.cons rfl .nil)))), by dsimp only; omega⟩
                · try simp only [decide_eq_true_eq, decide_eq_false_iff_not, bne_iff_ne, beq_iff_eq, bne_eq_false_iff_eq, beq_eq_false_iff_ne, ne_eq, Bool.not_eq_true', Bool.not_eq_false'] at hc1
                  refine AW.exit ?_
                  refine AW.seq ?_
                  refine AW.region (by kernel_rfl) ?_
                  refine RunF.q (o_assign rfl) rfl ?_
                  refine AW.ret ?_
                  exact FinQ.ret [] [] (ress_tmp rfl ress_nil) rfl .nil (.cons rfl rfl nP (.cons rfl rfl nP .nil)) (by rw [show rightT n c x n n p = true from rightT_yes ⟨hb2_4, hb2_10, by omega, rfl, rfl, by simpa using (turned_iff hpl).1 (sameM_true hc0).2.2, by intro j hj; exact hxs j (by simp only [Int.toNat_natCast] at hj; omega)⟩]; exact nR)
              · exact Wk.same rfl (.cons rfl (.cons rfl (.cons rfl (.cons rfl .nil))))

set_option maxHeartbeats 1000000 in
theorem kgood_ok (n : Nat) (n0 : 0 < n) (n8 : n ≤ 8) (p : List Int) (hp : p.length = n * n) (f : Bool) (hQ : ∀ x ∈ p, inQ x) : SoundC Try.prog 38 [.agg [.int .i64 n, .int .i64 n, .sl (.r 0) 0 p.length 1 f]] ⟨[ints p], []⟩ { val := .agg [.int .i64 n, .int .i64 n, .sl (.o 0) 0 (goodL p n).length 1 false], newo := [ints (goodL p n)] } := by
  have hE := evenL_length p n
  have hsm := small_mul n8 n8
  refine SoundC.of (N := 40) Try.func38 rfl rfl rfl rfl ?_
  refine AW.seq ?_
  refine AW.region (by kernel_rfl) ?_
  refine RunF.w (o_box (nm := 0) rfl rfl rfl) nH ?_
  refine RunF.w (o_alloc (nm := 1) tz24 rfl) nH ?_
  refine AW.seq ?_
  refine AW.region (by kernel_rfl) ?_
  refine RunF.q (o_load_agg rfl tk24 ts24 rfl rfl rfl nL) rfl ?_
  refine RunF.w (o_call (no := 2) (nr := 1) rfl rfl rfl nC (by rfl) (by exact meven_ok n n8 n0 p hp f hQ) (by rfl) rfl rfl nV nE) nH ?_
  refine RunF.q (o_move rfl) rfl ?_
  refine RunF.q (o_extract rfl rfl) rfl ?_
  refine RunF.q (o_extract rfl rfl) rfl ?_
  refine RunF.q (o_extract rfl rfl) rfl ?_
  refine RunF.w (o_alloc (nm := 3) tz24 rfl) nH ?_
  refine RunF.wn (o_store rfl rfl rfl ts24 rfl rfl) nH ?_
  refine RunF.q (o_assign rfl) rfl ?_
  refine RunF.q (o_assign rfl) rfl ?_
  refine AW.seq ?_
  refine AW.seq ?_
  refine AW.region (by kernel_rfl) ?_
  refine RunF.q (o_fieldAddr rfl tk24 rfl ts3 rfl) rfl ?_
  refine RunF.q (o_load rfl tk3 ts3 rfl rfl rfl) rfl ?_
  refine RunF.q (o_move rfl) rfl ?_
  refine AW.block ?_
  refine AW.loop (α := {i : Nat // i ≤ n}) (fun x : {i : Nat // i ≤ n} => ([(2, .ptr (.o 1) 0), (3, .ptr (.o 3) 0), (14, .int .i64 n), (15, .int .i64 x.1)], ⟨[ints p], [some [.int .i64 n, .int .i64 n, .sl (.r 0) 0 p.length 1 f], some [.int .i64 0, .int .i64 0, .nilsl], some (ints (goodN (evenL p n) n x.1)), some [.int .i64 n, .int .i64 n, .sl (.o 2) 0 (evenL p n).length 1 false]]⟩)) (fun x => n - x.1) (fun x => ?_) ⟨0, by omega⟩ ?_
  · obtain ⟨i, hx⟩ := x
    try dsimp only at hx
    try dsimp only
    refine AW.seq ?_
    refine AW.region (by kernel_rfl) ?_
    refine RunF.q (o_lss rfl rfl) rfl ?_
    refine AW.seq ?_
    refine AW.cond rfl (fun hc0 => ?_) (fun hc0 => ?_)
    · try simp only [decide_eq_true_eq, decide_eq_false_iff_not, bne_iff_ne, beq_iff_eq, bne_eq_false_iff_eq, beq_eq_false_iff_ne, ne_eq, Bool.not_eq_true', Bool.not_eq_false'] at hc0
      have hi : i < n := by omega
      have h1 := idx_lt hi hi
      have h3 : (i : Int) * (n : Int) = ((i * n : Nat) : Int) := by simp
      have h4 : i * n ≤ 64 := by omega
      have hG := goodN_length (evenL p n) n i
      refine AW.skip ?_
      refine AW.seq ?_
      refine AW.block ?_
      refine AW.seq ?_
      refine AW.region (by kernel_rfl) ?_
      refine RunF.q (o_move rfl) rfl ?_
      refine RunF.q (o_assign rfl) rfl ?_
      refine AW.draws (by kernel_rfl) (by kernel_rfl) ?_
      refine RunV.q (o_fieldAddr rfl tk24 rfl ts22 rfl) rfl ?_
      refine RunV.q (o_load rfl tk22 ts22 rfl rfl rfl) rfl ?_
      refine RunV.q (o_move rfl) rfl ?_
      refine RunV.q (o_fieldAddr rfl tk24 rfl ts3 rfl) rfl ?_
      refine RunV.q (o_load rfl tk3 ts3 rfl rfl rfl) rfl ?_
      refine RunV.q (o_mul rfl rfl ((i64_in _ (by rw [h3]; omega)).trans h3)) rfl ?_
      refine RunV.q (o_move rfl) rfl ?_
      refine RunV.q (o_add rfl rfl (by first | exact i64_in _ (by omega) | rfl)) rfl ?_
      refine RunV.q (o_fieldAddr rfl tk24 rfl ts22 rfl) rfl ?_
      refine RunV.q (o_load rfl tk22 ts22 rfl rfl rfl) rfl ?_
      refine RunV.q (o_move rfl) rfl ?_
      refine RunV.q (o_fieldAddr rfl tk24 rfl ts3 rfl) rfl ?_
      refine RunV.q (o_load rfl tk3 ts3 rfl rfl rfl) rfl ?_
      refine RunV.q (o_mul rfl rfl ((i64_in _ (by rw [h3]; omega)).trans h3)) rfl ?_
      refine RunV.q (o_move rfl) rfl ?_
      refine RunV.q (o_add rfl rfl (by first | exact i64_in _ (by omega) | rfl)) rfl ?_
      refine RunV.q (o_indexAddr (m := i * n + i) tk22 ts30 rfl rfl (by omega) (by omega)) rfl ?_
      refine RunV.q (o_load rfl tk30 ts30 rfl rfl (ints_getD _ _ (by omega))) rfl ?_
      refine RunV.q (o_max rfl rfl rfl) rfl ?_
      refine RunV.q (o_indexAddr (m := i * n + i) tk22 ts30 rfl rfl (by omega) (by omega)) rfl ?_
      refine RunV.wn (o_store rfl rfl rfl ts30 rfl (store_int (by omega))) (by simp only [H.app, appO, patchAll, patch, List.map_cons, List.map_nil, List.append_nil, List.nil_append, List.cons_append, Option.map_some, Option.map_none, List.contains_cons, List.contains_nil, Nat.reduceAdd, Nat.reduceEqDiff, Nat.reduceBEq, Bool.or_false, Bool.false_eq_true, reduceIte, Nat.zero_add, ints_set]; rfl) ?_
      refine And.intro (by kernel_rfl) ?_
      refine AW.region (by kernel_rfl) ?_
      refine RunF.q (o_add rfl rfl (by first | exact i64_in _ (by omega) | rfl)) rfl ?_
      refine RunF.q (o_move rfl) rfl ?_
      exact ⟨⟨i + 1, by omega⟩, Wk.same rfl (.cons rfl (.cons rfl (.cons rfl (.cons rfl .nil)))), by dsimp only; omega⟩
    · try simp only [decide_eq_true_eq, decide_eq_false_iff_not, bne_iff_ne, beq_iff_eq, bne_eq_false_iff_eq, beq_eq_false_iff_ne, ne_eq, Bool.not_eq_true', Bool.not_eq_false'] at hc0
      obtain rfl : n = i := by omega
      refine AW.exit ?_
      refine AW.seq ?_
      refine AW.region (by kernel_rfl) ?_
      refine RunF.q (o_load_agg rfl tk24 ts24 rfl rfl rfl nL) rfl ?_
      refine RunF.wn (o_store rfl rfl rfl ts24 rfl rfl) nH ?_
      refine AW.ret ?_
      exact FinQ.ret [2] [] (ress_agg rfl tk24 ts24 rfl rfl rfl ress_nil) rfl (.some rfl rfl (PRN.flat (ints_flat _)) .nil) (.cons rfl rfl nP .nil) (by rw [← good_even_length p n]; exact nR)
  · exact Wk.same rfl (.cons rfl (.cons rfl (.cons rfl (.cons rfl .nil))))

end Go.Proofs.Ytnkijhpikeokfaa

/- Tracks, as the document says: which are right; a matrix of noughts; what is good. -/
namespace Go.Proofs.Ytnkijhpikeokfaa
open Go Go.Sym Go.IntWalk

theorem r5_lower {p : List Int} {n : Nat} (h : ∀ j, j < n → ∀ k, k < j → p.getD (j * n + k) 0 = p.getD (k * n + j) 0) : ∀ i k, i < n → k < n → p.getD (i * n + k) 0 = p.getD (k * n + i) 0 := by
  intro i k hi hk
  rcases Nat.lt_trichotomy i k with h1 | rfl | h1
  · exact (h k hk i h1).symm
  · rfl
  · exact h i hi k h1

set_option maxHeartbeats 1000000 in
theorem r5right_ok (XR XC PR PC : Int) (x p : List Int) (f0 f1 : Bool) : SoundC Try.prog 40 [.agg [.int .i64 XR, .int .i64 XC, .sl (.r 0) 0 x.length 1 f0, .int .i64 PR, .int .i64 PC, .sl (.r 1) 0 p.length 1 f1]] ⟨[ints x, ints p], []⟩ { val := .bool (rightT XR XC x PR PC p) } := by
  refine SoundC.of (N := 85) Try.func40 rfl rfl rfl rfl ?_
  refine AW.seq ?_
  refine AW.region (by kernel_rfl) ?_
  refine RunF.w (o_box (nm := 0) rfl rfl rfl) nH ?_
  refine RunF.q (o_assign rfl) rfl ?_
  refine AW.seq ?_
  refine AW.region (by kernel_rfl) ?_
  refine RunF.q (o_fieldAddr rfl tk41 rfl ts24 rfl) rfl ?_
  refine RunF.q (o_load_agg rfl tk24 ts24 rfl rfl rfl nL) rfl ?_
  refine RunF.q (o_call (no := 1) (nr := 2) rfl rfl rfl nC (by rfl) (by exact rright_ok XR XC x f0) (by rfl) rfl rfl nV rfl) (by rfl) ?_
  refine RunF.q (o_assign rfl) rfl ?_
  refine AW.seq ?_
  refine AW.region (by kernel_rfl) ?_
  refine RunF.q (o_fieldAddr rfl tk41 rfl ts24 rfl) rfl ?_
  refine RunF.q (o_load_agg rfl tk24 ts24 rfl rfl rfl nL) rfl ?_
  refine RunF.q (o_call (no := 1) (nr := 2) rfl rfl rfl nC (by rfl) (by exact rright_ok PR PC p f1) (by rfl) rfl rfl nV rfl) (by rfl) ?_
  refine RunF.q (o_assign rfl) rfl ?_
  refine AW.seq ?_
  refine AW.region (by kernel_rfl) ?_
  refine RunF.q (o_fieldAddr rfl tk41 rfl ts24 rfl) rfl ?_
  refine RunF.q (o_fieldAddr rfl tk24 rfl ts3 rfl) rfl ?_
  refine RunF.q (o_load rfl tk3 ts3 rfl rfl rfl) rfl ?_
  refine RunF.q (o_assign rfl) rfl ?_
  refine AW.seq ?_
  refine AW.seq ?_
  refine AW.region (by kernel_rfl) ?_
  refine RunF.q (o_move rfl) rfl ?_
  refine RunF.q (o_not rfl) rfl ?_
  refine RunF.br (o_move rfl) rfl (fun hb4_2 => ?_) (fun hb4_2 => ?_)
  · try simp only [decide_eq_true_eq, decide_eq_false_iff_not, bne_iff_ne, beq_iff_eq, bne_eq_false_iff_eq, beq_eq_false_iff_ne, ne_eq, Bool.not_eq_true', Bool.not_eq_false'] at hb4_2
    refine RunF.gs (b := true) rfl rfl ?_
    refine RunF.gs (b := true) rfl rfl ?_
    refine RunF.q (o_pick_t rfl rfl) rfl ?_
    refine RunF.q (o_move rfl) rfl ?_
    refine RunF.gs (b := true) rfl rfl ?_
    refine RunF.gs (b := true) rfl rfl ?_
    refine RunF.gs (b := true) rfl rfl ?_
    refine RunF.gs (b := true) rfl rfl ?_
    refine RunF.q (o_pick_t rfl rfl) rfl ?_
    refine RunF.q (o_move rfl) rfl ?_
    refine RunF.gs (b := true) rfl rfl ?_
    refine RunF.gs (b := true) rfl rfl ?_
    refine RunF.gs (b := true) rfl rfl ?_
    refine RunF.gs (b := true) rfl rfl ?_
    refine RunF.gs (b := true) rfl rfl ?_
    refine RunF.q (o_pick_t rfl rfl) rfl ?_
    refine RunF.q (o_move rfl) rfl ?_
    refine RunF.gs (b := true) rfl rfl ?_
    refine RunF.gs (b := true) rfl rfl ?_
    refine RunF.gs (b := true) rfl rfl ?_
    refine RunF.gs (b := true) rfl rfl ?_
    refine RunF.gs (b := true) rfl rfl ?_
    refine RunF.q (o_pick_t rfl rfl) rfl ?_
    refine AW.cond rfl (fun hc0 => ?_) (fun hc0 => absurd hc0 (by simp))
    refine AW.seq ?_
    refine AW.region (by kernel_rfl) ?_
    refine RunF.q (o_assign rfl) rfl ?_
    refine AW.ret ?_
    exact FinQ.ret [] [] (ress_tmp rfl ress_nil) rfl .nil (.cons rfl rfl nP (.cons rfl rfl nP .nil)) (by rw [show rightT XR XC x PR PC p = false from (rightT_no (by unfold RightT; rintro ⟨h1, h2, h3, h4, h5, h6, h7⟩; first | omega | simp_all))]; exact nR)
  · try simp only [decide_eq_true_eq, decide_eq_false_iff_not, bne_iff_ne, beq_iff_eq, bne_eq_false_iff_eq, beq_eq_false_iff_ne, ne_eq, Bool.not_eq_true', Bool.not_eq_false'] at hb4_2
    refine RunF.gq rfl (o_move rfl) rfl ?_
    refine RunF.gq rfl (o_not rfl) rfl ?_
    refine RunF.q (o_pick_f rfl rfl) rfl ?_
    refine RunF.br (o_move rfl) rfl (fun hb4_6 => ?_) (fun hb4_6 => ?_)
    · try simp only [decide_eq_true_eq, decide_eq_false_iff_not, bne_iff_ne, beq_iff_eq, bne_eq_false_iff_eq, beq_eq_false_iff_ne, ne_eq, Bool.not_eq_true', Bool.not_eq_false'] at hb4_6
      refine RunF.gs (b := true) rfl rfl ?_
      refine RunF.gs (b := true) rfl rfl ?_
      refine RunF.gs (b := true) rfl rfl ?_
      refine RunF.gs (b := true) rfl rfl ?_
      refine RunF.q (o_pick_t rfl rfl) rfl ?_
      refine RunF.q (o_move rfl) rfl ?_
      refine RunF.gs (b := true) rfl rfl ?_
      refine RunF.gs (b := true) rfl rfl ?_
      refine RunF.gs (b := true) rfl rfl ?_
      refine RunF.gs (b := true) rfl rfl ?_
      refine RunF.gs (b := true) rfl rfl ?_
      refine RunF.q (o_pick_t rfl rfl) rfl ?_
      refine RunF.q (o_move rfl) rfl ?_
      refine RunF.gs (b := true) rfl rfl ?_
      refine RunF.gs (b := true) rfl rfl ?_
      refine RunF.gs (b := true) rfl rfl ?_
      refine RunF.gs (b := true) rfl rfl ?_
      refine RunF.gs (b := true) rfl rfl ?_
      refine RunF.q (o_pick_t rfl rfl) rfl ?_
      refine AW.cond rfl (fun hc0 => ?_) (fun hc0 => absurd hc0 (by simp))
      refine AW.seq ?_
      refine AW.region (by kernel_rfl) ?_
      refine RunF.q (o_assign rfl) rfl ?_
      refine AW.ret ?_
      exact FinQ.ret [] [] (ress_tmp rfl ress_nil) rfl .nil (.cons rfl rfl nP (.cons rfl rfl nP .nil)) (by rw [show rightT XR XC x PR PC p = false from (rightT_no (by unfold RightT; rintro ⟨h1, h2, h3, h4, h5, h6, h7⟩; first | omega | simp_all))]; exact nR)
    · try simp only [decide_eq_true_eq, decide_eq_false_iff_not, bne_iff_ne, beq_iff_eq, bne_eq_false_iff_eq, beq_eq_false_iff_ne, ne_eq, Bool.not_eq_true', Bool.not_eq_false'] at hb4_6
      refine RunF.gq rfl (o_fieldAddr rfl tk41 rfl ts24 rfl) rfl ?_
      refine RunF.gq rfl (o_fieldAddr rfl tk24 rfl ts3 rfl) rfl ?_
      refine RunF.gq rfl (o_load rfl tk3 ts3 rfl rfl rfl) rfl ?_
      refine RunF.gq rfl (o_neq rfl rfl) rfl ?_
      refine RunF.q (o_pick_f rfl rfl) rfl ?_
      refine RunF.br (o_move rfl) rfl (fun hb4_12 => ?_) (fun hb4_12 => ?_)
      · try simp only [decide_eq_true_eq, decide_eq_false_iff_not, bne_iff_ne, beq_iff_eq, bne_eq_false_iff_eq, beq_eq_false_iff_ne, ne_eq, Bool.not_eq_true', Bool.not_eq_false'] at hb4_12
        refine RunF.gs (b := true) rfl rfl ?_
        refine RunF.gs (b := true) rfl rfl ?_
        refine RunF.gs (b := true) rfl rfl ?_
        refine RunF.gs (b := true) rfl rfl ?_
        refine RunF.gs (b := true) rfl rfl ?_
        refine RunF.q (o_pick_t rfl rfl) rfl ?_
        refine RunF.q (o_move rfl) rfl ?_
        refine RunF.gs (b := true) rfl rfl ?_
        refine RunF.gs (b := true) rfl rfl ?_
        refine RunF.gs (b := true) rfl rfl ?_
        refine RunF.gs (b := true) rfl rfl ?_
        refine RunF.gs (b := true) rfl rfl ?_
        refine RunF.q (o_pick_t rfl rfl) rfl ?_
        refine AW.cond rfl (fun hc0 => ?_) (fun hc0 => absurd hc0 (by simp))
        refine AW.seq ?_
        refine AW.region (by kernel_rfl) ?_
        refine RunF.q (o_assign rfl) rfl ?_
        refine AW.ret ?_
        exact FinQ.ret [] [] (ress_tmp rfl ress_nil) rfl .nil (.cons rfl rfl nP (.cons rfl rfl nP .nil)) (by rw [show rightT XR XC x PR PC p = false from (rightT_no (by unfold RightT; rintro ⟨h1, h2, h3, h4, h5, h6, h7⟩; first | omega | simp_all))]; exact nR)
      · try simp only [decide_eq_true_eq, decide_eq_false_iff_not, bne_iff_ne, beq_iff_eq, bne_eq_false_iff_eq, beq_eq_false_iff_ne, ne_eq, Bool.not_eq_true', Bool.not_eq_false'] at hb4_12
        refine RunF.gq rfl (o_fieldAddr rfl tk41 rfl ts24 rfl) rfl ?_
        refine RunF.gq rfl (o_fieldAddr rfl tk24 rfl ts3 rfl) rfl ?_
        refine RunF.gq rfl (o_load rfl tk3 ts3 rfl rfl rfl) rfl ?_
        refine RunF.gq rfl (o_move rfl) rfl ?_
        refine RunF.gq rfl (o_neq rfl rfl) rfl ?_
        refine RunF.q (o_pick_f rfl rfl) rfl ?_
        refine RunF.br (o_move rfl) rfl (fun hb4_19 => ?_) (fun hb4_19 => ?_)
        · try simp only [decide_eq_true_eq, decide_eq_false_iff_not, bne_iff_ne, beq_iff_eq, bne_eq_false_iff_eq, beq_eq_false_iff_ne, ne_eq, Bool.not_eq_true', Bool.not_eq_false'] at hb4_19
          refine RunF.gs (b := true) rfl rfl ?_
          refine RunF.gs (b := true) rfl rfl ?_
          refine RunF.gs (b := true) rfl rfl ?_
          refine RunF.gs (b := true) rfl rfl ?_
          refine RunF.gs (b := true) rfl rfl ?_
          refine RunF.q (o_pick_t rfl rfl) rfl ?_
          refine AW.cond rfl (fun hc0 => ?_) (fun hc0 => absurd hc0 (by simp))
          refine AW.seq ?_
          refine AW.region (by kernel_rfl) ?_
          refine RunF.q (o_assign rfl) rfl ?_
          refine AW.ret ?_
          exact FinQ.ret [] [] (ress_tmp rfl ress_nil) rfl .nil (.cons rfl rfl nP (.cons rfl rfl nP .nil)) (by rw [show rightT XR XC x PR PC p = false from (rightT_no (by unfold RightT; rintro ⟨h1, h2, h3, h4, h5, h6, h7⟩; first | omega | simp_all))]; exact nR)
        · try simp only [decide_eq_true_eq, decide_eq_false_iff_not, bne_iff_ne, beq_iff_eq, bne_eq_false_iff_eq, beq_eq_false_iff_ne, ne_eq, Bool.not_eq_true', Bool.not_eq_false'] at hb4_19
          refine RunF.gq rfl (o_fieldAddr rfl tk41 rfl ts24 rfl) rfl ?_
          refine RunF.gq rfl (o_fieldAddr rfl tk24 rfl ts3 rfl) rfl ?_
          refine RunF.gq rfl (o_load rfl tk3 ts3 rfl rfl rfl) rfl ?_
          refine RunF.gq rfl (o_move rfl) rfl ?_
          refine RunF.gq rfl (o_neq rfl rfl) rfl ?_
          refine RunF.q (o_pick_f rfl rfl) rfl ?_
          refine AW.cond rfl (fun hc0 => ?_) (fun hc0 => ?_)
          · try simp only [decide_eq_true_eq, decide_eq_false_iff_not, bne_iff_ne, beq_iff_eq, bne_eq_false_iff_eq, beq_eq_false_iff_ne, ne_eq, Bool.not_eq_true', Bool.not_eq_false'] at hc0
            refine AW.seq ?_
            refine AW.region (by kernel_rfl) ?_
            refine RunF.q (o_assign rfl) rfl ?_
            refine AW.ret ?_
            exact FinQ.ret [] [] (ress_tmp rfl ress_nil) rfl .nil (.cons rfl rfl nP (.cons rfl rfl nP .nil)) (by rw [show rightT XR XC x PR PC p = false from (rightT_no (by unfold RightT; rintro ⟨h1, h2, h3, h4, h5, h6, h7⟩; first | omega | simp_all))]; exact nR)
          · try simp only [decide_eq_true_eq, decide_eq_false_iff_not, bne_iff_ne, beq_iff_eq, bne_eq_false_iff_eq, beq_eq_false_iff_ne, ne_eq, Bool.not_eq_true', Bool.not_eq_false'] at hc0
            obtain ⟨n, c, rfl, rfl, n0, n8, c0, c8, hxl, hxq⟩ := rightM_nat hb4_2
            obtain rfl : PR = (n : Int) := by omega
            obtain rfl : PC = (n : Int) := by omega
            obtain ⟨n2, c2, e1, e2, _, _, _, _, hpl, hpq⟩ := rightM_nat hb4_6
            obtain rfl : n = n2 := by omega
            obtain rfl : n = c2 := by omega
            have hsm := small_mul n8 n8
            refine AW.skip ?_
            refine AW.seq ?_
            refine AW.seq ?_
            refine AW.region (by kernel_rfl) ?_
            refine RunF.q (o_assign rfl) rfl ?_
            refine AW.block ?_
            refine AW.loop (α := {i : Nat // i ≤ n ∧ (∀ j, j < i → 0 ≤ p.getD (j * n + j) 0) ∧ ∀ j, j < i → ∀ k, k < j → p.getD (j * n + k) 0 = p.getD (k * n + j) 0}) (fun y : {i : Nat // i ≤ n ∧ (∀ j, j < i → 0 ≤ p.getD (j * n + j) 0) ∧ ∀ j, j < i → ∀ k, k < j → p.getD (j * n + k) 0 = p.getD (k * n + j) 0} => ([(1, .ptr (.o 0) 0), (5, .int .i64 n), (6, .int .i64 y.1)], ⟨[ints x, ints p], [some [.int .i64 n, .int .i64 c, .sl (.r 0) 0 x.length 1 f0, .int .i64 n, .int .i64 n, .sl (.r 1) 0 p.length 1 f1]]⟩)) (fun y => n - y.1) (fun y => ?_) ⟨0, by omega, fun j hj => absurd hj (by omega), fun j hj => absurd hj (by omega)⟩ ?_
            · obtain ⟨i, hx, hxs, hxt⟩ := y
              try dsimp only at hx hxs hxt
              try dsimp only
              refine AW.seq ?_
              refine AW.seq ?_
              refine AW.region (by kernel_rfl) ?_
              refine RunF.q (o_move rfl) rfl ?_
              refine RunF.q (o_move rfl) rfl ?_
              refine RunF.q (o_lss rfl rfl) rfl ?_
              refine AW.cond rfl (fun hc1 => ?_) (fun hc1 => ?_)
              · try simp only [decide_eq_true_eq, decide_eq_false_iff_not, bne_iff_ne, beq_iff_eq, bne_eq_false_iff_eq, beq_eq_false_iff_ne, ne_eq, Bool.not_eq_true', Bool.not_eq_false'] at hc1
                have hi : i < n := by omega
                have h1 := idx_lt hi hi
                have h3 : (i : Int) * (n : Int) = ((i * n : Nat) : Int) := by simp
                have h4 : i * n ≤ 64 := by omega
                refine AW.skip ?_
                refine AW.seq ?_
                refine AW.block ?_
                refine AW.seq ?_
                refine AW.seq ?_
                refine AW.region (by kernel_rfl) ?_
                refine RunF.q (o_fieldAddr rfl tk41 rfl ts24 rfl) rfl ?_
                refine RunF.q (o_fieldAddr rfl tk24 rfl ts22 rfl) rfl ?_
                refine RunF.q (o_load rfl tk22 ts22 rfl rfl rfl) rfl ?_
                refine RunF.q (o_move rfl) rfl ?_
                refine RunF.q (o_move rfl) rfl ?_
                refine RunF.q (o_mul rfl rfl ((i64_in _ (by rw [h3]; omega)).trans h3)) rfl ?_
                refine RunF.q (o_move rfl) rfl ?_
                refine RunF.q (o_add rfl rfl (by first | exact i64_in _ (by omega) | rfl)) rfl ?_
                refine RunF.q (o_indexAddr (m := i * n + i) tk22 ts30 rfl rfl (by omega) (by omega)) rfl ?_
                refine RunF.q (o_load rfl tk30 ts30 rfl rfl (ints_getD p _ (by omega))) rfl ?_
                refine RunF.q (o_lss rfl rfl) rfl ?_
                refine AW.cond rfl (fun hc2 => ?_) (fun hc2 => ?_)
                · try simp only [decide_eq_true_eq, decide_eq_false_iff_not, bne_iff_ne, beq_iff_eq, bne_eq_false_iff_eq, beq_eq_false_iff_ne, ne_eq, Bool.not_eq_true', Bool.not_eq_false'] at hc2
                  refine AW.seq ?_
                  refine AW.region (by kernel_rfl) ?_
                  refine RunF.q (o_assign rfl) rfl ?_
                  refine AW.ret ?_
                  exact FinQ.ret [] [] (ress_tmp rfl ress_nil) rfl .nil (.cons rfl rfl nP (.cons rfl rfl nP .nil)) (by rw [show rightT n c x n n p = false from rightT_no (by unfold RightT; rintro ⟨h1, h2, h3, h4, h5, h6, h7⟩; have := h7 i (by simpa using hi); simp only [Int.toNat_natCast] at this; omega)]; exact nR)
                · try simp only [decide_eq_true_eq, decide_eq_false_iff_not, bne_iff_ne, beq_iff_eq, bne_eq_false_iff_eq, beq_eq_false_iff_ne, ne_eq, Bool.not_eq_true', Bool.not_eq_false'] at hc2
                  refine AW.skip ?_
                  refine AW.seq ?_
                  refine AW.region (by kernel_rfl) ?_
                  refine RunF.q (o_assign rfl) rfl ?_
                  refine AW.block ?_
                  refine AW.loop (α := {k : Nat // k ≤ i ∧ ∀ j, j < k → p.getD (i * n + j) 0 = p.getD (j * n + i) 0}) (fun y : {k : Nat // k ≤ i ∧ ∀ j, j < k → p.getD (i * n + j) 0 = p.getD (j * n + i) 0} => ([(1, .ptr (.o 0) 0), (5, .int .i64 n), (6, .int .i64 i), (7, .int .i64 y.1)], ⟨[ints x, ints p], [some [.int .i64 n, .int .i64 c, .sl (.r 0) 0 x.length 1 f0, .int .i64 n, .int .i64 n, .sl (.r 1) 0 p.length 1 f1]]⟩)) (fun y => i - y.1) (fun y => ?_) ⟨0, by omega, fun j hj => absurd hj (by omega)⟩ ?_
                  · obtain ⟨k, hy, hys⟩ := y
                    try dsimp only at hy hys
                    try dsimp only
                    refine AW.seq ?_
                    refine AW.seq ?_
                    refine AW.region (by kernel_rfl) ?_
                    refine RunF.q (o_move rfl) rfl ?_
                    refine RunF.q (o_move rfl) rfl ?_
                    refine RunF.q (o_lss rfl rfl) rfl ?_
                    refine AW.cond rfl (fun hc3 => ?_) (fun hc3 => ?_)
                    · try simp only [decide_eq_true_eq, decide_eq_false_iff_not, bne_iff_ne, beq_iff_eq, bne_eq_false_iff_eq, beq_eq_false_iff_ne, ne_eq, Bool.not_eq_true', Bool.not_eq_false'] at hc3
                      have hk : k < i := by omega
                      have g1 := idx_lt hi (show k < n by omega)
                      have g2 := idx_lt (show k < n by omega) hi
                      have g3 : (k : Int) * (n : Int) = ((k * n : Nat) : Int) := by simp
                      have g4 : k * n ≤ 64 := by omega
                      refine AW.skip ?_
                      refine AW.seq ?_
                      refine AW.block ?_
                      refine AW.seq ?_
                      refine AW.draws (by kernel_rfl) (by kernel_rfl) ?_
                      refine RunV.q (o_fieldAddr rfl tk41 rfl ts24 rfl) rfl ?_
                      refine RunV.q (o_fieldAddr rfl tk24 rfl ts22 rfl) rfl ?_
                      refine RunV.q (o_load rfl tk22 ts22 rfl rfl rfl) rfl ?_
                      refine RunV.q (o_move rfl) rfl ?_
                      refine RunV.q (o_move rfl) rfl ?_
                      refine RunV.q (o_mul rfl rfl ((i64_in _ (by rw [h3]; omega)).trans h3)) rfl ?_
                      refine RunV.q (o_move rfl) rfl ?_
                      refine RunV.q (o_add rfl rfl (by first | exact i64_in _ (by omega) | rfl)) rfl ?_
                      refine RunV.q (o_indexAddr (m := i * n + k) tk22 ts30 rfl rfl (by omega) (by omega)) rfl ?_
                      refine RunV.q (o_load rfl tk30 ts30 rfl rfl (ints_getD p _ (by omega))) rfl ?_
                      refine RunV.q (o_fieldAddr rfl tk41 rfl ts24 rfl) rfl ?_
                      refine RunV.q (o_fieldAddr rfl tk24 rfl ts22 rfl) rfl ?_
                      refine RunV.q (o_load rfl tk22 ts22 rfl rfl rfl) rfl ?_
                      refine RunV.q (o_move rfl) rfl ?_
                      refine RunV.q (o_move rfl) rfl ?_
                      refine RunV.q (o_mul rfl rfl ((i64_in _ (by rw [g3]; omega)).trans g3)) rfl ?_
                      refine RunV.q (o_move rfl) rfl ?_
                      refine RunV.q (o_add rfl rfl (by first | exact i64_in _ (by omega) | rfl)) rfl ?_
                      refine RunV.q (o_indexAddr (m := k * n + i) tk22 ts30 rfl rfl (by omega) (by omega)) rfl ?_
                      refine RunV.q (o_load rfl tk30 ts30 rfl rfl (ints_getD p _ (by omega))) rfl ?_
                      refine RunV.q (o_neq rfl rfl) rfl ?_
                      refine And.intro (by kernel_rfl) ?_
                      refine AW.cond rfl (fun hc4 => ?_) (fun hc4 => ?_)
                      · try simp only [decide_eq_true_eq, decide_eq_false_iff_not, bne_iff_ne, beq_iff_eq, bne_eq_false_iff_eq, beq_eq_false_iff_ne, ne_eq, Bool.not_eq_true', Bool.not_eq_false'] at hc4
                        refine AW.seq ?_
                        refine AW.region (by kernel_rfl) ?_
                        refine RunF.q (o_assign rfl) rfl ?_
                        refine AW.ret ?_
                        exact FinQ.ret [] [] (ress_tmp rfl ress_nil) rfl .nil (.cons rfl rfl nP (.cons rfl rfl nP .nil)) (by rw [show rightT n c x n n p = false from rightT_no (by unfold RightT; rintro ⟨h1, h2, h3, h4, h5, h6, h7⟩; exact hc4 (by simpa using h6 i k (by simpa using hi) (by simp; omega)))]; exact nR)
                      · try simp only [decide_eq_true_eq, decide_eq_false_iff_not, bne_iff_ne, beq_iff_eq, bne_eq_false_iff_eq, beq_eq_false_iff_ne, ne_eq, Bool.not_eq_true', Bool.not_eq_false'] at hc4
                        refine AW.skip ?_
                        refine AW.region (by kernel_rfl) ?_
                        refine RunF.q (o_move rfl) rfl ?_
                        refine RunF.q (o_add rfl rfl (by first | exact i64_in _ (by omega) | rfl)) rfl ?_
                        refine RunF.q (o_assign rfl) rfl ?_
                        exact ⟨⟨k + 1, by omega, upto_succ hys hc4⟩, Wk.same rfl (.cons rfl (.cons rfl (.cons rfl (.cons rfl .nil)))), by dsimp only; omega⟩
                    · try simp only [decide_eq_true_eq, decide_eq_false_iff_not, bne_iff_ne, beq_iff_eq, bne_eq_false_iff_eq, beq_eq_false_iff_ne, ne_eq, Bool.not_eq_true', Bool.not_eq_false'] at hc3
                      obtain rfl : i = k := by omega
                      refine AW.exit ?_
                      refine AW.region (by kernel_rfl) ?_
                      refine RunF.q (o_move rfl) rfl ?_
                      refine RunF.q (o_add rfl rfl (by first | exact i64_in _ (by omega) | rfl)) rfl ?_
                      refine RunF.q (o_assign rfl) rfl ?_
                      exact ⟨⟨i + 1, by omega, upto_succ hxs (by omega), upto_succ hxt hys⟩, Wk.same rfl (.cons rfl (.cons rfl (.cons rfl .nil))), by dsimp only; omega⟩
                  · exact Wk.same rfl (.cons rfl (.cons rfl (.cons rfl (.cons rfl .nil))))
              · try simp only [decide_eq_true_eq, decide_eq_false_iff_not, bne_iff_ne, beq_iff_eq, bne_eq_false_iff_eq, beq_eq_false_iff_ne, ne_eq, Bool.not_eq_true', Bool.not_eq_false'] at hc1
                refine AW.exit ?_
                refine AW.seq ?_
                refine AW.region (by kernel_rfl) ?_
                refine RunF.q (o_assign rfl) rfl ?_
                refine AW.ret ?_
                exact FinQ.ret [] [] (ress_tmp rfl ress_nil) rfl .nil (.cons rfl rfl nP (.cons rfl rfl nP .nil)) (by rw [show rightT n c x n n p = true from rightT_yes ⟨hb4_2, hb4_6, by omega, rfl, rfl, by simpa using r5_lower (fun j hj => hxt j (by omega)), by intro j hj; exact hxs j (by simp only [Int.toNat_natCast] at hj; omega)⟩]; exact nR)
            · exact Wk.same rfl (.cons rfl (.cons rfl (.cons rfl .nil)))

set_option maxHeartbeats 1000000 in
theorem rnone_ok (r c : Nat) (hr : r ≤ 8) (hc : c ≤ 8) (hR : 0 < r) (hC : 0 < c) : SoundC Try.prog 39 [.int .i64 r, .int .i64 c] ⟨[], []⟩ { val := .agg [.int .i64 r, .int .i64 c, .sl (.o 0) 0 (List.replicate (r * c) (0 : Int)).length 1 false], newo := [ints (List.replicate (r * c) (0 : Int))] } := by
  have hsm := small_mul hr hc
  have h3 : (r : Int) * (c : Int) = ((r * c : Nat) : Int) := by simp
  refine SoundC.of (N := 21) Try.func39 rfl rfl rfl rfl ?_
  refine AW.seq ?_
  refine AW.region (by kernel_rfl) ?_
  refine RunF.w (o_alloc (nm := 0) tz24 rfl) rfl ?_
  refine AW.seq ?_
  refine AW.region (by kernel_rfl) ?_
  refine RunF.q (o_assign rfl) rfl ?_
  refine AW.seq ?_
  refine AW.seq ?_
  refine AW.region (by kernel_rfl) ?_
  refine RunF.q (o_assign rfl) rfl ?_
  refine AW.block ?_
  refine AW.loop (α := {x : Nat × List Int // x.1 ≤ r * c ∧ x.2 = List.replicate x.1 0}) (fun x : {x : Nat × List Int // x.1 ≤ r * c ∧ x.2 = List.replicate x.1 0} => ([(0, .int .i64 r), (1, .int .i64 c), (4, .ptr (.o 0) 0), (5, slOf 1 x.1.2), (6, .int .i64 x.1.1)], ⟨[], [some [.int .i64 0, .int .i64 0, .nilsl], rowOf x.1.2]⟩)) (fun x => r * c - x.1.1) (fun x => ?_) ⟨(0, []), by simp, rfl⟩ ?_
  · obtain ⟨⟨t, L0⟩, hx1, hx2⟩ := x
    dsimp only at hx1 hx2
    dsimp only
    refine AW.seq ?_
    refine AW.seq ?_
    refine AW.region (by kernel_rfl) ?_
    refine RunF.q (o_move rfl) rfl ?_
    refine RunF.q (o_move rfl) rfl ?_
    refine RunF.q (o_move rfl) rfl ?_
    refine RunF.q (o_mul rfl rfl ((i64_in _ (by rw [h3]; omega)).trans h3)) rfl ?_
    refine RunF.q (o_lss rfl rfl) rfl ?_
    refine AW.cond rfl (fun hc0 => ?_) (fun hc0 => ?_)
    · try simp only [decide_eq_true_eq, decide_eq_false_iff_not, bne_iff_ne, beq_iff_eq, bne_eq_false_iff_eq, beq_eq_false_iff_ne, ne_eq, Bool.not_eq_true', Bool.not_eq_false'] at hc0
      have hlen : L0.length ≤ 64 := by rw [hx2]; simp; omega
      rcases L0 with _ | ⟨a, l⟩
      · refine AW.skip ?_
        refine AW.seq ?_
        refine AW.block ?_
        refine AW.region (by kernel_rfl) ?_
        refine RunF.q (o_move rfl) rfl ?_
        refine RunF.w (o_buildSlice (nm := 2) tk22 ts30 tz30 rfl rfl rfl rfl) rfl ?_
        refine RunF.w (o_append_nil (nm := 3) tk22 tk22 ts30 tb30 tz30 rfl rfl rfl rfl ⟨by decide, Nat.le_refl 1, by decide, by decide⟩ rfl rfl rfl) rfl ?_
        refine RunF.q (o_assign rfl) rfl ?_
        refine AW.region (by kernel_rfl) ?_
        refine RunF.q (o_move rfl) rfl ?_
        refine RunF.q (o_add rfl rfl (by first | exact i64_in _ (by omega) | rfl)) rfl ?_
        refine RunF.q (o_assign rfl) rfl ?_
        exact ⟨⟨(t + 1, ([] : List Int) ++ [0]), by dsimp only; omega, by dsimp only; rw [List.replicate_succ', ← hx2]⟩, Wk.of [0, 3] [] rfl (.some rfl rfl nP (.some rfl rfl nP .nil)) .nil (.cons rfl (.self rfl) (.cons rfl (.self rfl) (.cons rfl (.ptr rfl) (.cons rfl (.sl rfl) (.cons rfl (.self rfl) .nil))))), by dsimp only; omega⟩
      · refine AW.skip ?_
        refine AW.seq ?_
        refine AW.block ?_
        refine AW.region (by kernel_rfl) ?_
        refine RunF.q (o_move rfl) rfl ?_
        refine RunF.w (o_buildSlice (nm := 2) tk22 ts30 tz30 rfl rfl rfl rfl) rfl ?_
        refine RunF.w (o_append_own (nm := 3) (mn := ((a :: l) ++ [0]).length) tk22 tk22 ts30 tb30 tz30 rfl rfl rfl rfl rfl ⟨by decide, Nat.le_refl 1, by simp, by simp only [List.length_cons] at hlen ⊢; omega, by simp only [List.length_cons] at hlen ⊢; omega⟩ rfl (ints_all (a :: l)) rfl rfl (by simp)) rfl ?_
        refine RunF.q (o_assign rfl) rfl ?_
        refine AW.region (by kernel_rfl) ?_
        refine RunF.q (o_move rfl) rfl ?_
        refine RunF.q (o_add rfl rfl (by first | exact i64_in _ (by omega) | rfl)) rfl ?_
        refine RunF.q (o_assign rfl) rfl ?_
        exact ⟨⟨(t + 1, (a :: l) ++ [0]), by dsimp only; omega, by dsimp only; rw [List.replicate_succ', ← hx2]⟩, Wk.of [0, 3] [] rfl (.some rfl rfl nP (.some rfl rfl (PRN.snoc (a :: l) 0) .nil)) .nil (.cons rfl (.self rfl) (.cons rfl (.self rfl) (.cons rfl (.ptr rfl) (.cons rfl (.sl rfl) (.cons rfl (.self rfl) .nil))))), by dsimp only; omega⟩
    · try simp only [decide_eq_true_eq, decide_eq_false_iff_not, bne_iff_ne, beq_iff_eq, bne_eq_false_iff_eq, beq_eq_false_iff_ne, ne_eq, Bool.not_eq_true', Bool.not_eq_false'] at hc0
      have et : t = r * c := by omega
      subst et
      obtain ⟨a, l, rfl⟩ : ∃ a l, L0 = a :: l := by
        cases L0 with
        | nil => have := congrArg List.length hx2; have := Nat.mul_pos hR hC; simp at *; omega
        | cons a l => exact ⟨a, l, rfl⟩
      refine AW.exit ?_
      refine AW.seq ?_
      refine AW.region (by kernel_rfl) ?_
      refine RunF.q (o_move rfl) rfl ?_
      refine RunF.q (o_move rfl) rfl ?_
      refine RunF.q (o_move rfl) rfl ?_
      refine RunF.q (o_build tk24 tz24 pl24 rfl rfl) rfl ?_
      refine RunF.wn (o_store rfl rfl rfl ts24 rfl rfl) rfl ?_
      refine AW.ret ?_
      apply FinQ.ret [1] []
      · exact (ress_agg rfl tk24 ts24 rfl rfl rfl ress_nil)
      · rfl
      · exact (.some rfl rfl (by rw [← hx2]; exact PRN.flat (ints_flat _)) .nil)
      · exact .nil
      · rw [← hx2]; exact nR
  · exact Wk.of [0, 999] [] rfl (.some rfl rfl nP (.none .nil)) .nil (.cons rfl (.self rfl) (.cons rfl (.self rfl) (.cons rfl (.ptr rfl) (.cons rfl (.self rfl) (.cons rfl (.self rfl) .nil)))))

end Go.Proofs.Ytnkijhpikeokfaa

/- Good: even; good again the same; what is good stays. -/
namespace Go.Proofs.Ytnkijhpikeokfaa
open Go Go.Sym Go.IntWalk

theorem r5right_is {XR XC PR PC : Int} {x p : List Int} {f0 f1 z : Bool} (h : rightT XR XC x PR PC p = z) : SoundC Try.prog 40 [.agg [.int .i64 XR, .int .i64 XC, .sl (.r 0) 0 x.length 1 f0, .int .i64 PR, .int .i64 PC, .sl (.r 1) 0 p.length 1 f1]] ⟨[ints x, ints p], []⟩ { val := .bool z } := by rw [← h]; exact r5right_ok XR XC PR PC x p f0 f1
theorem kright_is {XR XC PR PC : Int} {x p : List Int} {f0 f1 z : Bool} (h : rightT XR XC x PR PC p = z) : SoundC Try.prog 41 [.agg [.int .i64 XR, .int .i64 XC, .sl (.r 0) 0 x.length 1 f0, .int .i64 PR, .int .i64 PC, .sl (.r 1) 0 p.length 1 f1]] ⟨[ints x, ints p], []⟩ { val := .bool z } := by rw [← h]; exact kright_ok XR XC PR PC x p f0 f1

theorem idx_inj {i k j m n : Nat} (hk : k < n) (hm : m < n) (h : i * n + k = j * n + m) : i = j ∧ k = m := by
  have h1 : (i * n + k) / n = i := by rw [Nat.add_comm, Nat.add_mul_div_right _ _ (by omega), Nat.div_eq_of_lt hk, Nat.zero_add]
  have h2 : (j * n + m) / n = j := by rw [Nat.add_comm, Nat.add_mul_div_right _ _ (by omega), Nat.div_eq_of_lt hm, Nat.zero_add]
  have e : i = j := by rw [← h1, ← h2, h]
  subst e
  exact ⟨rfl, by omega⟩
def max0 (v : Int) : Int := if (0 : Int) > v then 0 else v
theorem getD_set {L : List Int} {k j : Nat} {v : Int} (hk : k < L.length) : (L.set k v).getD j 0 = if k = j then v else L.getD j 0 := by
  simp only [List.getD_eq_getElem?_getD, List.getElem?_set]
  by_cases e : k = j
  · subst e; simp [hk]
  · simp [e]
theorem goodN_at {E : List Int} {n : Nat} (hE : E.length = n * n) {i k : Nat} (hi : i < n) (hk : k < n) : ∀ t, t ≤ n → (goodN E n t).getD (i * n + k) 0 = if i = k ∧ i < t then max0 (E.getD (i * n + k) 0) else E.getD (i * n + k) 0
  | 0, _ => by simp [goodN]
  | t + 1, ht => by
    have hlen := goodN_length E n t
    have hlt := idx_lt (show t < n by omega) (show t < n by omega)
    simp only [goodN]
    rw [getD_set (by omega)]
    have ih := goodN_at hE hi hk t (by omega)
    by_cases e : t * n + t = i * n + k
    · obtain ⟨rfl, rfl⟩ := idx_inj (by omega) hk e
      rw [if_pos rfl, ih]
      simp only [Nat.lt_irrefl, and_false, if_false, Nat.lt_succ_self, and_self, if_true]
      rfl
    · rw [if_neg e, ih]
      by_cases h1 : i = k ∧ i < t
      · rw [if_pos h1, if_pos (by omega)]
      · rw [if_neg h1, if_neg (fun h2 => h1 ⟨h2.1, by
          have : i ≠ t := fun h3 => e (by obtain ⟨h4, _⟩ := h2; subst h4; subst h3; rfl)
          omega⟩)]
theorem goodL_at {p : List Int} {n i k : Nat} (hi : i < n) (hk : k < n) : (goodL p n).getD (i * n + k) 0 = if i = k then max0 ((evenL p n).getD (i * n + k) 0) else (evenL p n).getD (i * n + k) 0 := by
  unfold goodL
  rw [goodN_at (evenL_length p n) hi hk n (Nat.le_refl _)]
  by_cases e : i = k
  · rw [if_pos ⟨e, hi⟩, if_pos e]
  · rw [if_neg (fun h => e h.1), if_neg e]
theorem evenL_sym {p : List Int} {n i k : Nat} (hi : i < n) (hk : k < n) : (evenL p n).getD (i * n + k) 0 = (evenL p n).getD (k * n + i) 0 := by
  rw [evenL_at hi hk, evenL_at hk hi, half1_comm]
theorem goodL_sym {p : List Int} {n i k : Nat} (hi : i < n) (hk : k < n) : (goodL p n).getD (i * n + k) 0 = (goodL p n).getD (k * n + i) 0 := by
  rw [goodL_at hi hk, goodL_at hk hi]
  by_cases e : i = k
  · subst e; rfl
  · rw [if_neg e, if_neg (fun h => e h.symm), evenL_sym hi hk]
theorem max0_nonneg (v : Int) : 0 ≤ max0 v := by unfold max0; split <;> omega
theorem max0_inQ {v : Int} (h : inQ v) : inQ (max0 v) := by unfold inQ max0 at *; split <;> omega
theorem goodL_diag {p : List Int} {n i : Nat} (hi : i < n) : 0 ≤ (goodL p n).getD (i * n + i) 0 := by rw [goodL_at hi hi, if_pos rfl]; exact max0_nonneg _
theorem goodL_inQ {p : List Int} {n : Nat} (hQ : ∀ x ∈ p, inQ x) : ∀ x ∈ goodL p n, inQ x := by
  refine all_getD fun j hj => ?_
  rw [goodL_length] at hj
  have hn : 0 < n := by rcases Nat.eq_zero_or_pos n with h0 | h0; · subst h0; simp at hj
                        exact h0
  have e : j = j / n * n + j % n := by rw [Nat.mul_comm]; exact (Nat.div_add_mod j n).symm
  have h1 := (Nat.div_lt_iff_lt_mul hn).2 hj
  have h2 := Nat.mod_lt j hn
  rw [e, goodL_at h1 h2]
  split
  · exact max0_inQ (getD_inQ (evenL_inQ hQ n) _)
  · exact getD_inQ (evenL_inQ hQ n) _
theorem goodL_of {p : List Int} {n : Nat} (hp : p.length = n * n) (hs : ∀ i k, i < n → k < n → p.getD (i * n + k) 0 = p.getD (k * n + i) 0) (hd : ∀ i, i < n → 0 ≤ p.getD (i * n + i) 0) : goodL p n = p := by
  have he : evenL p n = p := evenL_of_turned hp ((turned_iff hp).2 hs).symm
  refine eq_of_getD (by rw [goodL_length, hp]) fun j hj => ?_
  rw [goodL_length] at hj
  have hn : 0 < n := by rcases Nat.eq_zero_or_pos n with h0 | h0; · subst h0; simp at hj
                        exact h0
  have e : j = j / n * n + j % n := by rw [Nat.mul_comm]; exact (Nat.div_add_mod j n).symm
  have h1 := (Nat.div_lt_iff_lt_mul hn).2 hj
  have h2 := Nat.mod_lt j hn
  rw [e, goodL_at h1 h2, he]
  split
  · rename_i e2
    have := hd _ h1
    rw [← e2]
    unfold max0
    split <;> omega
  · rfl
theorem good_again (p : List Int) (n : Nat) : goodL (goodL p n) n = goodL p n := goodL_of (goodL_length p n) (fun i k hi hk => goodL_sym hi hk) fun i hi => goodL_diag hi
theorem inQ_zero' : inQ 0 := by unfold inQ; omega
theorem noughts_right {n : Nat} (n0 : 0 < n) (n8 : n ≤ 8) : rightM n 1 (List.replicate (n * 1) (0 : Int)) = true := by
  have := rightM_of (c := 1) (L := List.replicate (n * 1) (0 : Int)) n0 n8 (by omega) (by omega) (by simp) (fun x hx => by rw [List.eq_of_mem_replicate hx]; exact inQ_zero')
  exact this
theorem good_right {n : Nat} (n0 : 0 < n) (n8 : n ≤ 8) {x p : List Int} (hx : rightM n 1 x = true) (hQ : ∀ x ∈ p, inQ x) : rightT n 1 x n n (goodL p n) = true :=
  rightT_yes ⟨hx, rightM_of n0 n8 n0 n8 (goodL_length p n) (goodL_inQ hQ), rfl, rfl, rfl, fun i k hi hk => by simp only [Int.toNat_natCast] at *; exact goodL_sym hi hk, fun i hi => by simp only [Int.toNat_natCast] at *; exact goodL_diag hi⟩
theorem good_of_right {n : Nat} {XC : Int} {x p : List Int} (hp : p.length = n * n) (h : rightT n XC x n n p = true) : goodL p n = p := by
  obtain ⟨_, _, _, _, _, h6, h7⟩ := rightT_is h
  simp only [Int.toNat_natCast] at h6 h7
  exact goodL_of hp h6 h7

set_option maxHeartbeats 1000000 in
theorem kGoods_no1 (R C : Int) (p : List Int) (hn : rightM R C p = false) : SoundC Try.prog 9 [.agg [.int .i64 R, .int .i64 C, .sl (.r 0) 0 p.length 1 false]] ⟨[ints p], []⟩ { val := .bool true } := by
  refine SoundC.of (N := 56) Try.func9 rfl rfl rfl rfl ?_
  refine AW.seq ?_
  refine AW.region (by kernel_rfl) ?_
  refine RunF.w (o_box (nm := 0) rfl rfl rfl) nH ?_
  refine RunF.q (o_assign rfl) rfl ?_
  refine AW.seq ?_
  refine AW.region (by kernel_rfl) ?_
  refine RunF.q (o_call (no := 1) (nr := 1) rfl rfl rfl nC (by rfl) (by exact shown05_ok) (by rfl) rfl rfl nV rfl) (by rfl) ?_
  refine RunF.q (o_assign rfl) rfl ?_
  refine AW.seq ?_
  refine AW.seq ?_
  refine AW.region (by kernel_rfl) ?_
  refine RunF.q (o_load_agg rfl tk24 ts24 rfl rfl rfl nL) rfl ?_
  refine RunF.q (o_call (no := 1) (nr := 1) rfl rfl rfl nC (by rfl) (by exact rright_is hn) (by rfl) rfl rfl nV rfl) (by rfl) ?_
  refine RunF.q (o_not rfl) rfl ?_
  refine RunF.q (o_move rfl) rfl ?_
  refine RunF.gs (b := true) rfl rfl ?_
  refine RunF.gs (b := true) rfl rfl ?_
  refine RunF.gs (b := true) rfl rfl ?_
  refine RunF.gs (b := true) rfl rfl ?_
  refine RunF.gs (b := true) rfl rfl ?_
  refine RunF.q (o_pick_t rfl rfl) rfl ?_
  refine AW.cond rfl (fun hc0 => ?_) (fun hc0 => absurd hc0 (by simp))
  refine AW.seq ?_
  refine AW.region (by kernel_rfl) ?_
  refine RunF.q (o_move rfl) rfl ?_
  refine RunF.q (o_assign rfl) rfl ?_
  refine AW.ret ?_
  exact FinQ.ret [] [] (ress_tmp rfl ress_nil) rfl .nil (.cons rfl rfl nP .nil) nR

set_option maxHeartbeats 1000000 in
theorem kGoods_no2 (R C : Int) (p : List Int) (hy : rightM R C p = true) (hne : R ≠ C) : SoundC Try.prog 9 [.agg [.int .i64 R, .int .i64 C, .sl (.r 0) 0 p.length 1 false]] ⟨[ints p], []⟩ { val := .bool true } := by
  refine SoundC.of (N := 56) Try.func9 rfl rfl rfl rfl ?_
  refine AW.seq ?_
  refine AW.region (by kernel_rfl) ?_
  refine RunF.w (o_box (nm := 0) rfl rfl rfl) nH ?_
  refine RunF.q (o_assign rfl) rfl ?_
  refine AW.seq ?_
  refine AW.region (by kernel_rfl) ?_
  refine RunF.q (o_call (no := 1) (nr := 1) rfl rfl rfl nC (by rfl) (by exact shown05_ok) (by rfl) rfl rfl nV rfl) (by rfl) ?_
  refine RunF.q (o_assign rfl) rfl ?_
  refine AW.seq ?_
  refine AW.seq ?_
  refine AW.region (by kernel_rfl) ?_
  refine RunF.q (o_load_agg rfl tk24 ts24 rfl rfl rfl nL) rfl ?_
  refine RunF.q (o_call (no := 1) (nr := 1) rfl rfl rfl nC (by rfl) (by exact rright_is hy) (by rfl) rfl rfl nV rfl) (by rfl) ?_
  refine RunF.q (o_not rfl) rfl ?_
  refine RunF.q (o_move rfl) rfl ?_
  refine RunF.gq rfl (o_fieldAddr rfl tk24 rfl ts3 rfl) rfl ?_
  refine RunF.gq rfl (o_load rfl tk3 ts3 rfl rfl rfl) rfl ?_
  refine RunF.gq rfl (o_fieldAddr rfl tk24 rfl ts3 rfl) rfl ?_
  refine RunF.gq rfl (o_load rfl tk3 ts3 rfl rfl rfl) rfl ?_
  refine RunF.gq rfl (o_neq rfl rfl) rfl ?_
  refine RunF.q (o_pick_f rfl rfl) rfl ?_
  refine AW.cond rfl (fun hc0 => ?_) (fun hc0 => absurd hc0 (by simp [hne]))
  refine AW.seq ?_
  refine AW.region (by kernel_rfl) ?_
  refine RunF.q (o_move rfl) rfl ?_
  refine RunF.q (o_assign rfl) rfl ?_
  refine AW.ret ?_
  exact FinQ.ret [] [] (ress_tmp rfl ress_nil) rfl .nil (.cons rfl rfl nP .nil) nR

set_option maxHeartbeats 1000000 in
theorem kGoods_yes (n : Nat) (n0 : 0 < n) (n8 : n ≤ 8) (p : List Int) (hp : p.length = n * n) (hQ : ∀ x ∈ p, inQ x) : SoundC Try.prog 9 [.agg [.int .i64 n, .int .i64 n, .sl (.r 0) 0 p.length 1 false]] ⟨[ints p], []⟩ { val := .bool true } := by
  have hsm := small_mul n8 n8
  have hG := goodL_length p n
  have hGQ := goodL_inQ (n := n) hQ
  have hz := noughts_right n0 n8
  refine SoundC.of (N := 56) Try.func9 rfl rfl rfl rfl ?_
  refine AW.seq ?_
  refine AW.region (by kernel_rfl) ?_
  refine RunF.w (o_box (nm := 0) rfl rfl rfl) nH ?_
  refine RunF.q (o_assign rfl) rfl ?_
  refine AW.seq ?_
  refine AW.region (by kernel_rfl) ?_
  refine RunF.q (o_call (no := 1) (nr := 1) rfl rfl rfl nC (by rfl) (by exact shown05_ok) (by rfl) rfl rfl nV rfl) (by rfl) ?_
  refine RunF.q (o_assign rfl) rfl ?_
  refine AW.seq ?_
  refine AW.seq ?_
  refine AW.region (by kernel_rfl) ?_
  refine RunF.q (o_load_agg rfl tk24 ts24 rfl rfl rfl nL) rfl ?_
  refine RunF.q (o_call (no := 1) (nr := 1) rfl rfl rfl nC (by rfl) (by exact rright_is (rightM_of n0 n8 n0 n8 hp hQ)) (by rfl) rfl rfl nV rfl) (by rfl) ?_
  refine RunF.q (o_not rfl) rfl ?_
  refine RunF.q (o_move rfl) rfl ?_
  refine RunF.gq rfl (o_fieldAddr rfl tk24 rfl ts3 rfl) rfl ?_
  refine RunF.gq rfl (o_load rfl tk3 ts3 rfl rfl rfl) rfl ?_
  refine RunF.gq rfl (o_fieldAddr rfl tk24 rfl ts3 rfl) rfl ?_
  refine RunF.gq rfl (o_load rfl tk3 ts3 rfl rfl rfl) rfl ?_
  refine RunF.gq rfl (o_neq rfl rfl) rfl ?_
  refine RunF.q (o_pick_f rfl rfl) rfl ?_
  refine AW.cond rfl (fun hc0 => absurd hc0 (by simp)) (fun hc0 => ?_)
  refine AW.skip ?_
  refine AW.seq ?_
  refine AW.region (by kernel_rfl) ?_
  refine RunF.q (o_load_agg rfl tk24 ts24 rfl rfl rfl nL) rfl ?_
  refine RunF.w (o_call (no := 1) (nr := 1) rfl rfl rfl nC (by rfl) (by exact kgood_ok n n0 n8 p hp false hQ) (by rfl) rfl rfl nV nE) nH ?_
  refine RunF.w (o_alloc (nm := 2) tz24 rfl) nH ?_
  refine RunF.wn (o_store rfl rfl rfl ts24 rfl rfl) nH ?_
  refine AW.seq ?_
  refine AW.draws (by kernel_rfl) (by kernel_rfl) ?_
  refine RunV.q (o_fieldAddr rfl tk24 rfl ts3 rfl) rfl ?_
  refine RunV.q (o_load rfl tk3 ts3 rfl rfl rfl) rfl ?_
  refine RunV.w (o_call (no := 3) (nr := 1) rfl rfl rfl nC (by rfl) (by exact rnone_ok n 1 n8 (by decide) n0 (by decide)) (by rfl) rfl rfl nV nE) nH ?_
  refine RunV.q (o_load_agg rfl tk24 ts24 rfl rfl rfl nL) rfl ?_
  refine RunV.q (o_build tk41 tz41 pl41 rfl rfl) rfl ?_
  refine RunV.w (o_alloc (nm := 4) tz41 rfl) nH ?_
  refine RunV.wn (o_store rfl rfl rfl ts41 rfl rfl) nH ?_
  refine And.intro (by kernel_rfl) ?_
  refine AW.seq ?_
  refine AW.draws (by kernel_rfl) (by kernel_rfl) ?_
  refine RunV.q (o_fieldAddr rfl tk24 rfl ts3 rfl) rfl ?_
  refine RunV.q (o_load rfl tk3 ts3 rfl rfl rfl) rfl ?_
  refine RunV.w (o_call (no := 5) (nr := 1) rfl rfl rfl nC (by rfl) (by exact rnone_ok n 1 n8 (by decide) n0 (by decide)) (by rfl) rfl rfl nV nE) nH ?_
  refine RunV.q (o_load_agg rfl tk24 ts24 rfl rfl rfl nL) rfl ?_
  refine RunV.q (o_build tk41 tz41 pl41 rfl rfl) rfl ?_
  refine RunV.w (o_alloc (nm := 6) tz41 rfl) nH ?_
  refine RunV.wn (o_store rfl rfl rfl ts41 rfl rfl) nH ?_
  refine And.intro (by kernel_rfl) ?_
  refine AW.seq ?_
  refine AW.draws (by kernel_rfl) (by kernel_rfl) ?_
  refine RunV.q (o_move rfl) rfl ?_
  refine RunV.q (o_move rfl) rfl ?_
  refine RunV.gq rfl (o_load_agg rfl tk41 ts41 rfl rfl rfl nL) rfl ?_
  refine RunV.gq rfl (o_call (no := 7) (nr := 1) rfl rfl rfl nC (by rfl) (by exact r5right_is (z := true) (good_right n0 n8 hz hQ)) (by rfl) rfl rfl nV rfl) (by rfl) ?_
  refine RunV.q (o_pick_t rfl rfl) rfl ?_
  refine RunV.q (o_move rfl) rfl ?_
  refine RunV.gq rfl (o_load_agg rfl tk41 ts41 rfl rfl rfl nL) rfl ?_
  refine RunV.gq rfl (o_call (no := 7) (nr := 1) rfl rfl rfl nC (by rfl) (by exact kright_is (z := true) (good_right n0 n8 hz hQ)) (by rfl) rfl rfl nV rfl) (by rfl) ?_
  refine RunV.q (o_pick_t rfl rfl) rfl ?_
  refine RunV.q (o_move rfl) rfl ?_
  refine RunV.gq rfl (o_load_agg rfl tk24 ts24 rfl rfl rfl nL) rfl ?_
  refine RunV.gw rfl (o_call (no := 7) (nr := 1) rfl rfl rfl nC (by rfl) (by exact (by have h := kgood_ok n n0 n8 (goodL p n) hG false hGQ; rw [good_again] at h; exact h)) (by rfl) rfl rfl nV nE) nH ?_
  refine RunV.gq rfl (o_load_agg rfl tk24 ts24 rfl rfl rfl nL) rfl ?_
  refine RunV.gq rfl (o_call (no := 8) (nr := 1) rfl rfl rfl nC (by rfl) (by exact rsame_is (z := true) (by omega) (sameM_refl _ _ _)) (by rfl) rfl rfl nV rfl) (by rfl) ?_
  refine RunV.q (o_pick_t rfl rfl) rfl ?_
  refine RunV.q (o_move rfl) rfl ?_
  refine RunV.gq rfl (o_load_agg rfl tk41 ts41 rfl rfl rfl nL) rfl ?_
  refine RunV.gq rfl (o_call (no := 8) (nr := 1) rfl rfl rfl nC (by rfl) (by exact r5right_ok n 1 n n (List.replicate (n * 1) (0 : Int)) p false false) (by rfl) rfl rfl nV rfl) (by rfl) ?_
  refine RunV.gq rfl (o_not rfl) rfl ?_
  refine RunV.gb rfl (o_move rfl) rfl (fun hb7_19 => ?_) (fun hb7_19 => ?_)
  · try simp only [decide_eq_true_eq, decide_eq_false_iff_not, bne_iff_ne, beq_iff_eq, bne_eq_false_iff_eq, beq_eq_false_iff_ne, ne_eq, Bool.not_eq_true', Bool.not_eq_false'] at hb7_19
    refine RunV.gs (b := true) rfl rfl ?_
    refine RunV.gs (b := true) rfl rfl ?_
    refine RunV.gs (b := true) rfl rfl ?_
    refine RunV.gq rfl (o_pick_t rfl rfl) rfl ?_
    refine RunV.q (o_pick_t rfl rfl) rfl ?_
    refine RunV.q (o_assign rfl) rfl ?_
    refine And.intro (by kernel_rfl) ?_
    refine AW.ret ?_
    exact FinQ.ret [] [] (ress_tmp rfl ress_nil) rfl .nil (.cons rfl rfl nP .nil) nR
  · try simp only [decide_eq_true_eq, decide_eq_false_iff_not, bne_iff_ne, beq_iff_eq, bne_eq_false_iff_eq, beq_eq_false_iff_ne, ne_eq, Bool.not_eq_true', Bool.not_eq_false'] at hb7_19
    have ep := good_of_right hp hb7_19
    refine RunV.gq rfl (o_load_agg rfl tk24 ts24 rfl rfl rfl nL) rfl ?_
    refine RunV.gq rfl (o_load_agg rfl tk24 ts24 rfl rfl rfl nL) rfl ?_
    refine RunV.gq rfl (o_call (no := 8) (nr := 1) rfl rfl rfl nC (by rfl) (by exact rsame_is (z := true) (by omega) (by rw [ep]; exact sameM_refl _ _ _)) (by rfl) rfl rfl nV rfl) (by rfl) ?_
    refine RunV.gq rfl (o_pick_f rfl rfl) rfl ?_
    refine RunV.q (o_pick_t rfl rfl) rfl ?_
    refine RunV.q (o_assign rfl) rfl ?_
    refine And.intro (by kernel_rfl) ?_
    refine AW.ret ?_
    exact FinQ.ret [] [] (ress_tmp rfl ress_nil) rfl .nil (.cons rfl rfl nP .nil) nR

end Go.Proofs.Ytnkijhpikeokfaa
