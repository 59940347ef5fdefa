/- The texts F19, F20, F21, F22, F23, F24, F25, F26. -/
import Derived.Test.YtnkijhpikeokfaaG6
import Derived.Test.YtnkijhpikeokfaaG4
set_option linter.unusedSimpArgs false
set_option linter.unusedVariables false
/- A track told on, by its contract. -/
namespace Go.Proofs.Ytnkijhpikeokfaa
open Go Go.Sym Go.IntWalk

/-- a matrix between another one and that one turned -/
def betL (A P : List Int) (n m : Nat) : List Int := mulL (mulL A P n m m) (trL A m n) n m n
def betX (A P : List Int) (n m : Nat) : Bool := mulX A P n m m || mulX (mulL A P n m m) (trL A m n) n m n
theorem mulL_len (A B : List Int) (r m c : Nat) : (mulL A B r m c).length = r * c := by simp [mulL, tab_length]
theorem betL_len (A P : List Int) (n m : Nat) : (betL A P n m).length = n * n := mulL_len _ _ _ _ _
theorem zipM_inQ_add (A B : List Int) (r c : Nat) : ∀ x ∈ zipM addD A B r c, inQ x := by
  intro y hy
  simp only [zipM, tab, List.mem_map] at hy
  obtain ⟨j, _, rfl⟩ := hy
  exact clampQ_in _

set_option maxHeartbeats 1000000 in
theorem wmat_ok (R C : Int) (L : List Int) (f w z : Bool) (e : Int) : SoundC Try.prog 94 [.ptr (.o 0) 0, .agg [.int .i64 R, .int .i64 C, .sl (.r 0) 0 L.length 1 f], .bool z, .int .i64 e] ⟨[ints L], [some [.bool w]]⟩ { val := .agg [.int .i64 R, .int .i64 C, .sl (.r 0) 0 L.length 1 f], wr := [(0, 0, [.bool (w || z)])] } := by
  refine SoundC.of (N := 20) Try.func94 rfl rfl rfl rfl ?_
  refine AW.seq ?_
  refine AW.region (by kernel_rfl) ?_
  refine RunF.w (o_box (nm := 1) rfl rfl rfl) nH ?_
  refine RunF.w (o_alloc (nm := 2) tz24 rfl) nH ?_
  refine AW.seq ?_
  refine AW.region (by kernel_rfl) ?_
  refine RunF.q (o_move rfl) rfl ?_
  refine RunF.q (o_move rfl) rfl ?_
  first | refine RunF.q (o_nilCheck rfl) rfl ?_ | refine RunF.q (o_nilCheck_f rfl) rfl ?_
  refine RunF.q (o_fieldAddr rfl tk142 rfl ts4 rfl) rfl ?_
  refine RunF.q (o_load rfl tk4 ts4 rfl rfl rfl) rfl ?_
  refine RunF.q (o_move rfl) rfl ?_
  refine RunF.gm rfl (o_move rfl) ?_
  first | refine RunF.q (o_pick_t rfl rfl) rfl ?_ | refine RunF.q (o_pick_f rfl rfl) rfl ?_ | refine RunF.q (o_pick_b rfl rfl rfl) rfl ?_ | refine RunF.q (o_pick_or rfl rfl rfl) rfl ?_ | refine RunF.q (o_pick_and rfl rfl rfl) rfl ?_
  first | refine RunF.q (o_nilCheck rfl) rfl ?_ | refine RunF.q (o_nilCheck_f rfl) rfl ?_
  refine RunF.q (o_fieldAddr rfl tk142 rfl ts4 rfl) rfl ?_
  refine RunF.wn (o_store rfl rfl rfl ts4 rfl rfl) nH ?_
  refine AW.seq ?_
  refine AW.region (by kernel_rfl) ?_
  refine RunF.q (o_load_agg rfl tk24 ts24 rfl rfl rfl nL) rfl ?_
  refine RunF.wn (o_store rfl rfl rfl ts24 rfl rfl) nH ?_
  refine AW.ret ?_
  exact FinQ.ret [] [] (ress_agg rfl tk24 ts24 rfl rfl rfl ress_nil) rfl (.some rfl rfl nP .nil) (.cons rfl rfl nP .nil) nR

set_option maxHeartbeats 1000000 in
theorem wone_ok (q : Int) (w z : Bool) : SoundC Try.prog 88 [.ptr (.o 0) 0, .int .i64 q, .bool z] ⟨[], [some [.bool w]]⟩ { val := .int .i64 q, wr := [(0, 0, [.bool (w || z)])] } := by
  refine SoundC.of (N := 18) Try.func88 rfl rfl rfl rfl ?_
  refine AW.seq ?_
  refine AW.region (by kernel_rfl) ?_
  refine RunF.q (o_assign rfl) rfl ?_
  refine AW.seq ?_
  refine AW.region (by kernel_rfl) ?_
  refine RunF.q (o_move rfl) rfl ?_
  refine RunF.q (o_move rfl) rfl ?_
  first | refine RunF.q (o_nilCheck rfl) rfl ?_ | refine RunF.q (o_nilCheck_f rfl) rfl ?_
  refine RunF.q (o_fieldAddr rfl tk142 rfl ts4 rfl) rfl ?_
  refine RunF.q (o_load rfl tk4 ts4 rfl rfl rfl) rfl ?_
  refine RunF.q (o_move rfl) rfl ?_
  refine RunF.gm rfl (o_move rfl) ?_
  first | refine RunF.q (o_pick_t rfl rfl) rfl ?_ | refine RunF.q (o_pick_f rfl rfl) rfl ?_ | refine RunF.q (o_pick_b rfl rfl rfl) rfl ?_ | refine RunF.q (o_pick_or rfl rfl rfl) rfl ?_ | refine RunF.q (o_pick_and rfl rfl rfl) rfl ?_
  first | refine RunF.q (o_nilCheck rfl) rfl ?_ | refine RunF.q (o_nilCheck_f rfl) rfl ?_
  refine RunF.q (o_fieldAddr rfl tk142 rfl ts4 rfl) rfl ?_
  refine RunF.wn (o_store rfl rfl rfl ts4 rfl rfl) nH ?_
  refine AW.seq ?_
  refine AW.region (by kernel_rfl) ?_
  refine RunF.q (o_move rfl) rfl ?_
  refine RunF.q (o_assign rfl) rfl ?_
  refine AW.ret ?_
  exact FinQ.ret [] [] (ress_tmp rfl ress_nil) rfl (.some rfl rfl nP .nil) .nil nR

set_option maxHeartbeats 1000000 in
theorem bet_ok (n m : Nat) (n8 : n ≤ 8) (m8 : m ≤ 8) (n0 : 0 < n) (m0 : 0 < m) (A P : List Int) (hA : A.length = n * m) (hP : P.length = m * m) (fa fp w : Bool) : SoundC Try.prog 95 [.ptr (.o 0) 0, .agg [.int .i64 n, .int .i64 m, .sl (.r 0) 0 A.length 1 fa], .agg [.int .i64 m, .int .i64 m, .sl (.r 1) 0 P.length 1 fp]] ⟨[ints A, ints P], [some [.bool w]]⟩ { val := .agg [.int .i64 n, .int .i64 n, .sl (.o 1) 0 (betL A P n m).length 1 false], wr := [(0, 0, [.bool (w || mulX A P n m m || mulX (mulL A P n m m) (trL A m n) n m n)])], newo := [ints (betL A P n m)] } := by
  refine SoundC.of (N := 23) Try.func95 rfl rfl rfl rfl ?_
  refine AW.seq ?_
  refine AW.region (by kernel_rfl) ?_
  refine RunF.w (o_box (nm := 1) rfl rfl rfl) nH ?_
  refine RunF.w (o_box (nm := 2) rfl rfl rfl) nH ?_
  refine RunF.w (o_alloc (nm := 3) tz24 rfl) nH ?_
  refine AW.seq ?_
  refine AW.draws (by kernel_rfl) (by kernel_rfl) ?_
  refine RunV.q (o_move rfl) rfl ?_
  refine RunV.q (o_move rfl) rfl ?_
  refine RunV.q (o_load_agg rfl tk24 ts24 rfl rfl rfl nL) rfl ?_
  refine RunV.q (o_load_agg rfl tk24 ts24 rfl rfl rfl nL) rfl ?_
  refine RunV.w (o_call (no := 4) (nr := 2) rfl rfl rfl nC (by rfl) (by exact mmul_ok n m m n8 m8 m8 A P hA hP fa fp n0 m0) (by rfl) rfl rfl nV nE) nH ?_
  refine RunV.q (o_extract rfl rfl) rfl ?_
  refine RunV.q (o_extract rfl rfl) rfl ?_
  refine RunV.q (o_extract rfl rfl) rfl ?_
  refine RunV.w (o_call (no := 5) (nr := 2) rfl rfl rfl nC (by rfl) (by exact wmat_ok n m (mulL A P n m m) false w (mulX A P n m m) 0) (by rfl) rfl rfl nV nE) nH ?_
  refine RunV.q (o_load_agg rfl tk24 ts24 rfl rfl rfl nL) rfl ?_
  refine RunV.w (o_call (no := 5) (nr := 2) rfl rfl rfl nC (by rfl) (by exact trans_ok n m n8 m8 A hA fa n0 m0) (by rfl) rfl rfl nV nE) nH ?_
  refine RunV.w (o_call (no := 6) (nr := 2) rfl rfl rfl nC (by rfl) (by exact mmul_ok n m n n8 m8 n8 (mulL A P n m m) (trL A m n) (mulL_len _ _ _ _ _) (trL_length _ _ _) false false n0 n0) (by rfl) rfl rfl nV nE) nH ?_
  refine RunV.q (o_extract rfl rfl) rfl ?_
  refine RunV.q (o_extract rfl rfl) rfl ?_
  refine RunV.q (o_extract rfl rfl) rfl ?_
  refine RunV.w (o_call (no := 7) (nr := 2) rfl rfl rfl nC (by rfl) (by exact wmat_ok n n (mulL (mulL A P n m m) (trL A m n) n m n) false _ (mulX (mulL A P n m m) (trL A m n) n m n) 0) (by rfl) rfl rfl nV nE) nH ?_
  refine RunV.wn (o_store rfl rfl rfl ts24 rfl rfl) nH ?_
  refine And.intro (by kernel_rfl) ?_
  refine AW.ret ?_
  exact FinQ.ret [6] [] (ress_agg rfl tk24 ts24 rfl rfl rfl ress_nil) rfl (.some rfl rfl nP (.some rfl rfl (PRN.flat (ints_flat _)) .nil)) (.cons rfl rfl nP (.cons rfl rfl nP .nil)) nR

set_option maxHeartbeats 1000000 in
theorem pfit_ok (R C N : Int) (L : List Int) (f : Bool) : SoundC Try.prog 93 [.agg [.int .i64 R, .int .i64 C, .sl (.r 0) 0 L.length 1 f], .ptr (.o 0) 0] ⟨[ints L], [some [.int .i64 N]]⟩ { val := .bool (decide (R = N ∧ C = N)) } := by
  refine SoundC.of (N := 14) Try.func93 rfl rfl rfl rfl ?_
  refine AW.seq ?_
  refine AW.region (by kernel_rfl) ?_
  refine RunF.w (o_box (nm := 1) rfl rfl rfl) nH ?_
  refine RunF.q (o_assign rfl) rfl ?_
  refine AW.seq ?_
  refine AW.region (by kernel_rfl) ?_
  refine RunF.q (o_fieldAddr rfl tk24 rfl ts3 rfl) rfl ?_
  refine RunF.q (o_load rfl tk3 ts3 rfl rfl rfl) rfl ?_
  refine RunF.q (o_load rfl tk3 ts3 rfl rfl rfl) rfl ?_
  refine RunF.q (o_eql rfl rfl) rfl ?_
  refine RunF.br (o_move rfl) rfl (fun hb1_4 => ?_) (fun hb1_4 => ?_)
  · try simp only [decide_eq_true_eq, decide_eq_false_iff_not, bne_iff_ne, beq_iff_eq, bne_eq_false_iff_eq, beq_eq_false_iff_ne, ne_eq, Bool.not_eq_true', Bool.not_eq_false'] at hb1_4
    refine RunF.gq rfl (o_fieldAddr rfl tk24 rfl ts3 rfl) rfl ?_
    refine RunF.gq rfl (o_load rfl tk3 ts3 rfl rfl rfl) rfl ?_
    refine RunF.gq rfl (o_load rfl tk3 ts3 rfl rfl rfl) rfl ?_
    refine RunF.gq rfl (o_eql rfl rfl) rfl ?_
    refine RunF.q (o_pick_t rfl rfl) rfl ?_
    refine RunF.q (o_assign rfl) rfl ?_
    refine AW.ret ?_
    exact FinQ.ret [] [] (ress_tmp rfl ress_nil) rfl (.some rfl rfl nP .nil) (.cons rfl rfl nP .nil) (by rw [show decide (R = N ∧ C = N) = (C == N) from decide_eq_decide.2 ⟨fun h => h.2, fun h => ⟨hb1_4, h⟩⟩]; exact nR)
  · try simp only [decide_eq_true_eq, decide_eq_false_iff_not, bne_iff_ne, beq_iff_eq, bne_eq_false_iff_eq, beq_eq_false_iff_ne, ne_eq, Bool.not_eq_true', Bool.not_eq_false'] at hb1_4
    refine RunF.gs (b := false) rfl rfl ?_
    refine RunF.gs (b := false) rfl rfl ?_
    refine RunF.gs (b := false) rfl rfl ?_
    refine RunF.gs (b := false) rfl rfl ?_
    refine RunF.q (o_pick_f rfl rfl) rfl ?_
    refine RunF.q (o_assign rfl) rfl ?_
    refine AW.ret ?_
    exact FinQ.ret [] [] (ress_tmp rfl ress_nil) rfl (.some rfl rfl nP .nil) (.cons rfl rfl nP .nil) (by rw [show decide (R = N ∧ C = N) = false from decide_eq_false (fun h => hb1_4 h.1)]; exact nR)

theorem pfit_is {R C N : Int} {L : List Int} {f z : Bool} (h : decide (R = N ∧ C = N) = z) : SoundC Try.prog 93 [.agg [.int .i64 R, .int .i64 C, .sl (.r 0) 0 L.length 1 f], .ptr (.o 0) 0] ⟨[ints L], [some [.int .i64 N]]⟩ { val := .bool z } := by rw [← h]; exact pfit_ok R C N L f
def preX (F x : List Int) (n : Nat) : List Int := mulL F x n n 1
def preP (F p Q : List Int) (n : Nat) : List Int := goodL (zipM addD (betL F p n n) Q n n) n
def preO (F x p Q : List Int) (n : Nat) : Bool := false || mulX F x n n 1 || mulX F p n n n || mulX (mulL F p n n n) (trL F n n) n n n || zipX addD (betL F p n n) Q n n

set_option maxHeartbeats 1000000 in
theorem predict_ok (n : Nat) (n0 : 0 < n) (n8 : n ≤ 8) (x p F Q : List Int) (hx : x.length = n * 1) (hp : p.length = n * n) (hF : F.length = n * n) (hQ : Q.length = n * n) (f0 f1 f2 f3 : Bool) : SoundC Try.prog 47 [.agg [.int .i64 n, .int .i64 1, .sl (.r 0) 0 x.length 1 f0, .int .i64 n, .int .i64 n, .sl (.r 1) 0 p.length 1 f1], .agg [.int .i64 n, .int .i64 n, .sl (.r 2) 0 F.length 1 f2], .agg [.int .i64 n, .int .i64 n, .sl (.r 3) 0 Q.length 1 f3]] ⟨[ints x, ints p, ints F, ints Q], []⟩ { val := .tuple [.agg [.int .i64 n, .int .i64 1, .sl (.o 0) 0 (preX F x n).length 1 false, .int .i64 n, .int .i64 n, .sl (.o 1) 0 (preP F p Q n).length 1 false], .bool (preO F x p Q n), .int .i64 0], newo := [ints (preX F x n), ints (preP F p Q n)] } := by
  refine SoundC.of (N := 63) Try.func47 rfl rfl rfl rfl ?_
  refine AW.seq ?_
  refine AW.region (by kernel_rfl) ?_
  refine RunF.w (o_box (nm := 0) rfl rfl rfl) nH ?_
  refine RunF.w (o_box (nm := 1) rfl rfl rfl) nH ?_
  refine RunF.w (o_box (nm := 2) rfl rfl rfl) nH ?_
  refine RunF.w (o_alloc (nm := 3) tz41 rfl) nH ?_
  refine RunF.q (o_assign rfl) rfl ?_
  refine RunF.q (o_assign rfl) rfl ?_
  refine AW.seq ?_
  refine AW.region (by kernel_rfl) ?_
  refine RunF.q (o_fieldAddr rfl tk41 rfl ts24 rfl) rfl ?_
  refine RunF.q (o_fieldAddr rfl tk24 rfl ts3 rfl) rfl ?_
  refine RunF.q (o_load rfl tk3 ts3 rfl rfl rfl) rfl ?_
  refine RunF.w (o_alloc (nm := 4) tz3 rfl) nH ?_
  refine RunF.wn (o_store rfl rfl rfl ts3 rfl rfl) nH ?_
  refine AW.seq ?_
  refine AW.region (by kernel_rfl) ?_
  refine RunF.q (o_makeFunc rfl rfl) rfl ?_
  refine RunF.q (o_assign rfl) rfl ?_
  refine AW.seq ?_
  refine AW.seq ?_
  refine AW.region (by kernel_rfl) ?_
  refine RunF.q (o_move rfl) rfl ?_
  refine RunF.q (o_load_agg rfl tk24 ts24 rfl rfl rfl nL) rfl ?_
  refine RunF.q (o_call (no := 5) (nr := 4) rfl rfl rfl nC (by rfl) (by exact pfit_is (z := true) (by simp)) (by rfl) rfl rfl nV rfl) (by rfl) ?_
  refine RunF.q (o_not rfl) rfl ?_
  refine RunF.q (o_move rfl) rfl ?_
  refine RunF.gq rfl (o_move rfl) rfl ?_
  refine RunF.gq rfl (o_load_agg rfl tk24 ts24 rfl rfl rfl nL) rfl ?_
  refine RunF.gq rfl (o_call (no := 5) (nr := 4) rfl rfl rfl nC (by rfl) (by exact pfit_is (z := true) (by simp)) (by rfl) rfl rfl nV rfl) (by rfl) ?_
  refine RunF.gq rfl (o_not rfl) rfl ?_
  refine RunF.q (o_pick_f rfl rfl) rfl ?_
  refine AW.cond rfl (fun hc0 => absurd hc0 (by simp)) (fun hc0 => ?_)
  refine AW.skip ?_
  refine AW.seq ?_
  refine AW.region (by kernel_rfl) ?_
  refine RunF.q (o_build tk142 tz142 pl142 rfl rfl) rfl ?_
  refine RunF.w (o_box (nm := 5) rfl rfl rfl) nH ?_
  refine RunF.q (o_assign rfl) rfl ?_
  refine AW.seq ?_
  refine AW.region (by kernel_rfl) ?_
  refine RunF.q (o_move rfl) rfl ?_
  refine RunF.q (o_makeFunc rfl rfl) rfl ?_
  refine RunF.q (o_assign rfl) rfl ?_
  refine AW.seq ?_
  refine AW.region (by kernel_rfl) ?_
  refine RunF.q (o_move rfl) rfl ?_
  refine RunF.q (o_load_agg rfl tk24 ts24 rfl rfl rfl nL) rfl ?_
  refine RunF.q (o_fieldAddr rfl tk41 rfl ts24 rfl) rfl ?_
  refine RunF.q (o_load_agg rfl tk24 ts24 rfl rfl rfl nL) rfl ?_
  refine RunF.w (o_call (no := 6) (nr := 4) rfl rfl rfl nC (by rfl) (by exact mmul_ok n n 1 n8 n8 (by decide) F x hF hx f2 f0 n0 (by decide)) (by rfl) rfl rfl nV nE) nH ?_
  refine RunF.q (o_extract rfl rfl) rfl ?_
  refine RunF.q (o_extract rfl rfl) rfl ?_
  refine RunF.q (o_extract rfl rfl) rfl ?_
  refine RunF.w (o_call (no := 7) (nr := 4) rfl rfl rfl nC (by rfl) (by exact wmat_ok n 1 (mulL F x n n 1) false false (mulX F x n n 1) 0) (by rfl) rfl rfl nV nE) nH ?_
  refine RunF.w (o_alloc (nm := 7) tz24 rfl) nH ?_
  refine RunF.wn (o_store rfl rfl rfl ts24 rfl rfl) nH ?_
  refine AW.seq ?_
  refine AW.draws (by kernel_rfl) (by kernel_rfl) ?_
  refine RunV.q (o_move rfl) rfl ?_
  refine RunV.q (o_move rfl) rfl ?_
  refine RunV.q (o_load_agg rfl tk24 ts24 rfl rfl rfl nL) rfl ?_
  refine RunV.q (o_fieldAddr rfl tk41 rfl ts24 rfl) rfl ?_
  refine RunV.q (o_load_agg rfl tk24 ts24 rfl rfl rfl nL) rfl ?_
  refine RunV.w (o_call (no := 8) (nr := 4) rfl rfl rfl nC (by rfl) (by exact bet_ok n n n8 n8 n0 n0 F p hF hp f2 f1 _) (by rfl) rfl rfl nV nE) nH ?_
  refine RunV.q (o_load_agg rfl tk24 ts24 rfl rfl rfl nL) rfl ?_
  refine RunV.w (o_call (no := 9) (nr := 4) rfl rfl rfl nC (by rfl) (by exact madd_ok n n n8 n8 n0 n0 (betL F p n n) Q (betL_len _ _ _ _) hQ false f3) (by rfl) rfl rfl nV nE) nH ?_
  refine RunV.q (o_extract rfl rfl) rfl ?_
  refine RunV.q (o_extract rfl rfl) rfl ?_
  refine RunV.q (o_extract rfl rfl) rfl ?_
  refine RunV.w (o_call (no := 10) (nr := 4) rfl rfl rfl nC (by rfl) (by exact wmat_ok n n (zipM addD (betL F p n n) Q n n) false _ (zipX addD (betL F p n n) Q n n) 0) (by rfl) rfl rfl nV nE) nH ?_
  refine RunV.w (o_alloc (nm := 10) tz24 rfl) nH ?_
  refine RunV.wn (o_store rfl rfl rfl ts24 rfl rfl) nH ?_
  refine And.intro (by kernel_rfl) ?_
  refine AW.seq ?_
  refine AW.draws (by kernel_rfl) (by kernel_rfl) ?_
  refine RunV.q (o_load_agg rfl tk24 ts24 rfl rfl rfl nL) rfl ?_
  refine RunV.q (o_load_agg rfl tk24 ts24 rfl rfl rfl nL) rfl ?_
  refine RunV.w (o_call (no := 11) (nr := 4) rfl rfl rfl nC (by rfl) (by exact kgood_ok n n0 n8 (zipM addD (betL F p n n) Q n n) (zipM_length _ _ _ _ _) false (zipM_inQ_add _ _ _ _)) (by rfl) rfl rfl nV nE) nH ?_
  refine RunV.q (o_build tk41 tz41 pl41 rfl rfl) rfl ?_
  refine RunV.q (o_move rfl) rfl ?_
  first | refine RunV.q (o_nilCheck rfl) rfl ?_ | refine RunV.q (o_nilCheck_f rfl) rfl ?_
  refine RunV.q (o_fieldAddr rfl tk142 rfl ts4 rfl) rfl ?_
  refine RunV.q (o_load rfl tk4 ts4 rfl rfl rfl) rfl ?_
  refine RunV.wn (o_store rfl rfl rfl ts41 rfl rfl) nH ?_
  refine RunV.q (o_assign rfl) rfl ?_
  refine RunV.q (o_assign rfl) rfl ?_
  refine And.intro (by kernel_rfl) ?_
  refine AW.ret ?_
  exact FinQ.ret [6, 11] [] (ress_agg rfl tk41 ts41 rfl rfl rfl (ress_tmp rfl (ress_tmp rfl ress_nil))) rfl (.some rfl rfl (PRN.flat (ints_flat _)) (.some rfl rfl (PRN.flat (ints_flat _)) .nil)) (.cons rfl rfl nP (.cons rfl rfl nP (.cons rfl rfl nP (.cons rfl rfl nP .nil)))) nR

set_option maxHeartbeats 1000000 in
theorem predict_no (XR XC PR PC fr fc qr qc : Int) (x p F Q : List Int) (f0 f1 f2 f3 : Bool) (hne : ¬ (fr = XR ∧ fc = XR ∧ qr = XR ∧ qc = XR)) : SoundC Try.prog 47 [.agg [.int .i64 XR, .int .i64 XC, .sl (.r 0) 0 x.length 1 f0, .int .i64 PR, .int .i64 PC, .sl (.r 1) 0 p.length 1 f1], .agg [.int .i64 fr, .int .i64 fc, .sl (.r 2) 0 F.length 1 f2], .agg [.int .i64 qr, .int .i64 qc, .sl (.r 3) 0 Q.length 1 f3]] ⟨[ints x, ints p, ints F, ints Q], []⟩ { val := .tuple [.agg [.int .i64 0, .int .i64 0, .nilsl, .int .i64 0, .int .i64 0, .nilsl], .bool false, .int .i64 9] } := by
  refine SoundC.of (N := 63) Try.func47 rfl rfl rfl rfl ?_
  refine AW.seq ?_
  refine AW.region (by kernel_rfl) ?_
  refine RunF.w (o_box (nm := 0) rfl rfl rfl) nH ?_
  refine RunF.w (o_box (nm := 1) rfl rfl rfl) nH ?_
  refine RunF.w (o_box (nm := 2) rfl rfl rfl) nH ?_
  refine RunF.w (o_alloc (nm := 3) tz41 rfl) nH ?_
  refine RunF.q (o_assign rfl) rfl ?_
  refine RunF.q (o_assign rfl) rfl ?_
  refine AW.seq ?_
  refine AW.region (by kernel_rfl) ?_
  refine RunF.q (o_fieldAddr rfl tk41 rfl ts24 rfl) rfl ?_
  refine RunF.q (o_fieldAddr rfl tk24 rfl ts3 rfl) rfl ?_
  refine RunF.q (o_load rfl tk3 ts3 rfl rfl rfl) rfl ?_
  refine RunF.w (o_alloc (nm := 4) tz3 rfl) nH ?_
  refine RunF.wn (o_store rfl rfl rfl ts3 rfl rfl) nH ?_
  refine AW.seq ?_
  refine AW.region (by kernel_rfl) ?_
  refine RunF.q (o_makeFunc rfl rfl) rfl ?_
  refine RunF.q (o_assign rfl) rfl ?_
  refine AW.seq ?_
  refine AW.seq ?_
  refine AW.region (by kernel_rfl) ?_
  refine RunF.q (o_move rfl) rfl ?_
  refine RunF.q (o_load_agg rfl tk24 ts24 rfl rfl rfl nL) rfl ?_
  refine RunF.q (o_call (no := 5) (nr := 4) rfl rfl rfl nC (by rfl) (by exact pfit_ok fr fc XR F f2) (by rfl) rfl rfl nV rfl) (by rfl) ?_
  refine RunF.q (o_not rfl) rfl ?_
  refine RunF.br (o_move rfl) rfl (fun hb3_4 => ?_) (fun hb3_4 => ?_)
  · try simp only [decide_eq_true_eq, decide_eq_false_iff_not, bne_iff_ne, beq_iff_eq, bne_eq_false_iff_eq, beq_eq_false_iff_ne, ne_eq, Bool.not_eq_true', Bool.not_eq_false'] at hb3_4
    refine RunF.gs (b := true) rfl rfl ?_
    refine RunF.gs (b := true) rfl rfl ?_
    refine RunF.gs (b := true) rfl rfl ?_
    refine RunF.gs (b := true) rfl rfl ?_
    refine RunF.q (o_pick_t rfl rfl) rfl ?_
    refine AW.cond rfl (fun hc0 => ?_) (fun hc0 => absurd hc0 (by first | (intro h; cases h; done) | (intro h; simp at h; exact hne ⟨hb3_4.1, hb3_4.2, h.1, h.2⟩)))
    refine AW.seq ?_
    refine AW.region (by kernel_rfl) ?_
    refine RunF.q (o_build tk41 tz41 pl41 rfl rfl) rfl ?_
    refine RunF.wn (o_store rfl rfl rfl ts41 rfl rfl) nH ?_
    refine RunF.q (o_assign rfl) rfl ?_
    refine RunF.q (o_assign rfl) rfl ?_
    refine AW.ret ?_
    exact FinQ.ret [] [] (ress_agg rfl tk41 ts41 rfl rfl rfl (ress_tmp rfl (ress_tmp rfl ress_nil))) rfl .nil (.cons rfl rfl nP (.cons rfl rfl nP (.cons rfl rfl nP (.cons rfl rfl nP .nil)))) nR
  · try simp only [decide_eq_true_eq, decide_eq_false_iff_not, bne_iff_ne, beq_iff_eq, bne_eq_false_iff_eq, beq_eq_false_iff_ne, ne_eq, Bool.not_eq_true', Bool.not_eq_false'] at hb3_4
    refine RunF.gq rfl (o_move rfl) rfl ?_
    refine RunF.gq rfl (o_load_agg rfl tk24 ts24 rfl rfl rfl nL) rfl ?_
    refine RunF.gq rfl (o_call (no := 5) (nr := 4) rfl rfl rfl nC (by rfl) (by exact pfit_ok qr qc XR Q f3) (by rfl) rfl rfl nV rfl) (by rfl) ?_
    refine RunF.gq rfl (o_not rfl) rfl ?_
    refine RunF.q (o_pick_f rfl rfl) rfl ?_
    refine AW.cond rfl (fun hc0 => ?_) (fun hc0 => absurd hc0 (by first | (intro h; cases h; done) | (intro h; simp at h; exact hne ⟨hb3_4.1, hb3_4.2, h.1, h.2⟩)))
    refine AW.seq ?_
    refine AW.region (by kernel_rfl) ?_
    refine RunF.q (o_build tk41 tz41 pl41 rfl rfl) rfl ?_
    refine RunF.wn (o_store rfl rfl rfl ts41 rfl rfl) nH ?_
    refine RunF.q (o_assign rfl) rfl ?_
    refine RunF.q (o_assign rfl) rfl ?_
    refine AW.ret ?_
    exact FinQ.ret [] [] (ress_agg rfl tk41 ts41 rfl rfl rfl (ress_tmp rfl (ress_tmp rfl ress_nil))) rfl .nil (.cons rfl rfl nP (.cons rfl rfl nP (.cons rfl rfl nP (.cons rfl rfl nP .nil)))) nR

end Go.Proofs.Ytnkijhpikeokfaa

/- Told on by Eye, and nothing more that varies, a track is as it was. -/
namespace Go.Proofs.Ytnkijhpikeokfaa
open Go Go.Sym Go.IntWalk

theorem reye1 : exec Try.prog noO 400 20 48 [.int .i64 1] ⟨[], []⟩ = some (eyeR 1) := by kernel_rfl
theorem reye2 : exec Try.prog noO 400 20 48 [.int .i64 2] ⟨[], []⟩ = some (eyeR 2) := by kernel_rfl
theorem reye3 : exec Try.prog noO 400 20 48 [.int .i64 3] ⟨[], []⟩ = some (eyeR 3) := by kernel_rfl
theorem reye4 : exec Try.prog noO 400 20 48 [.int .i64 4] ⟨[], []⟩ = some (eyeR 4) := by kernel_rfl
theorem reye5 : exec Try.prog noO 400 20 48 [.int .i64 5] ⟨[], []⟩ = some (eyeR 5) := by kernel_rfl
theorem reye6 : exec Try.prog noO 400 20 48 [.int .i64 6] ⟨[], []⟩ = some (eyeR 6) := by kernel_rfl
theorem reye7 : exec Try.prog noO 400 20 48 [.int .i64 7] ⟨[], []⟩ = some (eyeR 7) := by kernel_rfl
theorem reye8 : exec Try.prog noO 400 20 48 [.int .i64 8] ⟨[], []⟩ = some (eyeR 8) := by kernel_rfl

theorem reye_ok (n : Nat) (h0 : 0 < n) (hn : n ≤ 8) : SoundC Try.prog 48 [.int .i64 n] ⟨[], []⟩ { val := .tuple [.agg [.int .i64 n, .int .i64 n, .sl (.o 0) 0 (eyeL n).length 1 false], .int .i64 0], newo := [ints (eyeL n)] } := by
  have : n = 1 ∨ n = 2 ∨ n = 3 ∨ n = 4 ∨ n = 5 ∨ n = 6 ∨ n = 7 ∨ n = 8 := by omega
  rcases this with rfl | rfl | rfl | rfl | rfl | rfl | rfl | rfl
  · exact exec_sound (noO_sound _) 400 20 _ _ _ _ reye1
  · exact exec_sound (noO_sound _) 400 20 _ _ _ _ reye2
  · exact exec_sound (noO_sound _) 400 20 _ _ _ _ reye3
  · exact exec_sound (noO_sound _) 400 20 _ _ _ _ reye4
  · exact exec_sound (noO_sound _) 400 20 _ _ _ _ reye5
  · exact exec_sound (noO_sound _) 400 20 _ _ _ _ reye6
  · exact exec_sound (noO_sound _) 400 20 _ _ _ _ reye7
  · exact exec_sound (noO_sound _) 400 20 _ _ _ _ reye8
theorem r5same_is {XR XC PR PC XR' XC' PR' PC' : Int} {x p x' p' : List Int} {f0 f1 f2 f3 z : Bool} (hx : x.length ≤ 1000000) (hp : p.length ≤ 1000000) (h : (sameM XR XC x XR' XC' x' && sameM PR PC p PR' PC' p') = z) :
    SoundC Try.prog 43 [.agg [.int .i64 XR, .int .i64 XC, .sl (.r 0) 0 x.length 1 f0, .int .i64 PR, .int .i64 PC, .sl (.r 1) 0 p.length 1 f1], .agg [.int .i64 XR', .int .i64 XC', .sl (.r 2) 0 x'.length 1 f2, .int .i64 PR', .int .i64 PC', .sl (.r 3) 0 p'.length 1 f3]] ⟨[ints x, ints p, ints x', ints p'], []⟩ { val := .bool z } := by rw [← h]; exact r5same_ok XR XC PR PC XR' XC' PR' PC' x p x' p' f0 f1 f2 f3 hx hp

theorem mulD_eye_left {X : List Int} {n c : Nat} (hQ : ∀ x ∈ X, inQ x) {i k : Nat} (hi : i < n) : mulD (eyeL n) X n c i k = (X.getD (i * c + k) 0, false) := by
  unfold mulD
  rw [dot_comm, dot_congr (X' := fun j => X.getD (j * c + k) 0) (Y' := fun j => if j = i then 16777216 else 0) (fun j hj => ⟨rfl, by
    unfold eyeL; rw [tab_at hi hj]
    by_cases e : i = j
    · rw [if_pos e, if_pos e.symm]
    · rw [if_neg e, if_neg (fun h => e h.symm)]⟩)]
  rw [dot_eye (fun j => getD_inQ hQ _) i n, if_pos hi]
theorem mulL_eye_left {X : List Int} {n c : Nat} (hX : X.length = n * c) (hQ : ∀ x ∈ X, inQ x) : mulL (eyeL n) X n n c = X := by
  have h1 : mulL (eyeL n) X n n c = tab (fun i k => X.getD (i * c + k) 0) c (n * c) := by
    unfold mulL
    exact tab_congr fun i k hi hk => by rw [mulD_eye_left hQ hi]
  rw [h1, tab_self hX]
theorem mulX_eye_left {X : List Int} {n c : Nat} (hQ : ∀ x ∈ X, inQ x) : mulX (eyeL n) X n n c = false := by
  unfold mulX
  exact anyT_none fun i k hi hk => by rw [mulD_eye_left hQ hi]
theorem eye_turned (n : Nat) : trL (eyeL n) n n = eyeL n := by
  conv => rhs; unfold eyeL
  unfold trL
  refine tab_congr fun i k hi hk => ?_
  unfold eyeL
  rw [tab_at hk hi]
  by_cases e : i = k
  · subst e; rfl
  · rw [if_neg e, if_neg (fun h => e h.symm)]
theorem bet_eye {p : List Int} {n : Nat} (hp : p.length = n * n) (hQ : ∀ x ∈ p, inQ x) : betL (eyeL n) p n n = p := by
  unfold betL; rw [mulL_eye_left hp hQ, eye_turned, mulL_eye hp hQ]
theorem zeros_getD (k j : Nat) : (List.replicate k (0 : Int)).getD j 0 = 0 := by
  rw [List.getD_eq_getElem?_getD, List.getElem?_replicate]
  split <;> rfl
theorem add_zeros {p : List Int} {n m : Nat} (hp : p.length = n * m) (hQ : ∀ x ∈ p, inQ x) : zipM addD p (List.replicate (n * m) (0 : Int)) n m = p ∧ zipX addD p (List.replicate (n * m) (0 : Int)) n m = false := by
  constructor
  · have h1 : zipM addD p (List.replicate (n * m) (0 : Int)) n m = tab (fun i k => p.getD (i * m + k) 0) m (n * m) := by
      unfold zipM
      exact tab_congr fun i k hi hk => by rw [zeros_getD]; exact addQ_zero (getD_inQ hQ _)
    rw [h1, tab_self hp]
  · unfold zipX
    exact anyT_none fun i k hi hk => by rw [zeros_getD]; exact addF_zero (getD_inQ hQ _)
theorem pre_eye {x p : List Int} {n : Nat} (hx : x.length = n * 1) (hp : p.length = n * n) (hxQ : ∀ v ∈ x, inQ v) (hpQ : ∀ v ∈ p, inQ v) (hs : ∀ i k, i < n → k < n → p.getD (i * n + k) 0 = p.getD (k * n + i) 0) (hd : ∀ i, i < n → 0 ≤ p.getD (i * n + i) 0) :
    preX (eyeL n) x n = x ∧ preP (eyeL n) p (List.replicate (n * n) (0 : Int)) n = p ∧ preO (eyeL n) x p (List.replicate (n * n) (0 : Int)) n = false := by
  refine ⟨mulL_eye_left hx hxQ, ?_, ?_⟩
  · unfold preP; rw [bet_eye hp hpQ, (add_zeros hp hpQ).1, goodL_of hp hs hd]
  · unfold preO
    rw [mulX_eye_left hxQ, mulX_eye_left hpQ, mulL_eye_left hp hpQ, eye_turned, mulX_eye hpQ, bet_eye hp hpQ, (add_zeros hp hpQ).2]
    rfl

set_option maxHeartbeats 1000000 in
theorem kEyes_no (XR XC PR PC : Int) (x p : List Int) (hn : rightT XR XC x PR PC p = false) : SoundC Try.prog 13 [.agg [.int .i64 XR, .int .i64 XC, .sl (.r 0) 0 x.length 1 false, .int .i64 PR, .int .i64 PC, .sl (.r 1) 0 p.length 1 false]] ⟨[ints x, ints p], []⟩ { val := .bool true } := by
  refine SoundC.of (N := 49) Try.func13 rfl rfl rfl rfl ?_
  refine AW.seq ?_
  refine AW.region (by kernel_rfl) ?_
  refine RunF.w (o_box (nm := 0) rfl rfl rfl) nH ?_
  refine RunF.q (o_assign rfl) rfl ?_
  refine AW.seq ?_
  refine AW.region (by kernel_rfl) ?_
  refine RunF.q (o_call (no := 1) (nr := 2) rfl rfl rfl nC (by rfl) (by exact shown05_ok) (by rfl) rfl rfl nV rfl) (by rfl) ?_
  refine RunF.q (o_assign rfl) rfl ?_
  refine AW.seq ?_
  refine AW.seq ?_
  refine AW.region (by kernel_rfl) ?_
  refine RunF.q (o_load_agg rfl tk41 ts41 rfl rfl rfl nL) rfl ?_
  refine RunF.q (o_call (no := 1) (nr := 2) rfl rfl rfl nC (by rfl) (by exact r5right_is hn) (by rfl) rfl rfl nV rfl) (by rfl) ?_
  refine RunF.q (o_not rfl) rfl ?_
  refine AW.cond rfl (fun hc0 => ?_) (fun hc0 => absurd hc0 (by simp))
  refine AW.seq ?_
  refine AW.region (by kernel_rfl) ?_
  refine RunF.q (o_move rfl) rfl ?_
  refine RunF.q (o_assign rfl) rfl ?_
  refine AW.ret ?_
  exact FinQ.ret [] [] (ress_tmp rfl ress_nil) rfl .nil (.cons rfl rfl nP (.cons rfl rfl nP .nil)) nR

set_option maxHeartbeats 1000000 in
theorem kEyes_yes (n : Nat) (n0 : 0 < n) (n8 : n ≤ 8) (x p : List Int) (hx : x.length = n * 1) (hp : p.length = n * n) (hxQ : ∀ v ∈ x, inQ v) (hpQ : ∀ v ∈ p, inQ v) (hr : rightT n 1 x n n p = true) : SoundC Try.prog 13 [.agg [.int .i64 n, .int .i64 1, .sl (.r 0) 0 x.length 1 false, .int .i64 n, .int .i64 n, .sl (.r 1) 0 p.length 1 false]] ⟨[ints x, ints p], []⟩ { val := .bool true } := by
  have hsm := small_mul n8 n8
  obtain ⟨_, _, _, _, _, h6, h7⟩ := rightT_is hr
  simp only [Int.toNat_natCast] at h6 h7
  obtain ⟨e1, e2, e3⟩ := pre_eye hx hp hxQ hpQ h6 h7
  refine SoundC.of (N := 49) Try.func13 rfl rfl rfl rfl ?_
  refine AW.seq ?_
  refine AW.region (by kernel_rfl) ?_
  refine RunF.w (o_box (nm := 0) rfl rfl rfl) nH ?_
  refine RunF.q (o_assign rfl) rfl ?_
  refine AW.seq ?_
  refine AW.region (by kernel_rfl) ?_
  refine RunF.q (o_call (no := 1) (nr := 2) rfl rfl rfl nC (by rfl) (by exact shown05_ok) (by rfl) rfl rfl nV rfl) (by rfl) ?_
  refine RunF.q (o_assign rfl) rfl ?_
  refine AW.seq ?_
  refine AW.seq ?_
  refine AW.region (by kernel_rfl) ?_
  refine RunF.q (o_load_agg rfl tk41 ts41 rfl rfl rfl nL) rfl ?_
  refine RunF.q (o_call (no := 1) (nr := 2) rfl rfl rfl nC (by rfl) (by exact r5right_is hr) (by rfl) rfl rfl nV rfl) (by rfl) ?_
  refine RunF.q (o_not rfl) rfl ?_
  refine AW.cond rfl (fun hc0 => absurd hc0 (by simp)) (fun hc0 => ?_)
  refine AW.skip ?_
  refine AW.seq ?_
  refine AW.region (by kernel_rfl) ?_
  refine RunF.q (o_fieldAddr rfl tk41 rfl ts24 rfl) rfl ?_
  refine RunF.q (o_fieldAddr rfl tk24 rfl ts3 rfl) rfl ?_
  refine RunF.q (o_load rfl tk3 ts3 rfl rfl rfl) rfl ?_
  refine RunF.w (o_call (no := 1) (nr := 2) rfl rfl rfl nC (by rfl) (by exact reye_ok n n0 n8) (by rfl) rfl rfl nV nE) nH ?_
  refine RunF.q (o_move rfl) rfl ?_
  refine RunF.q (o_extract rfl rfl) rfl ?_
  refine RunF.q (o_extract rfl rfl) rfl ?_
  refine RunF.w (o_alloc (nm := 2) tz24 rfl) nH ?_
  refine RunF.wn (o_store rfl rfl rfl ts24 rfl rfl) nH ?_
  refine RunF.q (o_assign rfl) rfl ?_
  refine AW.seq ?_
  refine AW.draws (by kernel_rfl) (by kernel_rfl) ?_
  refine RunV.q (o_load_agg rfl tk41 ts41 rfl rfl rfl nL) rfl ?_
  refine RunV.q (o_load_agg rfl tk24 ts24 rfl rfl rfl nL) rfl ?_
  refine RunV.q (o_fieldAddr rfl tk41 rfl ts24 rfl) rfl ?_
  refine RunV.q (o_fieldAddr rfl tk24 rfl ts3 rfl) rfl ?_
  refine RunV.q (o_load rfl tk3 ts3 rfl rfl rfl) rfl ?_
  refine RunV.q (o_fieldAddr rfl tk41 rfl ts24 rfl) rfl ?_
  refine RunV.q (o_fieldAddr rfl tk24 rfl ts3 rfl) rfl ?_
  refine RunV.q (o_load rfl tk3 ts3 rfl rfl rfl) rfl ?_
  refine RunV.w (o_call (no := 3) (nr := 2) rfl rfl rfl nC (by rfl) (by exact rnone_ok n n n8 n8 n0 n0) (by rfl) rfl rfl nV nE) nH ?_
  refine RunV.w (o_call (no := 4) (nr := 2) rfl rfl rfl nC (by rfl) (by exact (by have h := predict_ok n n0 n8 x p (eyeL n) (List.replicate (n * n) (0 : Int)) hx hp (eyeL_length n) (by simp) false false false false; rw [e1, e2, e3] at h; exact h)) (by rfl) rfl rfl nV nE) nH ?_
  refine RunV.q (o_move rfl) rfl ?_
  refine RunV.q (o_extract rfl rfl) rfl ?_
  refine RunV.q (o_extract rfl rfl) rfl ?_
  refine RunV.q (o_extract rfl rfl) rfl ?_
  refine RunV.w (o_alloc (nm := 6) tz41 rfl) nH ?_
  refine RunV.wn (o_store rfl rfl rfl ts41 rfl rfl) nH ?_
  refine RunV.q (o_assign rfl) rfl ?_
  refine RunV.q (o_assign rfl) rfl ?_
  refine And.intro (by kernel_rfl) ?_
  refine AW.seq ?_
  refine AW.region (by kernel_rfl) ?_
  refine RunF.q (o_move rfl) rfl ?_
  refine RunF.q (o_move rfl) rfl ?_
  refine RunF.gq rfl (o_move rfl) rfl ?_
  refine RunF.gq rfl (o_eql rfl rfl) rfl ?_
  refine RunF.q (o_pick_t rfl rfl) rfl ?_
  refine RunF.q (o_move rfl) rfl ?_
  refine RunF.gq rfl (o_move rfl) rfl ?_
  refine RunF.gq rfl (o_not rfl) rfl ?_
  refine RunF.q (o_pick_t rfl rfl) rfl ?_
  refine RunF.q (o_move rfl) rfl ?_
  refine RunF.gq rfl (o_load_agg rfl tk41 ts41 rfl rfl rfl nL) rfl ?_
  refine RunF.gq rfl (o_load_agg rfl tk41 ts41 rfl rfl rfl nL) rfl ?_
  refine RunF.gq rfl (o_call (no := 7) (nr := 2) rfl rfl rfl nC (by rfl) (by exact r5same_is (z := true) (by omega) (by omega) (by rw [sameM_refl, sameM_refl]; rfl)) (by rfl) rfl rfl nV rfl) (by rfl) ?_
  refine RunF.q (o_pick_t rfl rfl) rfl ?_
  refine RunF.q (o_assign rfl) rfl ?_
  refine AW.ret ?_
  exact FinQ.ret [] [] (ress_tmp rfl ress_nil) rfl .nil (.cons rfl rfl nP (.cons rfl rfl nP .nil)) nR

end Go.Proofs.Ytnkijhpikeokfaa

/- What is measured: how far it is off; scaled matrices. -/
namespace Go.Proofs.Ytnkijhpikeokfaa
open Go Go.Sym Go.IntWalk

def scaleL (A : List Int) (q : Int) (r c : Nat) : List Int := tab (fun i k => mulQ (A.getD (i * c + k) 0) q) c (r * c)
def scaleX (A : List Int) (q : Int) (r c : Nat) : Bool := anyT (fun i k => mulF (A.getD (i * c + k) 0) q) c (r * c)
theorem scaleL_length (A : List Int) (q : Int) (r c : Nat) : (scaleL A q r c).length = r * c := by simp [scaleL, tab_length]

def mayV (hR hC XR r : Int) : Int := if hR = 1 ∧ hC = XR then (if r ≤ 0 then 1 else 0) else 9
/-- how far it is off, how that varies, and whether a bound was met -/
def offY (H x : List Int) (n : Nat) (z : Int) : Int := subQ z ((mulL H x 1 n 1).getD 0 0)
def offS (H p : List Int) (n : Nat) (r : Int) : Int := addQ ((betL H p 1 n).getD 0 0) r
def offO (H x p : List Int) (n : Nat) (z r : Int) (w : Bool) : Bool := w || mulX H x 1 n 1 || subF z ((mulL H x 1 n 1).getD 0 0) || mulX H p 1 n n || mulX (mulL H p 1 n n) (trL H n 1) 1 n 1 || addF ((betL H p 1 n).getD 0 0) r

set_option maxHeartbeats 1000000 in
theorem scale1_ok (r c : Nat) (hr : r ≤ 8) (hc : c ≤ 8) (A : List Int) (hA : A.length = r * c) (f : Bool) (q : Int) (i k : Nat) (hi : i < r) (hk : k < c) : SoundC Try.prog 143 [.int .i64 i, .int .i64 k, .ptr (.o 0) 0, .ptr (.o 1) 0] ⟨[ints A], [some [.int .i64 r, .int .i64 c, .sl (.r 0) 0 A.length 1 f], some [.int .i64 q]]⟩ { val := .tuple [.int .i64 (mulQ (A.getD (i * c + k) 0) q), .bool (mulF (A.getD (i * c + k) 0) q)] } := by
  refine SoundC.of (N := 16) Try.func143 rfl rfl rfl rfl ?_
  refine AW.seq ?_
  refine AW.region (by kernel_rfl) ?_
  refine RunF.q (o_assign rfl) rfl ?_
  refine RunF.q (o_assign rfl) rfl ?_
  refine AW.seq ?_
  refine AW.draws (by kernel_rfl) (by kernel_rfl) ?_
  refine RunV.q (o_load_agg rfl tk24 ts24 rfl rfl rfl nL) rfl ?_
  refine RunV.q (o_move rfl) rfl ?_
  refine RunV.q (o_move rfl) rfl ?_
  refine RunV.q (o_call (no := 2) (nr := 1) rfl rfl rfl nC (by rfl) (by exact at_ok r c hr hc A hA f i k hi hk) (by rfl) rfl rfl nV rfl) (by rfl) ?_
  refine RunV.q (o_load rfl tk30 ts30 rfl rfl rfl) rfl ?_
  refine RunV.q (o_call (no := 2) (nr := 1) rfl rfl rfl nC (by rfl) (by exact mul_ok _ _) (by rfl) rfl rfl nV rfl) (by rfl) ?_
  refine RunV.q (o_extract rfl rfl) rfl ?_
  refine RunV.q (o_extract rfl rfl) rfl ?_
  refine RunV.q (o_assign rfl) rfl ?_
  refine RunV.q (o_assign rfl) rfl ?_
  refine And.intro (by kernel_rfl) ?_
  refine AW.ret ?_
  exact FinQ.ret [] [] (ress_tmp rfl (ress_tmp rfl ress_nil)) rfl (.some rfl rfl nP (.some rfl rfl nP .nil)) (.cons rfl rfl nP .nil) nR

set_option maxHeartbeats 1000000 in
theorem madeS_ok (r c : Nat) (hr : r ≤ 8) (hc : c ≤ 8) (A : List Int) (hA : A.length = r * c) (f : Bool) (q : Int) (hR : 0 < r) (hC : 0 < c) : SoundC Try.prog 76 [.agg [.int .i64 r, .int .i64 c], .func 143 [] [.ptr (.o 0) 0, .ptr (.o 1) 0]] ⟨[ints A], [some [.int .i64 r, .int .i64 c, .sl (.r 0) 0 A.length 1 f], some [.int .i64 q]]⟩ { val := .tuple [.agg [.int .i64 r, .int .i64 c, .sl (.o 2) 0 (tab (fun i k => mulQ (A.getD (i * c + k) 0) q) c (r * c)).length 1 false], .bool (anyT (fun i k => mulF (A.getD (i * c + k) 0) q) c (r * c))], newo := [ints (tab (fun i k => mulQ (A.getD (i * c + k) 0) q) c (r * c))] } := by
  have hR8 := hr
  have hC8 := hc
  refine SoundC.of (N := 48) Try.func76 rfl rfl rfl rfl ?_
  refine AW.seq ?_
  refine AW.region (by kernel_rfl) ?_
  refine RunF.w (o_box (nm := 2) rfl rfl rfl) rfl ?_
  refine RunF.w (o_alloc (nm := 3) tz24 rfl) rfl ?_
  refine RunF.q (o_assign rfl) rfl ?_
  refine AW.seq ?_
  refine AW.region (by kernel_rfl) ?_
  refine RunF.q (o_fieldAddr rfl tk132 rfl ts3 rfl) rfl ?_
  refine RunF.q (o_load rfl tk3 ts3 rfl rfl rfl) rfl ?_
  refine RunF.q (o_fieldAddr rfl tk132 rfl ts3 rfl) rfl ?_
  refine RunF.q (o_load rfl tk3 ts3 rfl rfl rfl) rfl ?_
  refine RunF.q (o_build tk24 tz24 pl24 rfl rfl) rfl ?_
  refine RunF.w (o_alloc (nm := 4) tz24 rfl) rfl ?_
  refine RunF.wn (o_store rfl rfl rfl ts24 rfl rfl) rfl ?_
  refine AW.seq ?_
  refine AW.region (by kernel_rfl) ?_
  refine RunF.q (o_assign rfl) rfl ?_
  refine AW.seq ?_
  refine AW.seq ?_
  refine AW.region (by kernel_rfl) ?_
  refine RunF.q (o_fieldAddr rfl tk132 rfl ts3 rfl) rfl ?_
  refine RunF.q (o_load rfl tk3 ts3 rfl rfl rfl) rfl ?_
  refine RunF.q (o_move rfl) rfl ?_
  refine AW.block ?_
  refine AW.loop (α := {x : Nat × List Int × Bool // x.1 ≤ r ∧ x.2.1 = tab (fun i k => mulQ (A.getD (i * c + k) 0) q) c (x.1 * c) ∧ x.2.2 = anyT (fun i k => mulF (A.getD (i * c + k) 0) q) c (x.1 * c)}) (fun x : {x : Nat × List Int × Bool // x.1 ≤ r ∧ x.2.1 = tab (fun i k => mulQ (A.getD (i * c + k) 0) q) c (x.1 * c) ∧ x.2.2 = anyT (fun i k => mulF (A.getD (i * c + k) 0) q) c (x.1 * c)} => ([(1, .func 143 [] [.ptr (.o 0) 0, .ptr (.o 1) 0]), (2, .ptr (.o 2) 0), (4, .ptr (.o 3) 0), (6, .ptr (.o 4) 0), (7, .bool x.1.2.2), (18, .int .i64 r), (19, .int .i64 x.1.1)], ⟨[ints A], [some [.int .i64 r, .int .i64 c, .sl (.r 0) 0 A.length 1 f], some [.int .i64 q], some [.int .i64 r, .int .i64 c], some [.int .i64 0, .int .i64 0, .nilsl], some [.int .i64 r, .int .i64 c, slOf 5 x.1.2.1], rowOf x.1.2.1]⟩)) (fun x => r - x.1.1) (fun x => ?_) ⟨(0, [], false), by simp, by simp [tab], by simp [anyT]⟩ ?_
  · obtain ⟨⟨i, L0, z0⟩, hx1, hx2, hx3⟩ := x
    dsimp only at hx1 hx2 hx3
    dsimp only
    refine AW.seq ?_
    refine AW.region (by kernel_rfl) ?_
    refine RunF.q (o_lss rfl rfl) rfl ?_
    refine AW.seq ?_
    refine AW.cond rfl (fun hc0 => ?_) (fun hc0 => ?_)
    · try simp only [decide_eq_true_eq, decide_eq_false_iff_not, bne_iff_ne, beq_iff_eq, bne_eq_false_iff_eq, beq_eq_false_iff_ne, ne_eq, Bool.not_eq_true', Bool.not_eq_false'] at hc0
      have hi : i < r := by omega
      refine AW.skip ?_
      refine AW.seq ?_
      refine AW.block ?_
      refine AW.seq ?_
      refine AW.region (by kernel_rfl) ?_
      refine RunF.q (o_move rfl) rfl ?_
      refine RunF.q (o_assign rfl) rfl ?_
      refine AW.seq ?_
      refine AW.region (by kernel_rfl) ?_
      refine RunF.q (o_fieldAddr rfl tk132 rfl ts3 rfl) rfl ?_
      refine RunF.q (o_load rfl tk3 ts3 rfl rfl rfl) rfl ?_
      refine RunF.q (o_move rfl) rfl ?_
      refine AW.block ?_
      refine AW.loop (α := {x : Nat × List Int × Bool // x.1 ≤ c ∧ x.2.1 = tab (fun i k => mulQ (A.getD (i * c + k) 0) q) c (i * c + x.1) ∧ x.2.2 = anyT (fun i k => mulF (A.getD (i * c + k) 0) q) c (i * c + x.1)}) (fun x : {x : Nat × List Int × Bool // x.1 ≤ c ∧ x.2.1 = tab (fun i k => mulQ (A.getD (i * c + k) 0) q) c (i * c + x.1) ∧ x.2.2 = anyT (fun i k => mulF (A.getD (i * c + k) 0) q) c (i * c + x.1)} => ([(1, .func 143 [] [.ptr (.o 0) 0, .ptr (.o 1) 0]), (2, .ptr (.o 2) 0), (4, .ptr (.o 3) 0), (6, .ptr (.o 4) 0), (7, .bool x.1.2.2), (8, .int .i64 i), (18, .int .i64 r), (19, .int .i64 i), (23, .int .i64 c), (24, .int .i64 x.1.1)], ⟨[ints A], [some [.int .i64 r, .int .i64 c, .sl (.r 0) 0 A.length 1 f], some [.int .i64 q], some [.int .i64 r, .int .i64 c], some [.int .i64 0, .int .i64 0, .nilsl], some [.int .i64 r, .int .i64 c, slOf 5 x.1.2.1], rowOf x.1.2.1]⟩)) (fun x => c - x.1.1) (fun x => ?_) ⟨(0, L0, z0), by omega, by simpa using hx2, by simpa using hx3⟩ ?_
      · obtain ⟨⟨k, y1, y2⟩, hy1, hy2, hy3⟩ := x
        dsimp only at hy1 hy2 hy3
        dsimp only
        refine AW.seq ?_
        refine AW.region (by kernel_rfl) ?_
        refine RunF.q (o_lss rfl rfl) rfl ?_
        refine AW.seq ?_
        refine AW.cond rfl (fun hc1 => ?_) (fun hc1 => ?_)
        · try simp only [decide_eq_true_eq, decide_eq_false_iff_not, bne_iff_ne, beq_iff_eq, bne_eq_false_iff_eq, beq_eq_false_iff_ne, ne_eq, Bool.not_eq_true', Bool.not_eq_false'] at hc1
          have hk : k < c := by omega
          have hlen : y1.length ≤ 64 := by rw [hy2, tab_length]; have := idx_lt hi hk; have := small_mul hR8 hC8; omega
          rcases y1 with _ | ⟨a, l⟩
          · refine AW.skip ?_
            refine AW.seq ?_
            refine AW.block ?_
            refine AW.seq ?_
            refine AW.region (by kernel_rfl) ?_
            refine RunF.q (o_move rfl) rfl ?_
            refine RunF.q (o_assign rfl) rfl ?_
            refine AW.seq ?_
            refine AW.region (by kernel_rfl) ?_
            refine RunF.q (o_move rfl) rfl ?_
            refine RunF.q (o_move rfl) rfl ?_
            refine RunF.q (o_move rfl) rfl ?_
            refine RunF.q (o_call (no := 6) (nr := 1) rfl rfl rfl nC (by rfl) (by exact scale1_ok r c hr hc A hA f q i k hi hk) (by rfl) rfl rfl nV rfl) (by rfl) ?_
            refine RunF.q (o_move rfl) rfl ?_
            refine RunF.q (o_extract rfl rfl) rfl ?_
            refine RunF.q (o_extract rfl rfl) rfl ?_
            refine RunF.q (o_assign rfl) rfl ?_
            refine RunF.q (o_assign rfl) rfl ?_
            refine AW.seq ?_
            refine AW.region (by kernel_rfl) ?_
            refine RunF.q (o_fieldAddr rfl tk24 rfl ts22 rfl) rfl ?_
            refine RunF.q (o_load rfl tk22 ts22 rfl rfl rfl) rfl ?_
            refine RunF.q (o_move rfl) rfl ?_
            refine RunF.w (o_buildSlice (nm := 6) tk22 ts30 tz30 rfl rfl rfl rfl) rfl ?_
            refine RunF.w (o_append_nil (nm := 7) tk22 tk22 ts30 tb30 tz30 rfl rfl rfl rfl ⟨by decide, Nat.le_refl 1, by decide, by decide⟩ rfl rfl rfl) rfl ?_
            refine RunF.q (o_fieldAddr rfl tk24 rfl ts22 rfl) rfl ?_
            refine RunF.wn (o_store rfl rfl rfl ts22 rfl rfl) rfl ?_
            refine AW.region (by kernel_rfl) ?_
            refine RunF.q (o_move rfl) rfl ?_
            refine RunF.q (o_move rfl) rfl ?_
            refine RunF.gm rfl (o_move rfl) ?_
            first | refine RunF.q (o_pick_t rfl rfl) rfl ?_ | refine RunF.q (o_pick_f rfl rfl) rfl ?_ | refine RunF.q (o_pick_b rfl rfl rfl) rfl ?_ | refine RunF.q (o_pick_or rfl rfl rfl) rfl ?_ | refine RunF.q (o_pick_and rfl rfl rfl) rfl ?_
            refine RunF.q (o_assign rfl) rfl ?_
            refine AW.region (by kernel_rfl) ?_
            refine RunF.q (o_add rfl rfl (by first | exact i64_in _ (by omega) | rfl)) rfl ?_
            refine RunF.q (o_move rfl) rfl ?_
            exact ⟨⟨(k + 1, ([] : List Int) ++ [(fun i k => mulQ (A.getD (i * c + k) 0) q) i k], y2 || (fun i k => mulF (A.getD (i * c + k) 0) q) i k), by dsimp only; omega, by dsimp only; rw [← Nat.add_assoc, tab_succ _ hk, ← hy2], by dsimp only; rw [← Nat.add_assoc, anyT_succ _ hk, ← hy3]⟩, Wk.of [2, 3, 4, 7] [] rfl (.some rfl rfl nP (.some rfl rfl nP (.some rfl rfl nP (.some rfl rfl nP (.some rfl rfl nP (.some rfl rfl nP .nil)))))) (.cons rfl rfl nP .nil) (.cons rfl (.fn .nil (.cons (.ptr rfl) (.cons (.ptr rfl) .nil))) (.cons rfl (.ptr rfl) (.cons rfl (.ptr rfl) (.cons rfl (.ptr rfl) (.cons rfl (.self rfl) (.cons rfl (.self rfl) (.cons rfl (.self rfl) (.cons rfl (.self rfl) (.cons rfl (.self rfl) (.cons rfl (.self rfl) .nil)))))))))), by dsimp only; omega⟩
          · refine AW.skip ?_
            refine AW.seq ?_
            refine AW.block ?_
            refine AW.seq ?_
            refine AW.region (by kernel_rfl) ?_
            refine RunF.q (o_move rfl) rfl ?_
            refine RunF.q (o_assign rfl) rfl ?_
            refine AW.seq ?_
            refine AW.region (by kernel_rfl) ?_
            refine RunF.q (o_move rfl) rfl ?_
            refine RunF.q (o_move rfl) rfl ?_
            refine RunF.q (o_move rfl) rfl ?_
            refine RunF.q (o_call (no := 6) (nr := 1) rfl rfl rfl nC (by rfl) (by exact scale1_ok r c hr hc A hA f q i k hi hk) (by rfl) rfl rfl nV rfl) (by rfl) ?_
            refine RunF.q (o_move rfl) rfl ?_
            refine RunF.q (o_extract rfl rfl) rfl ?_
            refine RunF.q (o_extract rfl rfl) rfl ?_
            refine RunF.q (o_assign rfl) rfl ?_
            refine RunF.q (o_assign rfl) rfl ?_
            refine AW.seq ?_
            refine AW.region (by kernel_rfl) ?_
            refine RunF.q (o_fieldAddr rfl tk24 rfl ts22 rfl) rfl ?_
            refine RunF.q (o_load rfl tk22 ts22 rfl rfl rfl) rfl ?_
            refine RunF.q (o_move rfl) rfl ?_
            refine RunF.w (o_buildSlice (nm := 6) tk22 ts30 tz30 rfl rfl rfl rfl) rfl ?_
            refine RunF.w (o_append_own (nm := 7) (mn := ((a :: l) ++ [(fun i k => mulQ (A.getD (i * c + k) 0) q) i k]).length) tk22 tk22 ts30 tb30 tz30 rfl rfl rfl rfl rfl ⟨by decide, Nat.le_refl 1, by simp, by simp only [List.length_cons] at hlen ⊢; omega, by simp only [List.length_cons] at hlen ⊢; omega⟩ rfl (ints_all (a :: l)) rfl rfl (by simp)) rfl ?_
            refine RunF.q (o_fieldAddr rfl tk24 rfl ts22 rfl) rfl ?_
            refine RunF.wn (o_store rfl rfl rfl ts22 rfl rfl) rfl ?_
            refine AW.region (by kernel_rfl) ?_
            refine RunF.q (o_move rfl) rfl ?_
            refine RunF.q (o_move rfl) rfl ?_
            refine RunF.gm rfl (o_move rfl) ?_
            first | refine RunF.q (o_pick_t rfl rfl) rfl ?_ | refine RunF.q (o_pick_f rfl rfl) rfl ?_ | refine RunF.q (o_pick_b rfl rfl rfl) rfl ?_ | refine RunF.q (o_pick_or rfl rfl rfl) rfl ?_ | refine RunF.q (o_pick_and rfl rfl rfl) rfl ?_
            refine RunF.q (o_assign rfl) rfl ?_
            refine AW.region (by kernel_rfl) ?_
            refine RunF.q (o_add rfl rfl (by first | exact i64_in _ (by omega) | rfl)) rfl ?_
            refine RunF.q (o_move rfl) rfl ?_
            exact ⟨⟨(k + 1, (a :: l) ++ [(fun i k => mulQ (A.getD (i * c + k) 0) q) i k], y2 || (fun i k => mulF (A.getD (i * c + k) 0) q) i k), by dsimp only; omega, by dsimp only; rw [← Nat.add_assoc, tab_succ _ hk, ← hy2], by dsimp only; rw [← Nat.add_assoc, anyT_succ _ hk, ← hy3]⟩, Wk.of [2, 3, 4, 7] [] rfl (.some rfl rfl nP (.some rfl rfl nP (.some rfl rfl nP (.some rfl rfl nP (.some rfl rfl nP (.some rfl rfl (PRN.snoc (a :: l) ((fun i k => mulQ (A.getD (i * c + k) 0) q) i k)) .nil)))))) (.cons rfl rfl nP .nil) (.cons rfl (.fn .nil (.cons (.ptr rfl) (.cons (.ptr rfl) .nil))) (.cons rfl (.ptr rfl) (.cons rfl (.ptr rfl) (.cons rfl (.ptr rfl) (.cons rfl (.self rfl) (.cons rfl (.self rfl) (.cons rfl (.self rfl) (.cons rfl (.self rfl) (.cons rfl (.self rfl) (.cons rfl (.self rfl) .nil)))))))))), by dsimp only; omega⟩
        · try simp only [decide_eq_true_eq, decide_eq_false_iff_not, bne_iff_ne, beq_iff_eq, bne_eq_false_iff_eq, beq_eq_false_iff_ne, ne_eq, Bool.not_eq_true', Bool.not_eq_false'] at hc1
          refine AW.exit ?_
          refine AW.region (by kernel_rfl) ?_
          refine RunF.q (o_add rfl rfl (by first | exact i64_in _ (by omega) | rfl)) rfl ?_
          refine RunF.q (o_move rfl) rfl ?_
          exact ⟨⟨(i + 1, y1, y2), by dsimp only; omega, by dsimp only; rw [hy2, Nat.succ_mul]; congr 1; omega, by dsimp only; rw [hy3, Nat.succ_mul]; congr 1; omega⟩, Wk.same rfl (.cons rfl (.cons rfl (.cons rfl (.cons rfl (.cons rfl (.cons rfl (.cons rfl .nil))))))), by dsimp only; omega⟩
      · exact Wk.same rfl (.cons rfl (.cons rfl (.cons rfl (.cons rfl (.cons rfl (.cons rfl (.cons rfl (.cons rfl (.cons rfl (.cons rfl .nil))))))))))
    · try simp only [decide_eq_true_eq, decide_eq_false_iff_not, bne_iff_ne, beq_iff_eq, bne_eq_false_iff_eq, beq_eq_false_iff_ne, ne_eq, Bool.not_eq_true', Bool.not_eq_false'] at hc0
      have ei : i = r := by omega
      subst ei
      obtain ⟨a, l, rfl⟩ : ∃ a l, L0 = a :: l := by
        cases L0 with
        | nil => have := congrArg List.length hx2; rw [tab_length] at this; have := Nat.mul_pos hR hC; simp at *; omega
        | cons a l => exact ⟨a, l, rfl⟩
      refine AW.exit ?_
      refine AW.seq ?_
      refine AW.region (by kernel_rfl) ?_
      refine RunF.q (o_load_agg rfl tk24 ts24 rfl rfl rfl rfl) rfl ?_
      refine RunF.q (o_move rfl) rfl ?_
      refine RunF.wn (o_store rfl rfl rfl ts24 rfl rfl) rfl ?_
      refine RunF.q (o_assign rfl) rfl ?_
      refine AW.ret ?_
      apply FinQ.ret [5] []
      · exact (ress_agg rfl tk24 ts24 rfl rfl rfl (ress_tmp rfl ress_nil))
      · rfl
      · exact (.some rfl rfl nP (.some rfl rfl nP (.some rfl rfl (by rw [← hx2]; exact PRN.flat (ints_flat _)) .nil)))
      · exact (.cons rfl rfl nP .nil)
      · rw [← hx2, ← hx3]; exact nR
  · exact Wk.of [2, 3, 4, 999] [] rfl (.some rfl rfl nP (.some rfl rfl nP (.some rfl rfl nP (.some rfl rfl nP (.some rfl rfl nP (.none .nil)))))) (.cons rfl rfl nP .nil) (.cons rfl (.fn .nil (.cons (.ptr rfl) (.cons (.ptr rfl) .nil))) (.cons rfl (.ptr rfl) (.cons rfl (.ptr rfl) (.cons rfl (.ptr rfl) (.cons rfl (.self rfl) (.cons rfl (.self rfl) (.cons rfl (.self rfl) .nil)))))))

set_option maxHeartbeats 1000000 in
theorem scale_ok (r c : Nat) (hr : r ≤ 8) (hc : c ≤ 8) (A : List Int) (hA : A.length = r * c) (f : Bool) (q : Int) (hR : 0 < r) (hC : 0 < c) : SoundC Try.prog 124 [.agg [.int .i64 r, .int .i64 c, .sl (.r 0) 0 A.length 1 f], .int .i64 q] ⟨[ints A], []⟩ { val := .tuple [.agg [.int .i64 r, .int .i64 c, .sl (.o 0) 0 (scaleL A q r c).length 1 false], .bool (scaleX A q r c)], newo := [ints (scaleL A q r c)] } := by
  refine SoundC.of (N := 12) Try.func124 rfl rfl rfl rfl ?_
  refine AW.seq ?_
  refine AW.region (by kernel_rfl) ?_
  refine RunF.w (o_box (nm := 0) rfl rfl rfl) nH ?_
  refine RunF.w (o_box (nm := 1) rfl rfl rfl) nH ?_
  refine RunF.w (o_alloc (nm := 2) tz24 rfl) nH ?_
  refine RunF.q (o_assign rfl) rfl ?_
  refine AW.seq ?_
  refine AW.region (by kernel_rfl) ?_
  refine RunF.q (o_load_agg rfl tk24 ts24 rfl rfl rfl nL) rfl ?_
  refine RunF.q (o_call (no := 3) (nr := 1) rfl rfl rfl nC (by rfl) (by exact of_ok r c A f) (by rfl) rfl rfl nV rfl) (by rfl) ?_
  refine RunF.q (o_makeFunc rfl rfl) rfl ?_
  refine RunF.w (o_call (no := 3) (nr := 1) rfl rfl rfl nC (by rfl) (by exact madeS_ok r c hr hc A hA f q hR hC) (by rfl) rfl rfl nV nE) nH ?_
  refine RunF.q (o_extract rfl rfl) rfl ?_
  refine RunF.q (o_extract rfl rfl) rfl ?_
  refine RunF.wn (o_store rfl rfl rfl ts24 rfl rfl) nH ?_
  refine RunF.q (o_assign rfl) rfl ?_
  refine AW.ret ?_
  exact FinQ.ret [3] [] (ress_agg rfl tk24 ts24 rfl rfl rfl (ress_tmp rfl ress_nil)) rfl (.some rfl rfl (PRN.flat (ints_flat _)) .nil) (.cons rfl rfl nP .nil) nR

set_option maxHeartbeats 1000000 in
theorem taken1_ok (n : Nat) (n0 : 0 < n) (n8 : n ≤ 8) (K : List Int) (hK : K.length = n * 1) (w : Bool) (q : Int) : SoundC Try.prog 123 [.int .i64 q, .ptr (.o 0) 0, .ptr (.o 2) 0] ⟨[], [some [.int .i64 n, .int .i64 1, .sl (.o 1) 0 K.length 1 false], some (ints K), some [.ptr (.o 3) 0], some [.bool w]]⟩ { val := .agg [.int .i64 n, .int .i64 1, .sl (.o 4) 0 (scaleL K q n 1).length 1 false], wr := [(3, 0, [.bool (w || scaleX K q n 1)])], newo := [ints (scaleL K q n 1)] } := by
  refine SoundC.of (N := 17) Try.func123 rfl rfl rfl rfl ?_
  refine AW.seq ?_
  refine AW.region (by kernel_rfl) ?_
  refine RunF.w (o_alloc (nm := 4) tz24 rfl) nH ?_
  refine AW.seq ?_
  refine AW.region (by kernel_rfl) ?_
  refine RunF.q (o_load_agg rfl tk24 ts24 rfl rfl rfl nL) rfl ?_
  refine RunF.q (o_move rfl) rfl ?_
  refine RunF.w (o_call (no := 5) (nr := 0) rfl rfl rfl nC (by rfl) (by exact scale_ok n 1 n8 (by decide) K hK false q n0 (by decide)) (by rfl) rfl rfl nV nE) nH ?_
  refine RunF.q (o_move rfl) rfl ?_
  refine RunF.q (o_extract rfl rfl) rfl ?_
  refine RunF.q (o_extract rfl rfl) rfl ?_
  refine RunF.w (o_alloc (nm := 6) tz24 rfl) nH ?_
  refine RunF.wn (o_store rfl rfl rfl ts24 rfl rfl) nH ?_
  refine RunF.q (o_assign rfl) rfl ?_
  refine AW.seq ?_
  refine AW.region (by kernel_rfl) ?_
  refine RunF.q (o_load rfl tk140 ts140 rfl rfl rfl) rfl ?_
  refine RunF.q (o_load_agg rfl tk24 ts24 rfl rfl rfl nL) rfl ?_
  refine RunF.q (o_move rfl) rfl ?_
  refine RunF.w (o_call (no := 7) (nr := 0) rfl rfl rfl nC (by rfl) (by exact wmat_ok n 1 (scaleL K q n 1) false w (scaleX K q n 1) 0) (by rfl) rfl rfl nV nE) nH ?_
  refine RunF.wn (o_store rfl rfl rfl ts24 rfl rfl) nH ?_
  refine AW.ret ?_
  exact FinQ.ret [5] [] (ress_agg rfl tk24 ts24 rfl rfl rfl ress_nil) rfl (.some rfl rfl nP (.some rfl rfl (PRN.flat (ints_flat _)) (.some rfl rfl nP (.some rfl rfl nP (.some rfl rfl (PRN.flat (ints_flat _)) .nil))))) .nil nR

set_option maxHeartbeats 1000000 in
theorem may_ok (XR XC PR PC : Int) (x p : List Int) (f0 f1 : Bool) (hR hC : Int) (hl : List Int) (f2 : Bool) (r : Int) : SoundC Try.prog 86 [.agg [.int .i64 XR, .int .i64 XC, .sl (.r 0) 0 x.length 1 f0, .int .i64 PR, .int .i64 PC, .sl (.r 1) 0 p.length 1 f1], .agg [.int .i64 hR, .int .i64 hC, .sl (.r 2) 0 hl.length 1 f2], .int .i64 r] ⟨[ints x, ints p, ints hl], []⟩ { val := .int .i64 (mayV hR hC XR r) } := by
  refine SoundC.of (N := 22) Try.func86 rfl rfl rfl rfl ?_
  refine AW.seq ?_
  refine AW.region (by kernel_rfl) ?_
  refine RunF.w (o_box (nm := 0) rfl rfl rfl) nH ?_
  refine RunF.w (o_box (nm := 1) rfl rfl rfl) nH ?_
  refine RunF.q (o_assign rfl) rfl ?_
  refine AW.seq ?_
  refine AW.block ?_
  refine AW.seq ?_
  refine AW.region (by kernel_rfl) ?_
  refine RunF.q (o_fieldAddr rfl tk24 rfl ts3 rfl) rfl ?_
  refine RunF.q (o_load rfl tk3 ts3 rfl rfl rfl) rfl ?_
  refine RunF.q (o_neq rfl rfl) rfl ?_
  refine RunF.br (o_move rfl) rfl (fun hb1_3 => ?_) (fun hb1_3 => ?_)
  · try simp only [decide_eq_true_eq, decide_eq_false_iff_not, bne_iff_ne, beq_iff_eq, bne_eq_false_iff_eq, beq_eq_false_iff_ne, ne_eq, Bool.not_eq_true', Bool.not_eq_false'] at hb1_3
    refine RunF.gs (b := true) rfl rfl ?_
    refine RunF.gs (b := true) rfl rfl ?_
    refine RunF.gs (b := true) rfl rfl ?_
    refine RunF.gs (b := true) rfl rfl ?_
    refine RunF.gs (b := true) rfl rfl ?_
    refine RunF.gs (b := true) rfl rfl ?_
    refine RunF.q (o_pick_t rfl rfl) rfl ?_
    refine RunF.q (o_assign rfl) rfl ?_
    refine AW.cond rfl (fun hc0 => ?_) (fun hc0 => absurd hc0 (by simp))
    refine AW.seq ?_
    refine AW.region (by kernel_rfl) ?_
    refine RunF.q (o_assign rfl) rfl ?_
    refine AW.ret ?_
    exact FinQ.ret [] [] (ress_tmp rfl ress_nil) rfl .nil (.cons rfl rfl nP (.cons rfl rfl nP (.cons rfl rfl nP .nil))) (by rw [show mayV hR hC XR r = 9 from by unfold mayV; rw [if_neg (by rintro ⟨h1, h2⟩; first | exact hb1_3 h1 | exact hc0 h2)]]; exact nR)
  · try simp only [decide_eq_true_eq, decide_eq_false_iff_not, bne_iff_ne, beq_iff_eq, bne_eq_false_iff_eq, beq_eq_false_iff_ne, ne_eq, Bool.not_eq_true', Bool.not_eq_false'] at hb1_3
    refine RunF.gq rfl (o_fieldAddr rfl tk24 rfl ts3 rfl) rfl ?_
    refine RunF.gq rfl (o_load rfl tk3 ts3 rfl rfl rfl) rfl ?_
    refine RunF.gq rfl (o_fieldAddr rfl tk41 rfl ts24 rfl) rfl ?_
    refine RunF.gq rfl (o_fieldAddr rfl tk24 rfl ts3 rfl) rfl ?_
    refine RunF.gq rfl (o_load rfl tk3 ts3 rfl rfl rfl) rfl ?_
    refine RunF.gq rfl (o_neq rfl rfl) rfl ?_
    refine RunF.q (o_pick_f rfl rfl) rfl ?_
    refine RunF.q (o_assign rfl) rfl ?_
    refine AW.cond rfl (fun hc0 => ?_) (fun hc0 => ?_)
    · try simp only [decide_eq_true_eq, decide_eq_false_iff_not, bne_iff_ne, beq_iff_eq, bne_eq_false_iff_eq, beq_eq_false_iff_ne, ne_eq, Bool.not_eq_true', Bool.not_eq_false'] at hc0
      refine AW.seq ?_
      refine AW.region (by kernel_rfl) ?_
      refine RunF.q (o_assign rfl) rfl ?_
      refine AW.ret ?_
      exact FinQ.ret [] [] (ress_tmp rfl ress_nil) rfl .nil (.cons rfl rfl nP (.cons rfl rfl nP (.cons rfl rfl nP .nil))) (by rw [show mayV hR hC XR r = 9 from by unfold mayV; rw [if_neg (by rintro ⟨h1, h2⟩; first | exact hb1_3 h1 | exact hc0 h2)]]; exact nR)
    · try simp only [decide_eq_true_eq, decide_eq_false_iff_not, bne_iff_ne, beq_iff_eq, bne_eq_false_iff_eq, beq_eq_false_iff_ne, ne_eq, Bool.not_eq_true', Bool.not_eq_false'] at hc0
      refine AW.seq ?_
      refine AW.region (by kernel_rfl) ?_
      refine RunF.q (o_move rfl) rfl ?_
      refine RunF.q (o_leq rfl rfl) rfl ?_
      refine RunF.q (o_assign rfl) rfl ?_
      refine AW.cond rfl (fun hc1 => ?_) (fun hc1 => ?_)
      · try simp only [decide_eq_true_eq, decide_eq_false_iff_not, bne_iff_ne, beq_iff_eq, bne_eq_false_iff_eq, beq_eq_false_iff_ne, ne_eq, Bool.not_eq_true', Bool.not_eq_false'] at hc1
        refine AW.seq ?_
        refine AW.region (by kernel_rfl) ?_
        refine RunF.q (o_assign rfl) rfl ?_
        refine AW.ret ?_
        exact FinQ.ret [] [] (ress_tmp rfl ress_nil) rfl .nil (.cons rfl rfl nP (.cons rfl rfl nP (.cons rfl rfl nP .nil))) (by rw [show mayV hR hC XR r = 1 from by unfold mayV; rw [if_pos ⟨hb1_3, hc0⟩, if_pos hc1]]; exact nR)
      · try simp only [decide_eq_true_eq, decide_eq_false_iff_not, bne_iff_ne, beq_iff_eq, bne_eq_false_iff_eq, beq_eq_false_iff_ne, ne_eq, Bool.not_eq_true', Bool.not_eq_false'] at hc1
        refine AW.skip ?_
        refine AW.seq ?_
        refine AW.region (by kernel_rfl) ?_
        refine RunF.q (o_assign rfl) rfl ?_
        refine AW.ret ?_
        exact FinQ.ret [] [] (ress_tmp rfl ress_nil) rfl .nil (.cons rfl rfl nP (.cons rfl rfl nP (.cons rfl rfl nP .nil))) (by rw [show mayV hR hC XR r = 0 from by unfold mayV; rw [if_pos ⟨hb1_3, hc0⟩, if_neg hc1]]; exact nR)

set_option maxHeartbeats 1000000 in
theorem innov_ok (n : Nat) (n0 : 0 < n) (n8 : n ≤ 8) (x p hl : List Int) (hx : x.length = n * 1) (hp : p.length = n * n) (hH : hl.length = 1 * n) (f0 f1 f2 w : Bool) (z r : Int) : SoundC Try.prog 87 [.ptr (.o 0) 0, .agg [.int .i64 n, .int .i64 1, .sl (.r 0) 0 x.length 1 f0, .int .i64 n, .int .i64 n, .sl (.r 1) 0 p.length 1 f1], .agg [.int .i64 1, .int .i64 n, .sl (.r 2) 0 hl.length 1 f2], .int .i64 z, .int .i64 r] ⟨[ints x, ints p, ints hl], [some [.bool w]]⟩ { val := .tuple [.int .i64 (offY hl x n z), .int .i64 (offS hl p n r)], wr := [(0, 0, [.bool (offO hl x p n z r w)])] } := by
  refine SoundC.of (N := 51) Try.func87 rfl rfl rfl rfl ?_
  refine AW.seq ?_
  refine AW.region (by kernel_rfl) ?_
  refine RunF.w (o_box (nm := 1) rfl rfl rfl) nH ?_
  refine RunF.w (o_box (nm := 2) rfl rfl rfl) nH ?_
  refine RunF.q (o_assign rfl) rfl ?_
  refine RunF.q (o_assign rfl) rfl ?_
  refine AW.seq ?_
  refine AW.region (by kernel_rfl) ?_
  refine RunF.q (o_move rfl) rfl ?_
  refine RunF.q (o_makeFunc rfl rfl) rfl ?_
  refine RunF.q (o_assign rfl) rfl ?_
  refine AW.seq ?_
  refine AW.region (by kernel_rfl) ?_
  refine RunF.q (o_move rfl) rfl ?_
  refine RunF.q (o_move rfl) rfl ?_
  refine RunF.q (o_move rfl) rfl ?_
  refine RunF.q (o_load_agg rfl tk24 ts24 rfl rfl rfl nL) rfl ?_
  refine RunF.q (o_fieldAddr rfl tk41 rfl ts24 rfl) rfl ?_
  refine RunF.q (o_load_agg rfl tk24 ts24 rfl rfl rfl nL) rfl ?_
  refine RunF.w (o_call (no := 3) (nr := 3) rfl rfl rfl nC (by rfl) (by exact mmul_ok 1 n 1 (by decide) n8 (by decide) hl x hH hx f2 f0 (by decide) (by decide)) (by rfl) rfl rfl nV nE) nH ?_
  refine RunF.q (o_extract rfl rfl) rfl ?_
  refine RunF.q (o_extract rfl rfl) rfl ?_
  refine RunF.q (o_extract rfl rfl) rfl ?_
  refine RunF.w (o_call (no := 4) (nr := 3) rfl rfl rfl nC (by rfl) (by exact wmat_ok 1 1 (mulL hl x 1 n 1) false w (mulX hl x 1 n 1) 0) (by rfl) rfl rfl nV nE) nH ?_
  refine RunF.q (o_field rfl tk24 rfl (by simp only [part?, tk22, ts22]; rfl)) rfl ?_
  refine RunF.q (o_indexAddr (m := 0) tk22 ts30 rfl rfl (by rw [mulL_len]; decide) (by decide)) rfl ?_
  refine RunF.q (o_load rfl tk30 ts30 rfl rfl (ints_getD _ 0 (by rw [mulL_len]; decide))) rfl ?_
  refine RunF.q (o_call (no := 4) (nr := 3) rfl rfl rfl nC (by rfl) (by exact sub_ok _ _) (by rfl) rfl rfl nV rfl) (by rfl) ?_
  refine RunF.q (o_extract rfl rfl) rfl ?_
  refine RunF.q (o_extract rfl rfl) rfl ?_
  refine RunF.w (o_call (no := 4) (nr := 3) rfl rfl rfl nC (by rfl) (by exact wone_ok _ _ _) (by rfl) rfl rfl nV nE) nH ?_
  refine RunF.q (o_assign rfl) rfl ?_
  refine AW.seq ?_
  refine AW.region (by kernel_rfl) ?_
  refine RunF.q (o_move rfl) rfl ?_
  refine RunF.q (o_move rfl) rfl ?_
  refine RunF.q (o_load_agg rfl tk24 ts24 rfl rfl rfl nL) rfl ?_
  refine RunF.q (o_fieldAddr rfl tk41 rfl ts24 rfl) rfl ?_
  refine RunF.q (o_load_agg rfl tk24 ts24 rfl rfl rfl nL) rfl ?_
  refine RunF.w (o_call (no := 4) (nr := 3) rfl rfl rfl nC (by rfl) (by exact bet_ok 1 n (by decide) n8 (by decide) n0 hl p hH hp f2 f1 _) (by rfl) rfl rfl nV nE) nH ?_
  refine RunF.q (o_field rfl tk24 rfl (by simp only [part?, tk22, ts22]; rfl)) rfl ?_
  refine RunF.q (o_indexAddr (m := 0) tk22 ts30 rfl rfl (by rw [betL_len]; decide) (by decide)) rfl ?_
  refine RunF.q (o_load rfl tk30 ts30 rfl rfl (ints_getD _ 0 (by rw [betL_len]; decide))) rfl ?_
  refine RunF.q (o_move rfl) rfl ?_
  refine RunF.q (o_call (no := 5) (nr := 3) rfl rfl rfl nC (by rfl) (by exact add_ok _ _) (by rfl) rfl rfl nV rfl) (by rfl) ?_
  refine RunF.q (o_extract rfl rfl) rfl ?_
  refine RunF.q (o_extract rfl rfl) rfl ?_
  refine RunF.w (o_call (no := 5) (nr := 3) rfl rfl rfl nC (by rfl) (by exact wone_ok _ _ _) (by rfl) rfl rfl nV nE) nH ?_
  refine RunF.q (o_assign rfl) rfl ?_
  refine AW.seq ?_
  refine AW.region (by kernel_rfl) ?_
  refine RunF.q (o_move rfl) rfl ?_
  refine RunF.q (o_move rfl) rfl ?_
  refine RunF.q (o_assign rfl) rfl ?_
  refine RunF.q (o_assign rfl) rfl ?_
  refine AW.ret ?_
  exact FinQ.ret [] [] (ress_tmp rfl (ress_tmp rfl ress_nil)) rfl (.some rfl rfl nP .nil) (.cons rfl rfl nP (.cons rfl rfl nP (.cons rfl rfl nP .nil))) nR

end Go.Proofs.Ytnkijhpikeokfaa

/- A track held against a measured number, by its contract. -/
namespace Go.Proofs.Ytnkijhpikeokfaa
open Go Go.Sym Go.IntWalk

/-- each number taken apart from on, of the first i -/
def kdN (K : List Int) (D : Int → Int × Bool) : Nat → List Int
  | 0 => K
  | i + 1 => (kdN K D i).set i (D (K.getD i 0)).1
def kdF (K : List Int) (D : Int → Int × Bool) (w : Bool) : Nat → Bool
  | 0 => w
  | i + 1 => kdF K D w i || (D (K.getD i 0)).2
theorem kdN_length (K : List Int) (D : Int → Int × Bool) : ∀ i, (kdN K D i).length = K.length
  | 0 => rfl
  | i + 1 => by simp only [kdN, List.length_set]; exact kdN_length K D i
theorem kdN_at {K : List Int} {D : Int → Int × Bool} {j : Nat} (hj : j < K.length) : ∀ i, i ≤ K.length → (kdN K D i).getD j 0 = if j < i then (D (K.getD j 0)).1 else K.getD j 0
  | 0, _ => by simp [kdN]
  | i + 1, hi => by
    have hl := kdN_length K D i
    simp only [kdN]
    rw [getD_set (by omega)]
    have ih := kdN_at (D := D) hj i (by omega)
    by_cases e : i = j
    · subst e; rw [if_pos rfl, if_pos (by omega)]
    · rw [if_neg e, ih]
      by_cases h : j < i
      · rw [if_pos h, if_pos (by omega)]
      · rw [if_neg h, if_neg (by omega)]

def gain0 (p hl : List Int) (n : Nat) : List Int := mulL p (trL hl n 1) n n 1
def gain (p hl : List Int) (n : Nat) (D : Int → Int × Bool) : List Int := kdN (gain0 p hl n) D n
def takeX (x K : List Int) (y : Int) (n : Nat) : List Int := zipM addD x (scaleL K y n 1) n 1
def takeI (K hl : List Int) (n : Nat) : List Int := zipM subD (eyeL n) (mulL K hl n 1 n) n n
def takeR (K : List Int) (r : Int) (n : Nat) : List Int := mulL (scaleL K r n 1) (trL K 1 n) n 1 n
def takeQ (K hl p : List Int) (r : Int) (n : Nat) : List Int := zipM addD (betL (takeI K hl n) p n n) (takeR K r n) n n
def takeP (K hl p : List Int) (r : Int) (n : Nat) : List Int := goodL (takeQ K hl p r n) n
def takeO (x p hl : List Int) (y r : Int) (n : Nat) (D : Int → Int × Bool) (w : Bool) : Bool :=
  kdF (gain0 p hl n) D (w || mulX p (trL hl n 1) n n 1) n || scaleX (gain p hl n D) y n 1 || zipX addD x (scaleL (gain p hl n D) y n 1) n 1 || mulX (gain p hl n D) hl n 1 n || zipX subD (eyeL n) (mulL (gain p hl n D) hl n 1 n) n n ||
    mulX (takeI (gain p hl n D) hl n) p n n n || mulX (mulL (takeI (gain p hl n D) hl n) p n n n) (trL (takeI (gain p hl n D) hl n) n n) n n n || scaleX (gain p hl n D) r n 1 || mulX (scaleL (gain p hl n D) r n 1) (trL (gain p hl n D) 1 n) n 1 n ||
    zipX addD (betL (takeI (gain p hl n D) hl n) p n n) (takeR (gain p hl n D) r n) n n
theorem gain_def (p hl : List Int) (n : Nat) (D : Int → Int × Bool) : gain p hl n D = kdN (gain0 p hl n) D n := rfl
theorem gain0_length (p hl : List Int) (n : Nat) : (gain0 p hl n).length = n * 1 := mulL_len _ _ _ _ _
theorem gain_length (p hl : List Int) (n : Nat) (D : Int → Int × Bool) : (gain p hl n D).length = n * 1 := by unfold gain; rw [kdN_length, gain0_length]
theorem gain_len0 (p hl : List Int) (n : Nat) (D : Int → Int × Bool) : (gain0 p hl n).length = (gain p hl n D).length := by rw [gain_length, gain0_length]

set_option maxHeartbeats 4000000 in
theorem taken_ok (n : Nat) (n0 : 0 < n) (n8 : n ≤ 8) (x p hl : List Int) (hx : x.length = n * 1) (hp : p.length = n * n) (hH : hl.length = 1 * n) (f0 f1 f2 : Bool) (w : Bool) (y s r : Int) (D : Int → Int × Bool) (hD : ∀ i, i < n → SoundC Try.prog 122 [.int .i64 ((gain0 p hl n).getD i 0), .int .i64 s] ⟨[], []⟩ { val := .tuple [.int .i64 (D ((gain0 p hl n).getD i 0)).1, .bool (D ((gain0 p hl n).getD i 0)).2] }) : SoundC Try.prog 89 [.ptr (.o 0) 0, .agg [.int .i64 n, .int .i64 1, .sl (.r 0) 0 x.length 1 f0, .int .i64 n, .int .i64 n, .sl (.r 1) 0 p.length 1 f1], .agg [.int .i64 1, .int .i64 n, .sl (.r 2) 0 hl.length 1 f2], .int .i64 y, .int .i64 s, .int .i64 r] ⟨[ints x, ints p, ints hl], [some [.bool w]]⟩ { val := .agg [.int .i64 n, .int .i64 1, .sl (.o 1) 0 (takeX x (gain p hl n D) y n).length 1 false, .int .i64 n, .int .i64 n, .sl (.o 2) 0 (takeP (gain p hl n D) hl p r n).length 1 false], wr := [(0, 0, [.bool (takeO x p hl y r n D w)])], newo := [ints (takeX x (gain p hl n D) y n), ints (takeP (gain p hl n D) hl p r n)] } := by
  have hsm := small_mul n8 n8
  have hG0 := gain0_length p hl n
  have hK := gain_length p hl n D
  refine SoundC.of (N := 113) Try.func89 rfl rfl rfl rfl ?_
  refine AW.seq ?_
  refine AW.region (by kernel_rfl) ?_
  refine RunF.w (o_box (nm := 1) rfl rfl rfl) nH2 ?_
  refine RunF.w (o_box (nm := 2) rfl rfl rfl) nH2 ?_
  refine RunF.w (o_box (nm := 3) rfl rfl rfl) nH2 ?_
  refine RunF.w (o_alloc (nm := 4) tz41 rfl) nH2 ?_
  refine AW.seq ?_
  refine AW.draws (by kernel_rfl) (by kernel_rfl) ?_
  refine RunV.q (o_load rfl tk140 ts140 rfl rfl rfl) rfl ?_
  refine RunV.q (o_fieldAddr rfl tk41 rfl ts24 rfl) rfl ?_
  refine RunV.q (o_load_agg rfl tk24 ts24 rfl rfl rfl nL) rfl ?_
  refine RunV.q (o_load_agg rfl tk24 ts24 rfl rfl rfl nL) rfl ?_
  refine RunV.w (o_call (no := 5) (nr := 3) rfl rfl rfl nC (by rfl) (by exact trans_ok 1 n (by decide) n8 hl hH f2 (by decide) n0) (by rfl) rfl rfl nV nE) nH2 ?_
  refine RunV.w (o_call (no := 6) (nr := 3) rfl rfl rfl nC (by rfl) (by exact mmul_ok n n 1 n8 n8 (by decide) p (trL hl n 1) hp (trL_length _ _ _) f1 false n0 (by decide)) (by rfl) rfl rfl nV nE) nH2 ?_
  refine RunV.q (o_extract rfl rfl) rfl ?_
  refine RunV.q (o_extract rfl rfl) rfl ?_
  refine RunV.q (o_extract rfl rfl) rfl ?_
  refine RunV.w (o_call (no := 7) (nr := 3) rfl rfl rfl nC (by rfl) (by exact wmat_ok n 1 (mulL p (trL hl n 1) n n 1) false w (mulX p (trL hl n 1) n n 1) 0) (by rfl) rfl rfl nV nE2) nH2 ?_
  refine RunV.w (o_alloc (nm := 7) tz24 rfl) nH2 ?_
  refine RunV.wn (o_store rfl rfl rfl ts24 rfl rfl) nH2 ?_
  refine And.intro (by kernel_rfl) ?_
  refine AW.seq ?_
  refine AW.seq ?_
  refine AW.region (by kernel_rfl) ?_
  refine RunF.q (o_fieldAddr rfl tk24 rfl ts22 rfl) rfl ?_
  refine RunF.q (o_load rfl tk22 ts22 rfl rfl rfl) rfl ?_
  first | refine RunF.q (o_len tk22 rfl) rfl ?_ | refine RunF.q (o_len_nil tk22 rfl) rfl ?_
  refine RunF.q (o_move rfl) rfl ?_
  refine AW.block ?_
  refine AW.loop (α := {i : Nat // i ≤ n}) (fun v : {i : Nat // i ≤ n} => ([(3, .int .i64 y), (4, .int .i64 s), (5, .int .i64 r), (6, .ptr (.o 1) 0), (7, .ptr (.o 2) 0), (8, .ptr (.o 3) 0), (12, .ptr (.o 4) 0), (13, .ptr (.o 7) 0), (33, .sl (.o 6) 0 (gain0 p hl n).length 1 false), (34, .int .i64 (gain0 p hl n).length), (35, .int .i64 v.1)], ⟨[ints x, ints p, ints hl], [some [.bool (kdF (gain0 p hl n) D (w || mulX p (trL hl n 1) n n 1) v.1)], some [.ptr (.o 0) 0], some [.int .i64 n, .int .i64 1, .sl (.r 0) 0 x.length 1 f0, .int .i64 n, .int .i64 n, .sl (.r 1) 0 p.length 1 f1], some [.int .i64 1, .int .i64 n, .sl (.r 2) 0 hl.length 1 f2], some [.int .i64 0, .int .i64 0, .nilsl, .int .i64 0, .int .i64 0, .nilsl], some (ints (trL hl n 1)), some (ints (kdN (gain0 p hl n) D v.1)), some [.int .i64 n, .int .i64 1, .sl (.o 6) 0 (gain0 p hl n).length 1 false]]⟩)) (fun v => n - v.1) (fun v => ?_) ⟨0, by omega⟩ ?_
  · obtain ⟨i, hv⟩ := v
    try dsimp only at hv
    try dsimp only
    refine AW.seq ?_
    refine AW.region (by kernel_rfl) ?_
    refine RunF.q (o_lss rfl rfl) rfl ?_
    refine AW.seq ?_
    refine AW.cond rfl (fun hc0 => ?_) (fun hc0 => ?_)
    · try simp only [decide_eq_true_eq, decide_eq_false_iff_not, bne_iff_ne, beq_iff_eq, bne_eq_false_iff_eq, beq_eq_false_iff_ne, ne_eq, Bool.not_eq_true', Bool.not_eq_false'] at hc0
      have hi : i < n := by omega
      have hkl := kdN_length (gain0 p hl n) D i
      have hld : (ints (kdN (gain0 p hl n) D i))[i]? = some (.int .i64 ((gain0 p hl n).getD i 0)) := by rw [ints_getD _ i (by omega), kdN_at (by omega) i (by omega), if_neg (by omega)]
      refine AW.skip ?_
      refine AW.seq ?_
      refine AW.block ?_
      refine AW.seq ?_
      refine AW.region (by kernel_rfl) ?_
      refine RunF.q (o_move rfl) rfl ?_
      refine RunF.q (o_indexAddr (m := i) tk22 ts30 rfl rfl (by omega) (by omega)) rfl ?_
      refine RunF.q (o_load rfl tk30 ts30 rfl rfl hld) rfl ?_
      refine RunF.q (o_assign rfl) rfl ?_
      refine RunF.q (o_assign rfl) rfl ?_
      refine AW.draws (by kernel_rfl) (by kernel_rfl) ?_
      refine RunV.q (o_fieldAddr rfl tk24 rfl ts22 rfl) rfl ?_
      refine RunV.q (o_load rfl tk22 ts22 rfl rfl rfl) rfl ?_
      refine RunV.q (o_move rfl) rfl ?_
      refine RunV.q (o_load rfl tk140 ts140 rfl rfl rfl) rfl ?_
      refine RunV.q (o_move rfl) rfl ?_
      refine RunV.q (o_move rfl) rfl ?_
      refine RunV.q (o_call (no := 8) (nr := 3) rfl rfl rfl nC (by rfl) (by exact hD i hi) (by rfl) rfl rfl nV rfl) (by rfl) ?_
      refine RunV.q (o_extract rfl rfl) rfl ?_
      refine RunV.q (o_extract rfl rfl) rfl ?_
      refine RunV.w (o_call (no := 8) (nr := 3) rfl rfl rfl nC (by rfl) (by exact wone_ok _ _ _) (by rfl) rfl rfl nV nE2) nH2 ?_
      refine RunV.q (o_indexAddr (m := i) tk22 ts30 rfl rfl (by omega) (by omega)) rfl ?_
      refine RunV.wn (o_store rfl rfl rfl ts30 rfl (store_int (by omega))) (by simp only [H.app, appO, patchAll, patch, List.map_cons, List.map_nil, List.append_nil, List.nil_append, List.cons_append, Option.map_some, Option.map_none, List.contains_cons, List.contains_nil, List.getD_cons_zero, List.getD_cons_succ, Nat.reduceAdd, Nat.reduceEqDiff, Nat.reduceBEq, Bool.or_false, Bool.false_eq_true, reduceIte, Nat.zero_add, ints_set]; rfl) ?_
      refine And.intro (by kernel_rfl) ?_
      refine AW.region (by kernel_rfl) ?_
      refine RunF.q (o_add rfl rfl (by first | exact i64_in _ (by omega) | rfl)) rfl ?_
      refine RunF.q (o_move rfl) rfl ?_
      exact ⟨⟨i + 1, by omega⟩, Wk.same rfl (.cons rfl (.cons rfl (.cons rfl (.cons rfl (.cons rfl (.cons rfl (.cons rfl (.cons rfl (.cons rfl (.cons rfl (.cons rfl .nil))))))))))), by dsimp only; omega⟩
    · try simp only [decide_eq_true_eq, decide_eq_false_iff_not, bne_iff_ne, beq_iff_eq, bne_eq_false_iff_eq, beq_eq_false_iff_ne, ne_eq, Bool.not_eq_true', Bool.not_eq_false'] at hc0
      obtain rfl : n = i := by omega
      rw [gain_len0 p hl n D, ← gain_def p hl n D]
      refine AW.exit ?_
      refine AW.seq ?_
      refine AW.region (by kernel_rfl) ?_
      refine RunF.q (o_makeFunc rfl rfl) rfl ?_
      refine RunF.q (o_assign rfl) rfl ?_
      refine AW.seq ?_
      refine AW.draws (by kernel_rfl) (by kernel_rfl) ?_
      refine RunV.q (o_load rfl tk140 ts140 rfl rfl rfl) rfl ?_
      refine RunV.q (o_fieldAddr rfl tk41 rfl ts24 rfl) rfl ?_
      refine RunV.q (o_load_agg rfl tk24 ts24 rfl rfl rfl nL) rfl ?_
      refine RunV.q (o_move rfl) rfl ?_
      refine RunV.q (o_move rfl) rfl ?_
      refine RunV.w (o_call (no := 8) (nr := 3) rfl rfl rfl nC (by simp [CS.ok, lensOK, H.get]) (by exact taken1_ok n n0 n8 (gain p hl n D) hK _ y) (by rfl) rfl rfl nV nE2) nH2 ?_
      refine RunV.w (o_call (no := 9) (nr := 3) rfl rfl rfl nC (by rfl) (by exact madd_ok n 1 n8 (by decide) n0 (by decide) x (scaleL (gain p hl n D) y n 1) hx (scaleL_length _ _ _ _) f0 false) (by rfl) rfl rfl nV nE) nH2 ?_
      refine RunV.q (o_extract rfl rfl) rfl ?_
      refine RunV.q (o_extract rfl rfl) rfl ?_
      refine RunV.q (o_extract rfl rfl) rfl ?_
      refine RunV.w (o_call (no := 10) (nr := 3) rfl rfl rfl nC (by rfl) (by exact wmat_ok n 1 (zipM addD x (scaleL (gain p hl n D) y n 1) n 1) false _ (zipX addD x (scaleL (gain p hl n D) y n 1) n 1) 0) (by rfl) rfl rfl nV nE2) nH2 ?_
      refine RunV.w (o_alloc (nm := 10) tz24 rfl) nH2 ?_
      refine RunV.wn (o_store rfl rfl rfl ts24 rfl rfl) nH2 ?_
      refine And.intro (by kernel_rfl) ?_
      refine AW.seq ?_
      refine AW.region (by kernel_rfl) ?_
      refine RunF.q (o_fieldAddr rfl tk41 rfl ts24 rfl) rfl ?_
      refine RunF.q (o_fieldAddr rfl tk24 rfl ts3 rfl) rfl ?_
      refine RunF.q (o_load rfl tk3 ts3 rfl rfl rfl) rfl ?_
      refine RunF.w (o_call (no := 11) (nr := 3) rfl rfl rfl nC (by rfl) (by exact eye_ok n n0 n8) (by rfl) rfl rfl nV nE) nH2 ?_
      refine RunF.q (o_move rfl) rfl ?_
      refine RunF.q (o_extract rfl rfl) rfl ?_
      refine RunF.q (o_extract rfl rfl) rfl ?_
      refine RunF.w (o_alloc (nm := 12) tz24 rfl) nH2 ?_
      refine RunF.wn (o_store rfl rfl rfl ts24 rfl rfl) nH2 ?_
      refine RunF.q (o_assign rfl) rfl ?_
      refine AW.seq ?_
      refine AW.draws (by kernel_rfl) (by kernel_rfl) ?_
      refine RunV.q (o_load rfl tk140 ts140 rfl rfl rfl) rfl ?_
      refine RunV.q (o_load_agg rfl tk24 ts24 rfl rfl rfl nL) rfl ?_
      refine RunV.q (o_load rfl tk140 ts140 rfl rfl rfl) rfl ?_
      refine RunV.q (o_load_agg rfl tk24 ts24 rfl rfl rfl nL) rfl ?_
      refine RunV.q (o_load_agg rfl tk24 ts24 rfl rfl rfl nL) rfl ?_
      refine RunV.w (o_call (no := 13) (nr := 3) rfl rfl rfl nC (by rfl) (by exact mmul_ok n 1 n n8 (by decide) n8 (gain p hl n D) hl hK hH false f2 n0 n0) (by rfl) rfl rfl nV nE) nH2 ?_
      refine RunV.q (o_extract rfl rfl) rfl ?_
      refine RunV.q (o_extract rfl rfl) rfl ?_
      refine RunV.q (o_extract rfl rfl) rfl ?_
      refine RunV.w (o_call (no := 14) (nr := 3) rfl rfl rfl nC (by rfl) (by exact wmat_ok n n (mulL (gain p hl n D) hl n 1 n) false _ (mulX (gain p hl n D) hl n 1 n) 0) (by rfl) rfl rfl nV nE2) nH2 ?_
      refine RunV.w (o_call (no := 14) (nr := 3) rfl rfl rfl nC (by rfl) (by exact msub_ok n n n8 n8 n0 n0 (eyeL n) (mulL (gain p hl n D) hl n 1 n) (eyeL_length n) (mulL_len _ _ _ _ _) false false) (by rfl) rfl rfl nV nE) nH2 ?_
      refine RunV.q (o_extract rfl rfl) rfl ?_
      refine RunV.q (o_extract rfl rfl) rfl ?_
      refine RunV.q (o_extract rfl rfl) rfl ?_
      refine RunV.w (o_call (no := 15) (nr := 3) rfl rfl rfl nC (by rfl) (by exact wmat_ok n n (zipM subD (eyeL n) (mulL (gain p hl n D) hl n 1 n) n n) false _ (zipX subD (eyeL n) (mulL (gain p hl n D) hl n 1 n) n n) 0) (by rfl) rfl rfl nV nE2) nH2 ?_
      refine RunV.w (o_alloc (nm := 15) tz24 rfl) nH2 ?_
      refine RunV.wn (o_store rfl rfl rfl ts24 rfl rfl) nH2 ?_
      refine And.intro (by kernel_rfl) ?_
      refine AW.seq ?_
      refine AW.region (by kernel_rfl) ?_
      refine RunF.q (o_load rfl tk140 ts140 rfl rfl rfl) rfl ?_
      refine RunF.q (o_load_agg rfl tk24 ts24 rfl rfl rfl nL) rfl ?_
      refine RunF.q (o_fieldAddr rfl tk41 rfl ts24 rfl) rfl ?_
      refine RunF.q (o_load_agg rfl tk24 ts24 rfl rfl rfl nL) rfl ?_
      refine RunF.w (o_call (no := 16) (nr := 3) rfl rfl rfl nC (by rfl) (by exact bet_ok n n n8 n8 n0 n0 (zipM subD (eyeL n) (mulL (gain p hl n D) hl n 1 n) n n) p (zipM_length _ _ _ _ _) hp false f1 _) (by rfl) rfl rfl nV nE2) nH2 ?_
      refine RunF.w (o_alloc (nm := 17) tz24 rfl) nH2 ?_
      refine RunF.wn (o_store rfl rfl rfl ts24 rfl rfl) nH2 ?_
      refine AW.seq ?_
      refine AW.draws (by kernel_rfl) (by kernel_rfl) ?_
      refine RunV.q (o_load rfl tk140 ts140 rfl rfl rfl) rfl ?_
      refine RunV.q (o_load_agg rfl tk24 ts24 rfl rfl rfl nL) rfl ?_
      refine RunV.q (o_load rfl tk140 ts140 rfl rfl rfl) rfl ?_
      refine RunV.q (o_move rfl) rfl ?_
      refine RunV.q (o_move rfl) rfl ?_
      refine RunV.w (o_call (no := 18) (nr := 3) rfl rfl rfl nC (by simp [CS.ok, lensOK, H.get]) (by exact taken1_ok n n0 n8 (gain p hl n D) hK _ r) (by rfl) rfl rfl nV nE2) nH2 ?_
      refine RunV.q (o_load_agg rfl tk24 ts24 rfl rfl rfl nL) rfl ?_
      refine RunV.w (o_call (no := 19) (nr := 3) rfl rfl rfl nC (by rfl) (by exact trans_ok n 1 n8 (by decide) (gain p hl n D) hK false n0 (by decide)) (by rfl) rfl rfl nV nE) nH2 ?_
      refine RunV.w (o_call (no := 20) (nr := 3) rfl rfl rfl nC (by rfl) (by exact mmul_ok n 1 n n8 (by decide) n8 (scaleL (gain p hl n D) r n 1) (trL (gain p hl n D) 1 n) (scaleL_length _ _ _ _) (trL_length _ _ _) false false n0 n0) (by rfl) rfl rfl nV nE) nH2 ?_
      refine RunV.q (o_extract rfl rfl) rfl ?_
      refine RunV.q (o_extract rfl rfl) rfl ?_
      refine RunV.q (o_extract rfl rfl) rfl ?_
      refine RunV.w (o_call (no := 21) (nr := 3) rfl rfl rfl nC (by rfl) (by exact wmat_ok n n (mulL (scaleL (gain p hl n D) r n 1) (trL (gain p hl n D) 1 n) n 1 n) false _ (mulX (scaleL (gain p hl n D) r n 1) (trL (gain p hl n D) 1 n) n 1 n) 0) (by rfl) rfl rfl nV nE2) nH2 ?_
      refine RunV.w (o_call (no := 21) (nr := 3) rfl rfl rfl nC (by rfl) (by exact madd_ok n n n8 n8 n0 n0 (betL (zipM subD (eyeL n) (mulL (gain p hl n D) hl n 1 n) n n) p n n) (mulL (scaleL (gain p hl n D) r n 1) (trL (gain p hl n D) 1 n) n 1 n) (betL_len _ _ _ _) (mulL_len _ _ _ _ _) false false) (by rfl) rfl rfl nV nE) nH2 ?_
      refine RunV.q (o_extract rfl rfl) rfl ?_
      refine RunV.q (o_extract rfl rfl) rfl ?_
      refine RunV.q (o_extract rfl rfl) rfl ?_
      refine RunV.w (o_call (no := 22) (nr := 3) rfl rfl rfl nC (by rfl) (by exact wmat_ok n n (zipM addD (betL (zipM subD (eyeL n) (mulL (gain p hl n D) hl n 1 n) n n) p n n) (mulL (scaleL (gain p hl n D) r n 1) (trL (gain p hl n D) 1 n) n 1 n) n n) false _ (zipX addD (betL (zipM subD (eyeL n) (mulL (gain p hl n D) hl n 1 n) n n) p n n) (mulL (scaleL (gain p hl n D) r n 1) (trL (gain p hl n D) 1 n) n 1 n) n n) 0) (by rfl) rfl rfl nV nE2) nH2 ?_
      refine RunV.wn (o_store rfl rfl rfl ts24 rfl rfl) nH2 ?_
      refine And.intro (by kernel_rfl) ?_
      refine AW.seq ?_
      refine AW.draws (by kernel_rfl) (by kernel_rfl) ?_
      refine RunV.q (o_load_agg rfl tk24 ts24 rfl rfl rfl nL) rfl ?_
      refine RunV.q (o_load_agg rfl tk24 ts24 rfl rfl rfl nL) rfl ?_
      refine RunV.w (o_call (no := 22) (nr := 3) rfl rfl rfl nC (by rfl) (by exact kgood_ok n n0 n8 (zipM addD (betL (zipM subD (eyeL n) (mulL (gain p hl n D) hl n 1 n) n n) p n n) (mulL (scaleL (gain p hl n D) r n 1) (trL (gain p hl n D) 1 n) n 1 n) n n) (zipM_length _ _ _ _ _) false (zipM_inQ_add _ _ _ _)) (by rfl) rfl rfl nV nE) nH2 ?_
      refine RunV.q (o_build tk41 tz41 pl41 rfl rfl) rfl ?_
      refine RunV.wn (o_store rfl rfl rfl ts41 rfl rfl) nH2 ?_
      refine And.intro (by kernel_rfl) ?_
      refine AW.ret ?_
      exact FinQ.ret [9, 22] [] (ress_agg rfl tk41 ts41 rfl rfl rfl ress_nil) rfl (.some rfl rfl nP (.some rfl rfl (PRN.flat (ints_flat _)) (.some rfl rfl (PRN.flat (ints_flat _)) .nil))) (.cons rfl rfl nP (.cons rfl rfl nP (.cons rfl rfl nP .nil))) nR
  · exact Wk.same rfl (.cons rfl (.cons rfl (.cons rfl (.cons rfl (.cons rfl (.cons rfl (.cons rfl (.cons rfl (.cons rfl (.cons rfl (.cons rfl .nil)))))))))))

end Go.Proofs.Ytnkijhpikeokfaa

/- Update and Innov, by their contracts. -/
namespace Go.Proofs.Ytnkijhpikeokfaa
open Go Go.Sym Go.IntWalk

theorem mayV_ok {hR hC XR r : Int} (h1 : hR = 1) (h2 : hC = XR) (h3 : 0 < r) : mayV hR hC XR r = 0 := by unfold mayV; rw [if_pos ⟨h1, h2⟩, if_neg (by omega)]
theorem may_is {XR XC PR PC hR hC r v : Int} {x p hl : List Int} {f0 f1 f2 : Bool} (h : mayV hR hC XR r = v) : SoundC Try.prog 86 [.agg [.int .i64 XR, .int .i64 XC, .sl (.r 0) 0 x.length 1 f0, .int .i64 PR, .int .i64 PC, .sl (.r 1) 0 p.length 1 f1], .agg [.int .i64 hR, .int .i64 hC, .sl (.r 2) 0 hl.length 1 f2], .int .i64 r] ⟨[ints x, ints p, ints hl], []⟩ { val := .int .i64 v } := by rw [← h]; exact may_ok XR XC PR PC x p f0 f1 hR hC hl f2 r

set_option maxHeartbeats 1000000 in
theorem Innov_no (XR XC PR PC : Int) (x p : List Int) (f0 f1 : Bool) (hR hC : Int) (hl : List Int) (f2 : Bool) (z r : Int) (hm : mayV hR hC XR r ≠ 0) : SoundC Try.prog 46 [.agg [.int .i64 XR, .int .i64 XC, .sl (.r 0) 0 x.length 1 f0, .int .i64 PR, .int .i64 PC, .sl (.r 1) 0 p.length 1 f1], .agg [.int .i64 hR, .int .i64 hC, .sl (.r 2) 0 hl.length 1 f2], .int .i64 z, .int .i64 r] ⟨[ints x, ints p, ints hl], []⟩ { val := .tuple [.int .i64 0, .int .i64 0, .bool false, .int .i64 (mayV hR hC XR r)] } := by
  refine SoundC.of (N := 40) Try.func46 rfl rfl rfl rfl ?_
  refine AW.seq ?_
  refine AW.region (by kernel_rfl) ?_
  refine RunF.w (o_box (nm := 0) rfl rfl rfl) nH ?_
  refine RunF.w (o_box (nm := 1) rfl rfl rfl) nH ?_
  refine RunF.q (o_assign rfl) rfl ?_
  refine RunF.q (o_assign rfl) rfl ?_
  refine RunF.q (o_assign rfl) rfl ?_
  refine RunF.q (o_assign rfl) rfl ?_
  refine AW.seq ?_
  refine AW.seq ?_
  refine AW.region (by kernel_rfl) ?_
  refine RunF.q (o_load_agg rfl tk41 ts41 rfl rfl rfl nL) rfl ?_
  refine RunF.q (o_load_agg rfl tk24 ts24 rfl rfl rfl nL) rfl ?_
  refine RunF.q (o_move rfl) rfl ?_
  refine RunF.q (o_call (no := 2) (nr := 3) rfl rfl rfl nC (by rfl) (by exact may_ok XR XC PR PC x p f0 f1 hR hC hl f2 r) (by rfl) rfl rfl nV rfl) (by rfl) ?_
  refine RunF.q (o_assign rfl) rfl ?_
  refine AW.seq ?_
  refine AW.region (by kernel_rfl) ?_
  refine RunF.q (o_move rfl) rfl ?_
  refine RunF.q (o_neq rfl rfl) rfl ?_
  refine AW.cond rfl (fun hc0 => ?_) (fun hc0 => absurd hc0 (by simpa using hm))
  refine AW.seq ?_
  refine AW.region (by kernel_rfl) ?_
  refine RunF.q (o_move rfl) rfl ?_
  refine RunF.q (o_assign rfl) rfl ?_
  refine RunF.q (o_assign rfl) rfl ?_
  refine RunF.q (o_assign rfl) rfl ?_
  refine RunF.q (o_assign rfl) rfl ?_
  refine AW.ret ?_
  exact FinQ.ret [] [] (ress_tmp rfl (ress_tmp rfl (ress_tmp rfl (ress_tmp rfl ress_nil)))) rfl .nil (.cons rfl rfl nP (.cons rfl rfl nP (.cons rfl rfl nP .nil))) nR

set_option maxHeartbeats 1000000 in
theorem update_no (XR XC PR PC : Int) (x p : List Int) (f0 f1 : Bool) (hR hC : Int) (hl : List Int) (f2 : Bool) (z r gate : Int) (hm : mayV hR hC XR r ≠ 0) : SoundC Try.prog 37 [.agg [.int .i64 XR, .int .i64 XC, .sl (.r 0) 0 x.length 1 f0, .int .i64 PR, .int .i64 PC, .sl (.r 1) 0 p.length 1 f1], .agg [.int .i64 hR, .int .i64 hC, .sl (.r 2) 0 hl.length 1 f2], .int .i64 z, .int .i64 r, .int .i64 gate] ⟨[ints x, ints p, ints hl], []⟩ { val := .tuple [.agg [.int .i64 0, .int .i64 0, .nilsl, .int .i64 0, .int .i64 0, .nilsl], .bool false, .bool false, .int .i64 (mayV hR hC XR r)] } := by
  refine SoundC.of (N := 74) Try.func37 rfl rfl rfl rfl ?_
  refine AW.seq ?_
  refine AW.region (by kernel_rfl) ?_
  refine RunF.w (o_box (nm := 0) rfl rfl rfl) nH ?_
  refine RunF.w (o_box (nm := 1) rfl rfl rfl) nH ?_
  refine RunF.w (o_alloc (nm := 2) tz41 rfl) nH ?_
  refine RunF.q (o_assign rfl) rfl ?_
  refine RunF.q (o_assign rfl) rfl ?_
  refine RunF.q (o_assign rfl) rfl ?_
  refine AW.seq ?_
  refine AW.seq ?_
  refine AW.region (by kernel_rfl) ?_
  refine RunF.q (o_load_agg rfl tk41 ts41 rfl rfl rfl nL) rfl ?_
  refine RunF.q (o_load_agg rfl tk24 ts24 rfl rfl rfl nL) rfl ?_
  refine RunF.q (o_move rfl) rfl ?_
  refine RunF.q (o_call (no := 3) (nr := 3) rfl rfl rfl nC (by rfl) (by exact may_ok XR XC PR PC x p f0 f1 hR hC hl f2 r) (by rfl) rfl rfl nV rfl) (by rfl) ?_
  refine RunF.q (o_assign rfl) rfl ?_
  refine AW.seq ?_
  refine AW.region (by kernel_rfl) ?_
  refine RunF.q (o_move rfl) rfl ?_
  refine RunF.q (o_neq rfl rfl) rfl ?_
  refine AW.cond rfl (fun hc0 => ?_) (fun hc0 => absurd hc0 (by simpa using hm))
  refine AW.seq ?_
  refine AW.region (by kernel_rfl) ?_
  refine RunF.q (o_build tk41 tz41 pl41 rfl rfl) rfl ?_
  refine RunF.q (o_move rfl) rfl ?_
  refine RunF.wn (o_store rfl rfl rfl ts41 rfl rfl) nH ?_
  refine RunF.q (o_assign rfl) rfl ?_
  refine RunF.q (o_assign rfl) rfl ?_
  refine RunF.q (o_assign rfl) rfl ?_
  refine AW.ret ?_
  exact FinQ.ret [] [] (ress_agg rfl tk41 ts41 rfl rfl rfl (ress_tmp rfl (ress_tmp rfl (ress_tmp rfl ress_nil)))) rfl .nil (.cons rfl rfl nP (.cons rfl rfl nP (.cons rfl rfl nP .nil))) nR

set_option maxHeartbeats 1000000 in
theorem Innov_ok (n : Nat) (n0 : 0 < n) (n8 : n ≤ 8) (x p hl : List Int) (hx : x.length = n * 1) (hp : p.length = n * n) (hH : hl.length = 1 * n) (f0 f1 f2 : Bool) (z r : Int) (hr : 0 < r) : SoundC Try.prog 46 [.agg [.int .i64 n, .int .i64 1, .sl (.r 0) 0 x.length 1 f0, .int .i64 n, .int .i64 n, .sl (.r 1) 0 p.length 1 f1], .agg [.int .i64 1, .int .i64 n, .sl (.r 2) 0 hl.length 1 f2], .int .i64 z, .int .i64 r] ⟨[ints x, ints p, ints hl], []⟩ { val := .tuple [.int .i64 (offY hl x n z), .int .i64 (offS hl p n r), .bool (offO hl x p n z r false), .int .i64 0] } := by
  refine SoundC.of (N := 40) Try.func46 rfl rfl rfl rfl ?_
  refine AW.seq ?_
  refine AW.region (by kernel_rfl) ?_
  refine RunF.w (o_box (nm := 0) rfl rfl rfl) nH2 ?_
  refine RunF.w (o_box (nm := 1) rfl rfl rfl) nH2 ?_
  refine RunF.q (o_assign rfl) rfl ?_
  refine RunF.q (o_assign rfl) rfl ?_
  refine RunF.q (o_assign rfl) rfl ?_
  refine RunF.q (o_assign rfl) rfl ?_
  refine AW.seq ?_
  refine AW.seq ?_
  refine AW.region (by kernel_rfl) ?_
  refine RunF.q (o_load_agg rfl tk41 ts41 rfl rfl rfl nL) rfl ?_
  refine RunF.q (o_load_agg rfl tk24 ts24 rfl rfl rfl nL) rfl ?_
  refine RunF.q (o_move rfl) rfl ?_
  refine RunF.q (o_call (no := 2) (nr := 3) rfl rfl rfl nC (by rfl) (by exact may_is (v := 0) (mayV_ok rfl rfl hr)) (by rfl) rfl rfl nV rfl) (by rfl) ?_
  refine RunF.q (o_assign rfl) rfl ?_
  refine AW.seq ?_
  refine AW.region (by kernel_rfl) ?_
  refine RunF.q (o_move rfl) rfl ?_
  refine RunF.q (o_neq rfl rfl) rfl ?_
  refine AW.cond rfl (fun hc0 => absurd hc0 (by simp)) (fun hc0 => ?_)
  refine AW.skip ?_
  refine AW.seq ?_
  refine AW.region (by kernel_rfl) ?_
  refine RunF.q (o_build tk142 tz142 pl142 rfl rfl) rfl ?_
  refine RunF.w (o_box (nm := 2) rfl rfl rfl) nH2 ?_
  refine RunF.q (o_assign rfl) rfl ?_
  refine AW.seq ?_
  refine AW.region (by kernel_rfl) ?_
  refine RunF.q (o_move rfl) rfl ?_
  refine RunF.q (o_load_agg rfl tk41 ts41 rfl rfl rfl nL) rfl ?_
  refine RunF.q (o_load_agg rfl tk24 ts24 rfl rfl rfl nL) rfl ?_
  refine RunF.q (o_move rfl) rfl ?_
  refine RunF.q (o_move rfl) rfl ?_
  refine RunF.w (o_call (no := 3) (nr := 3) rfl rfl rfl nC (by rfl) (by exact innov_ok n n0 n8 x p hl hx hp hH f0 f1 f2 false z r) (by rfl) rfl rfl nV nE2) nH2 ?_
  refine RunF.q (o_move rfl) rfl ?_
  refine RunF.q (o_extract rfl rfl) rfl ?_
  refine RunF.q (o_extract rfl rfl) rfl ?_
  refine RunF.q (o_assign rfl) rfl ?_
  refine RunF.q (o_assign rfl) rfl ?_
  refine AW.seq ?_
  refine AW.draws (by kernel_rfl) (by kernel_rfl) ?_
  refine RunV.q (o_move rfl) rfl ?_
  refine RunV.q (o_move rfl) rfl ?_
  refine RunV.q (o_move rfl) rfl ?_
  first | refine RunV.q (o_nilCheck rfl) rfl ?_ | refine RunV.q (o_nilCheck_f rfl) rfl ?_
  refine RunV.q (o_fieldAddr rfl tk142 rfl ts4 rfl) rfl ?_
  refine RunV.q (o_load rfl tk4 ts4 rfl rfl rfl) rfl ?_
  refine RunV.q (o_assign rfl) rfl ?_
  refine RunV.q (o_assign rfl) rfl ?_
  refine RunV.q (o_assign rfl) rfl ?_
  refine RunV.q (o_assign rfl) rfl ?_
  refine And.intro (by kernel_rfl) ?_
  refine AW.ret ?_
  exact FinQ.ret [] [] (ress_tmp rfl (ress_tmp rfl (ress_tmp rfl (ress_tmp rfl ress_nil)))) rfl .nil (.cons rfl rfl nP (.cons rfl rfl nP (.cons rfl rfl nP .nil))) nR

set_option maxHeartbeats 1000000 in
theorem update_stay (n : Nat) (n0 : 0 < n) (n8 : n ≤ 8) (x p hl : List Int) (hx : x.length = n * 1) (hp : p.length = n * n) (hH : hl.length = 1 * n) (f0 f1 f2 : Bool) (z r : Int) (hr : 0 < r) (gate : Int) (hs : mulQ (offY hl x n z) (offY hl x n z) > mulQ gate (offS hl p n r) ∨ (offS hl p n r) ≤ 0) : SoundC Try.prog 37 [.agg [.int .i64 n, .int .i64 1, .sl (.r 0) 0 x.length 1 f0, .int .i64 n, .int .i64 n, .sl (.r 1) 0 p.length 1 f1], .agg [.int .i64 1, .int .i64 n, .sl (.r 2) 0 hl.length 1 f2], .int .i64 z, .int .i64 r, .int .i64 gate] ⟨[ints x, ints p, ints hl], []⟩ { val := .tuple [.agg [.int .i64 n, .int .i64 1, .sl (.r 0) 0 x.length 1 f0, .int .i64 n, .int .i64 n, .sl (.r 1) 0 p.length 1 f1], .bool false, .bool (offO hl x p n z r false || mulF (offY hl x n z) (offY hl x n z) || mulF gate (offS hl p n r)), .int .i64 0] } := by
  refine SoundC.of (N := 74) Try.func37 rfl rfl rfl rfl ?_
  refine AW.seq ?_
  refine AW.region (by kernel_rfl) ?_
  refine RunF.w (o_box (nm := 0) rfl rfl rfl) nH2 ?_
  refine RunF.w (o_box (nm := 1) rfl rfl rfl) nH2 ?_
  refine RunF.w (o_alloc (nm := 2) tz41 rfl) nH2 ?_
  refine RunF.q (o_assign rfl) rfl ?_
  refine RunF.q (o_assign rfl) rfl ?_
  refine RunF.q (o_assign rfl) rfl ?_
  refine AW.seq ?_
  refine AW.seq ?_
  refine AW.region (by kernel_rfl) ?_
  refine RunF.q (o_load_agg rfl tk41 ts41 rfl rfl rfl nL) rfl ?_
  refine RunF.q (o_load_agg rfl tk24 ts24 rfl rfl rfl nL) rfl ?_
  refine RunF.q (o_move rfl) rfl ?_
  refine RunF.q (o_call (no := 3) (nr := 3) rfl rfl rfl nC (by rfl) (by exact may_is (v := 0) (mayV_ok rfl rfl hr)) (by rfl) rfl rfl nV rfl) (by rfl) ?_
  refine RunF.q (o_assign rfl) rfl ?_
  refine AW.seq ?_
  refine AW.region (by kernel_rfl) ?_
  refine RunF.q (o_move rfl) rfl ?_
  refine RunF.q (o_neq rfl rfl) rfl ?_
  refine AW.cond rfl (fun hc0 => absurd hc0 (by simp)) (fun hc0 => ?_)
  refine AW.skip ?_
  refine AW.seq ?_
  refine AW.region (by kernel_rfl) ?_
  refine RunF.q (o_build tk142 tz142 pl142 rfl rfl) rfl ?_
  refine RunF.w (o_box (nm := 3) rfl rfl rfl) nH2 ?_
  refine RunF.q (o_assign rfl) rfl ?_
  refine AW.seq ?_
  refine AW.region (by kernel_rfl) ?_
  refine RunF.q (o_move rfl) rfl ?_
  refine RunF.q (o_load_agg rfl tk41 ts41 rfl rfl rfl nL) rfl ?_
  refine RunF.q (o_load_agg rfl tk24 ts24 rfl rfl rfl nL) rfl ?_
  refine RunF.q (o_move rfl) rfl ?_
  refine RunF.q (o_move rfl) rfl ?_
  refine RunF.w (o_call (no := 4) (nr := 3) rfl rfl rfl nC (by rfl) (by exact innov_ok n n0 n8 x p hl hx hp hH f0 f1 f2 false z r) (by rfl) rfl rfl nV nE2) nH2 ?_
  refine RunF.q (o_move rfl) rfl ?_
  refine RunF.q (o_extract rfl rfl) rfl ?_
  refine RunF.q (o_extract rfl rfl) rfl ?_
  refine RunF.q (o_assign rfl) rfl ?_
  refine RunF.q (o_assign rfl) rfl ?_
  refine AW.seq ?_
  refine AW.seq ?_
  refine AW.region (by kernel_rfl) ?_
  refine RunF.q (o_move rfl) rfl ?_
  refine RunF.q (o_move rfl) rfl ?_
  refine RunF.q (o_move rfl) rfl ?_
  refine RunF.q (o_call (no := 4) (nr := 3) rfl rfl rfl nC (by rfl) (by exact mul_ok _ _) (by rfl) rfl rfl nV rfl) (by rfl) ?_
  refine RunF.q (o_extract rfl rfl) rfl ?_
  refine RunF.q (o_extract rfl rfl) rfl ?_
  refine RunF.w (o_call (no := 4) (nr := 3) rfl rfl rfl nC (by rfl) (by exact wone_ok _ _ _) (by rfl) rfl rfl nV nE2) nH2 ?_
  refine RunF.q (o_move rfl) rfl ?_
  refine RunF.q (o_move rfl) rfl ?_
  refine RunF.q (o_move rfl) rfl ?_
  refine RunF.q (o_call (no := 4) (nr := 3) rfl rfl rfl nC (by rfl) (by exact mul_ok _ _) (by rfl) rfl rfl nV rfl) (by rfl) ?_
  refine RunF.q (o_extract rfl rfl) rfl ?_
  refine RunF.q (o_extract rfl rfl) rfl ?_
  refine RunF.w (o_call (no := 4) (nr := 3) rfl rfl rfl nC (by rfl) (by exact wone_ok _ _ _) (by rfl) rfl rfl nV nE2) nH2 ?_
  refine RunF.q (o_gtr rfl rfl) rfl ?_
  refine RunF.br (o_move rfl) rfl (fun hb6_15 => ?_) (fun hb6_15 => ?_)
  · try simp only [decide_eq_true_eq, decide_eq_false_iff_not, bne_iff_ne, beq_iff_eq, bne_eq_false_iff_eq, beq_eq_false_iff_ne, ne_eq, Bool.not_eq_true', Bool.not_eq_false'] at hb6_15
    refine RunF.gs (b := true) rfl rfl ?_
    refine RunF.gs (b := true) rfl rfl ?_
    refine RunF.q (o_pick_t rfl rfl) rfl ?_
    refine AW.cond rfl (fun hc1 => ?_) (fun hc1 => absurd hc1 (by first | (intro h; cases h; done) | (intro h; simp at h; omega)))
    refine AW.seq ?_
    refine AW.draws (by kernel_rfl) (by kernel_rfl) ?_
    refine RunV.q (o_load_agg rfl tk41 ts41 rfl rfl rfl nL) rfl ?_
    refine RunV.q (o_move rfl) rfl ?_
    first | refine RunV.q (o_nilCheck rfl) rfl ?_ | refine RunV.q (o_nilCheck_f rfl) rfl ?_
    refine RunV.q (o_fieldAddr rfl tk142 rfl ts4 rfl) rfl ?_
    refine RunV.q (o_load rfl tk4 ts4 rfl rfl rfl) rfl ?_
    refine RunV.wn (o_store rfl rfl rfl ts41 rfl rfl) nH2 ?_
    refine RunV.q (o_assign rfl) rfl ?_
    refine RunV.q (o_assign rfl) rfl ?_
    refine RunV.q (o_assign rfl) rfl ?_
    refine And.intro (by kernel_rfl) ?_
    refine AW.ret ?_
    exact FinQ.ret [] [] (ress_agg rfl tk41 ts41 rfl rfl rfl (ress_tmp rfl (ress_tmp rfl (ress_tmp rfl ress_nil)))) rfl .nil (.cons rfl rfl nP (.cons rfl rfl nP (.cons rfl rfl nP .nil))) nR
  · try simp only [decide_eq_true_eq, decide_eq_false_iff_not, bne_iff_ne, beq_iff_eq, bne_eq_false_iff_eq, beq_eq_false_iff_ne, ne_eq, Bool.not_eq_true', Bool.not_eq_false'] at hb6_15
    refine RunF.gq rfl (o_move rfl) rfl ?_
    refine RunF.gq rfl (o_leq rfl rfl) rfl ?_
    refine RunF.q (o_pick_f rfl rfl) rfl ?_
    refine AW.cond rfl (fun hc1 => ?_) (fun hc1 => absurd hc1 (by first | (intro h; cases h; done) | (intro h; simp at h; omega)))
    refine AW.seq ?_
    refine AW.draws (by kernel_rfl) (by kernel_rfl) ?_
    refine RunV.q (o_load_agg rfl tk41 ts41 rfl rfl rfl nL) rfl ?_
    refine RunV.q (o_move rfl) rfl ?_
    first | refine RunV.q (o_nilCheck rfl) rfl ?_ | refine RunV.q (o_nilCheck_f rfl) rfl ?_
    refine RunV.q (o_fieldAddr rfl tk142 rfl ts4 rfl) rfl ?_
    refine RunV.q (o_load rfl tk4 ts4 rfl rfl rfl) rfl ?_
    refine RunV.wn (o_store rfl rfl rfl ts41 rfl rfl) nH2 ?_
    refine RunV.q (o_assign rfl) rfl ?_
    refine RunV.q (o_assign rfl) rfl ?_
    refine RunV.q (o_assign rfl) rfl ?_
    refine And.intro (by kernel_rfl) ?_
    refine AW.ret ?_
    exact FinQ.ret [] [] (ress_agg rfl tk41 ts41 rfl rfl rfl (ress_tmp rfl (ress_tmp rfl (ress_tmp rfl ress_nil)))) rfl .nil (.cons rfl rfl nP (.cons rfl rfl nP (.cons rfl rfl nP .nil))) nR

set_option maxHeartbeats 1000000 in
theorem update_take (n : Nat) (n0 : 0 < n) (n8 : n ≤ 8) (x p hl : List Int) (hx : x.length = n * 1) (hp : p.length = n * n) (hH : hl.length = 1 * n) (f0 f1 f2 : Bool) (z r : Int) (hr : 0 < r) (gate : Int) (hs : ¬ (mulQ (offY hl x n z) (offY hl x n z) > mulQ gate (offS hl p n r) ∨ (offS hl p n r) ≤ 0)) (D : Int → Int × Bool) (hD : ∀ i, i < n → SoundC Try.prog 122 [.int .i64 ((gain0 p hl n).getD i 0), .int .i64 (offS hl p n r)] ⟨[], []⟩ { val := .tuple [.int .i64 (D ((gain0 p hl n).getD i 0)).1, .bool (D ((gain0 p hl n).getD i 0)).2] }) : SoundC Try.prog 37 [.agg [.int .i64 n, .int .i64 1, .sl (.r 0) 0 x.length 1 f0, .int .i64 n, .int .i64 n, .sl (.r 1) 0 p.length 1 f1], .agg [.int .i64 1, .int .i64 n, .sl (.r 2) 0 hl.length 1 f2], .int .i64 z, .int .i64 r, .int .i64 gate] ⟨[ints x, ints p, ints hl], []⟩ { val := .tuple [.agg [.int .i64 n, .int .i64 1, .sl (.o 0) 0 (takeX x (gain p hl n D) (offY hl x n z) n).length 1 false, .int .i64 n, .int .i64 n, .sl (.o 1) 0 (takeP (gain p hl n D) hl p r n).length 1 false], .bool true, .bool (takeO x p hl (offY hl x n z) r n D (offO hl x p n z r false || mulF (offY hl x n z) (offY hl x n z) || mulF gate (offS hl p n r))), .int .i64 0], newo := [ints (takeX x (gain p hl n D) (offY hl x n z) n), ints (takeP (gain p hl n D) hl p r n)] } := by
  refine SoundC.of (N := 74) Try.func37 rfl rfl rfl rfl ?_
  refine AW.seq ?_
  refine AW.region (by kernel_rfl) ?_
  refine RunF.w (o_box (nm := 0) rfl rfl rfl) nH2 ?_
  refine RunF.w (o_box (nm := 1) rfl rfl rfl) nH2 ?_
  refine RunF.w (o_alloc (nm := 2) tz41 rfl) nH2 ?_
  refine RunF.q (o_assign rfl) rfl ?_
  refine RunF.q (o_assign rfl) rfl ?_
  refine RunF.q (o_assign rfl) rfl ?_
  refine AW.seq ?_
  refine AW.seq ?_
  refine AW.region (by kernel_rfl) ?_
  refine RunF.q (o_load_agg rfl tk41 ts41 rfl rfl rfl nL) rfl ?_
  refine RunF.q (o_load_agg rfl tk24 ts24 rfl rfl rfl nL) rfl ?_
  refine RunF.q (o_move rfl) rfl ?_
  refine RunF.q (o_call (no := 3) (nr := 3) rfl rfl rfl nC (by rfl) (by exact may_is (v := 0) (mayV_ok rfl rfl hr)) (by rfl) rfl rfl nV rfl) (by rfl) ?_
  refine RunF.q (o_assign rfl) rfl ?_
  refine AW.seq ?_
  refine AW.region (by kernel_rfl) ?_
  refine RunF.q (o_move rfl) rfl ?_
  refine RunF.q (o_neq rfl rfl) rfl ?_
  refine AW.cond rfl (fun hc0 => absurd hc0 (by simp)) (fun hc0 => ?_)
  refine AW.skip ?_
  refine AW.seq ?_
  refine AW.region (by kernel_rfl) ?_
  refine RunF.q (o_build tk142 tz142 pl142 rfl rfl) rfl ?_
  refine RunF.w (o_box (nm := 3) rfl rfl rfl) nH2 ?_
  refine RunF.q (o_assign rfl) rfl ?_
  refine AW.seq ?_
  refine AW.region (by kernel_rfl) ?_
  refine RunF.q (o_move rfl) rfl ?_
  refine RunF.q (o_load_agg rfl tk41 ts41 rfl rfl rfl nL) rfl ?_
  refine RunF.q (o_load_agg rfl tk24 ts24 rfl rfl rfl nL) rfl ?_
  refine RunF.q (o_move rfl) rfl ?_
  refine RunF.q (o_move rfl) rfl ?_
  refine RunF.w (o_call (no := 4) (nr := 3) rfl rfl rfl nC (by rfl) (by exact innov_ok n n0 n8 x p hl hx hp hH f0 f1 f2 false z r) (by rfl) rfl rfl nV nE2) nH2 ?_
  refine RunF.q (o_move rfl) rfl ?_
  refine RunF.q (o_extract rfl rfl) rfl ?_
  refine RunF.q (o_extract rfl rfl) rfl ?_
  refine RunF.q (o_assign rfl) rfl ?_
  refine RunF.q (o_assign rfl) rfl ?_
  refine AW.seq ?_
  refine AW.seq ?_
  refine AW.region (by kernel_rfl) ?_
  refine RunF.q (o_move rfl) rfl ?_
  refine RunF.q (o_move rfl) rfl ?_
  refine RunF.q (o_move rfl) rfl ?_
  refine RunF.q (o_call (no := 4) (nr := 3) rfl rfl rfl nC (by rfl) (by exact mul_ok _ _) (by rfl) rfl rfl nV rfl) (by rfl) ?_
  refine RunF.q (o_extract rfl rfl) rfl ?_
  refine RunF.q (o_extract rfl rfl) rfl ?_
  refine RunF.w (o_call (no := 4) (nr := 3) rfl rfl rfl nC (by rfl) (by exact wone_ok _ _ _) (by rfl) rfl rfl nV nE2) nH2 ?_
  refine RunF.q (o_move rfl) rfl ?_
  refine RunF.q (o_move rfl) rfl ?_
  refine RunF.q (o_move rfl) rfl ?_
  refine RunF.q (o_call (no := 4) (nr := 3) rfl rfl rfl nC (by rfl) (by exact mul_ok _ _) (by rfl) rfl rfl nV rfl) (by rfl) ?_
  refine RunF.q (o_extract rfl rfl) rfl ?_
  refine RunF.q (o_extract rfl rfl) rfl ?_
  refine RunF.w (o_call (no := 4) (nr := 3) rfl rfl rfl nC (by rfl) (by exact wone_ok _ _ _) (by rfl) rfl rfl nV nE2) nH2 ?_
  refine RunF.q (o_gtr rfl rfl) rfl ?_
  refine RunF.br (o_move rfl) rfl (fun hb6_15 => ?_) (fun hb6_15 => ?_)
  · try simp only [decide_eq_true_eq, decide_eq_false_iff_not, bne_iff_ne, beq_iff_eq, bne_eq_false_iff_eq, beq_eq_false_iff_ne, ne_eq, Bool.not_eq_true', Bool.not_eq_false'] at hb6_15
    exact absurd (Or.inl hb6_15) hs
  · try simp only [decide_eq_true_eq, decide_eq_false_iff_not, bne_iff_ne, beq_iff_eq, bne_eq_false_iff_eq, beq_eq_false_iff_ne, ne_eq, Bool.not_eq_true', Bool.not_eq_false'] at hb6_15
    refine RunF.gq rfl (o_move rfl) rfl ?_
    refine RunF.gq rfl (o_leq rfl rfl) rfl ?_
    refine RunF.q (o_pick_f rfl rfl) rfl ?_
    refine AW.cond rfl (fun hc1 => absurd hc1 (by intro h; simp at h; omega)) (fun hc1 => ?_)
    refine AW.skip ?_
    refine AW.seq ?_
    refine AW.region (by kernel_rfl) ?_
    refine RunF.q (o_move rfl) rfl ?_
    refine RunF.q (o_load_agg rfl tk41 ts41 rfl rfl rfl nL) rfl ?_
    refine RunF.q (o_load_agg rfl tk24 ts24 rfl rfl rfl nL) rfl ?_
    refine RunF.q (o_move rfl) rfl ?_
    refine RunF.q (o_move rfl) rfl ?_
    refine RunF.q (o_move rfl) rfl ?_
    refine RunF.w (o_call (no := 4) (nr := 3) rfl rfl rfl nC (by rfl) (by exact taken_ok n n0 n8 x p hl hx hp hH f0 f1 f2 _ (offY hl x n z) (offS hl p n r) r D hD) (by rfl) rfl rfl nV nE2) nH2 ?_
    refine RunF.w (o_alloc (nm := 6) tz41 rfl) nH2 ?_
    refine RunF.wn (o_store rfl rfl rfl ts41 rfl rfl) nH2 ?_
    refine AW.seq ?_
    refine AW.draws (by kernel_rfl) (by kernel_rfl) ?_
    refine RunV.q (o_load_agg rfl tk41 ts41 rfl rfl rfl nL) rfl ?_
    refine RunV.q (o_move rfl) rfl ?_
    first | refine RunV.q (o_nilCheck rfl) rfl ?_ | refine RunV.q (o_nilCheck_f rfl) rfl ?_
    refine RunV.q (o_fieldAddr rfl tk142 rfl ts4 rfl) rfl ?_
    refine RunV.q (o_load rfl tk4 ts4 rfl rfl rfl) rfl ?_
    refine RunV.wn (o_store rfl rfl rfl ts41 rfl rfl) nH2 ?_
    refine RunV.q (o_assign rfl) rfl ?_
    refine RunV.q (o_assign rfl) rfl ?_
    refine RunV.q (o_assign rfl) rfl ?_
    refine And.intro (by kernel_rfl) ?_
    refine AW.ret ?_
    exact FinQ.ret [4, 5] [] (ress_agg rfl tk41 ts41 rfl rfl rfl (ress_tmp rfl (ress_tmp rfl (ress_tmp rfl ress_nil)))) rfl (.some rfl rfl (PRN.flat (ints_flat _)) (.some rfl rfl (PRN.flat (ints_flat _)) .nil)) (.cons rfl rfl nP (.cons rfl rfl nP (.cons rfl rfl nP .nil))) nR

end Go.Proofs.Ytnkijhpikeokfaa

/- Quotients, where the great word of what is divided is nought. -/
namespace Go.Proofs.Ytnkijhpikeokfaa
open Go Go.Sym Go.IntWalk

theorem quoN (a b : Nat) (ha : a < 18446744073709551616) : IntKind.u64.wrap ((a : Int).tdiv (b : Int)) = ((a / b : Nat) : Int) := by
  rw [Int.tdiv_eq_ediv_of_nonneg (by omega), ← Int.natCast_ediv]
  exact u64n _ (Nat.lt_of_le_of_lt (Nat.div_le_self a b) ha)
theorem remN (a b : Nat) : ((a : Int).tmod (b : Int)) = ((a % b : Nat) : Int) := by
  rw [Int.tmod_eq_emod_of_nonneg (by omega), ← Int.natCast_emod]
theorem subN (a b : Nat) (h : b ≤ a) (ha : a < 18446744073709551616) : IntKind.u64.wrap ((a : Int) - (b : Int)) = ((a - b : Nat) : Int) := by rw [IntKind.wrap_u64]; omega
theorem shrD (a : Nat) : (a : Int).fdiv (2 ^ (min (40 : Int).toNat IntKind.u64.bits)) = ((a / 1099511627776 : Nat) : Int) := by
  rw [Int.fdiv_eq_ediv_of_nonneg _ (by decide)]
  show (a : Int) / 1099511627776 = _
  omega
theorem shlD (a : Nat) : IntKind.u64.wrap ((a : Int) * 2 ^ (min (24 : Int).toNat IntKind.u64.bits)) = ((a * 16777216 % 18446744073709551616 : Nat) : Int) := by
  show IntKind.u64.wrap ((a : Int) * 16777216) = _
  rw [IntKind.wrap_u64]; omega
theorem incN (a : Nat) (h : a + 1 < 18446744073709551616) : IntKind.u64.wrap ((a : Int) + 1) = ((a + 1 : Nat) : Int) := by rw [IntKind.wrap_u64]; omega
/-- rounded: to even, where it lies in the middle -/
def rq (q rest y : Nat) : Int := if y < 2 * rest ∨ (2 * rest = y ∧ q % 2 = 1) then ((q + 1 : Nat) : Int) else (q : Int)

set_option maxHeartbeats 1000000 in
theorem div64_small (lo y : Nat) (hlo : lo < 18446744073709551616) (hy : 0 < y) : SoundC Try.prog 142 [.int .u64 0, .int .u64 lo, .int .u64 y] ⟨[], []⟩ { val := .tuple [.int .u64 ((lo / y : Nat) : Int), .int .u64 ((lo % y : Nat) : Int)] } := by
  refine SoundC.of (N := 135) Try.func142 rfl rfl rfl rfl ?_
  refine AW.seq ?_
  refine AW.region (by kernel_rfl) ?_
  refine RunF.q (o_assign rfl) rfl ?_
  refine RunF.q (o_assign rfl) rfl ?_
  refine AW.seq ?_
  refine AW.seq ?_
  refine AW.region (by kernel_rfl) ?_
  refine RunF.q (o_move rfl) rfl ?_
  refine RunF.q (o_eql rfl rfl) rfl ?_
  refine AW.cond rfl (fun hc0 => absurd hc0 (by simp; omega)) (fun hc0 => ?_)
  refine AW.skip ?_
  refine AW.seq ?_
  refine AW.seq ?_
  refine AW.region (by kernel_rfl) ?_
  refine RunF.q (o_move rfl) rfl ?_
  refine RunF.q (o_move rfl) rfl ?_
  refine RunF.q (o_leq rfl rfl) rfl ?_
  refine AW.cond rfl (fun hc1 => absurd hc1 (by simp; omega)) (fun hc1 => ?_)
  refine AW.skip ?_
  refine AW.seq ?_
  refine AW.seq ?_
  refine AW.region (by kernel_rfl) ?_
  refine RunF.q (o_move rfl) rfl ?_
  refine RunF.q (o_eql rfl rfl) rfl ?_
  refine AW.cond rfl (fun hc2 => ?_) (fun hc2 => absurd hc2 (by simp))
  refine AW.seq ?_
  refine AW.draws (by kernel_rfl) (by kernel_rfl) ?_
  refine RunV.q (o_move rfl) rfl ?_
  refine RunV.q (o_move rfl) rfl ?_
  refine RunV.q (o_quo rfl rfl (by omega) (quoN lo y hlo)) rfl ?_
  refine RunV.q (o_move rfl) rfl ?_
  refine RunV.q (o_move rfl) rfl ?_
  refine RunV.q (o_rem rfl rfl (by omega)) rfl ?_
  refine RunV.q (o_assign rfl) rfl ?_
  refine RunV.q (o_assign rfl) rfl ?_
  refine And.intro (by kernel_rfl) ?_
  refine AW.ret ?_
  exact FinQ.ret [] [] (ress_tmp rfl (ress_tmp rfl ress_nil)) rfl .nil .nil (by rw [← remN lo y]; exact nR)

set_option maxHeartbeats 1000000 in
theorem div_of (a b : Int) (hb0 : clampQ b ≠ 0) (q rest : Nat) (hhi : (clampQ a).natAbs / 1099511627776 < (clampQ b).natAbs) (h64 : SoundC Try.prog 142 [.int .u64 (((clampQ a).natAbs / 1099511627776 : Nat) : Int), .int .u64 (((clampQ a).natAbs * 16777216 % 18446744073709551616 : Nat) : Int), .int .u64 ((clampQ b).natAbs : Int)] ⟨[], []⟩ { val := .tuple [.int .u64 (q : Int), .int .u64 (rest : Int)] }) (hq : q < 18446744073709551615) (hr : rest < (clampQ b).natAbs) : SoundC Try.prog 122 [.int .i64 a, .int .i64 b] ⟨[], []⟩ { val := .tuple [.int .i64 (signedQ 0 (rq q rest (clampQ b).natAbs) (decide (clampQ a < 0) != decide (clampQ b < 0))), .bool (both2 a b || signedF 0 (rq q rest (clampQ b).natAbs) (decide (clampQ a < 0) != decide (clampQ b < 0)))] } := by
  have ha := clampQ_in a
  have hb := clampQ_in b
  refine SoundC.of (N := 92) Try.func122 rfl rfl rfl rfl ?_
  refine AW.seq ?_
  refine AW.region (by kernel_rfl) ?_
  refine RunF.q (o_assign rfl) rfl ?_
  refine RunF.q (o_assign rfl) rfl ?_
  refine AW.seq ?_
  refine AW.region (by kernel_rfl) ?_
  refine RunF.q (o_move rfl) rfl ?_
  refine RunF.q (o_move rfl) rfl ?_
  refine RunF.q (o_call (no := 0) (nr := 0) rfl rfl rfl nC (by rfl) (by exact both_ok a b) (by rfl) rfl rfl nV rfl) (by rfl) ?_
  refine RunF.q (o_move rfl) rfl ?_
  refine RunF.q (o_extract rfl rfl) rfl ?_
  refine RunF.q (o_extract rfl rfl) rfl ?_
  refine RunF.q (o_extract rfl rfl) rfl ?_
  refine RunF.q (o_assign rfl) rfl ?_
  refine RunF.q (o_assign rfl) rfl ?_
  refine RunF.q (o_assign rfl) rfl ?_
  refine AW.seq ?_
  refine AW.seq ?_
  refine AW.region (by kernel_rfl) ?_
  refine RunF.q (o_move rfl) rfl ?_
  refine RunF.q (o_eql rfl rfl) rfl ?_
  refine AW.cond rfl (fun hc0 => absurd hc0 (by simp [hb0])) (fun hc0 => ?_)
  refine AW.skip ?_
  refine AW.seq ?_
  refine AW.region (by kernel_rfl) ?_
  refine RunF.q (o_move rfl) rfl ?_
  refine RunF.q (o_lss rfl rfl) rfl ?_
  refine RunF.q (o_move rfl) rfl ?_
  refine RunF.q (o_lss rfl rfl) rfl ?_
  refine RunF.q (o_neb tk4 rfl rfl) rfl ?_
  refine RunF.q (o_assign rfl) rfl ?_
  refine AW.seq ?_
  refine AW.region (by kernel_rfl) ?_
  refine RunF.q (o_move rfl) rfl ?_
  refine RunF.q (o_call (no := 0) (nr := 0) rfl rfl rfl nC (by rfl) (by exact size_ok _ (by omega)) (by rfl) rfl rfl nV rfl) (by rfl) ?_
  refine RunF.q (o_move rfl) rfl ?_
  refine RunF.q (o_call (no := 0) (nr := 0) rfl rfl rfl nC (by rfl) (by exact size_ok _ (by omega)) (by rfl) rfl rfl nV rfl) (by rfl) ?_
  refine RunF.q (o_assign rfl) rfl ?_
  refine RunF.q (o_assign rfl) rfl ?_
  refine AW.seq ?_
  refine AW.region (by kernel_rfl) ?_
  refine RunF.q (o_move rfl) rfl ?_
  refine RunF.q (o_shr rfl rfl (by decide) (shrD _)) rfl ?_
  refine RunF.q (o_move rfl) rfl ?_
  refine RunF.q (o_shl rfl rfl (by decide) (shlD _)) rfl ?_
  refine RunF.q (o_assign rfl) rfl ?_
  refine RunF.q (o_assign rfl) rfl ?_
  refine AW.seq ?_
  refine AW.seq ?_
  refine AW.region (by kernel_rfl) ?_
  refine RunF.q (o_move rfl) rfl ?_
  refine RunF.q (o_move rfl) rfl ?_
  refine RunF.q (o_geq rfl rfl) rfl ?_
  refine AW.cond rfl (fun hc3 => absurd hc3 (by simp; omega)) (fun hc3 => ?_)
  refine AW.skip ?_
  refine AW.seq ?_
  refine AW.region (by kernel_rfl) ?_
  refine RunF.q (o_move rfl) rfl ?_
  refine RunF.q (o_move rfl) rfl ?_
  refine RunF.q (o_move rfl) rfl ?_
  refine RunF.q (o_call (no := 0) (nr := 0) rfl rfl rfl nC (by rfl) (by exact h64) (by rfl) rfl rfl nV rfl) (by rfl) ?_
  refine RunF.q (o_move rfl) rfl ?_
  refine RunF.q (o_extract rfl rfl) rfl ?_
  refine RunF.q (o_extract rfl rfl) rfl ?_
  refine RunF.q (o_assign rfl) rfl ?_
  refine RunF.q (o_assign rfl) rfl ?_
  refine AW.seq ?_
  refine AW.seq ?_
  refine AW.region (by kernel_rfl) ?_
  refine RunF.q (o_move rfl) rfl ?_
  refine RunF.q (o_move rfl) rfl ?_
  refine RunF.q (o_move rfl) rfl ?_
  refine RunF.q (o_sub rfl rfl (subN _ _ (by omega) (by omega))) rfl ?_
  refine RunF.q (o_gtr rfl rfl) rfl ?_
  refine RunF.br (o_move rfl) rfl (fun hb15_5 => ?_) (fun hb15_5 => ?_)
  · try simp only [decide_eq_true_eq, decide_eq_false_iff_not, bne_iff_ne, beq_iff_eq, bne_eq_false_iff_eq, beq_eq_false_iff_ne, ne_eq, Bool.not_eq_true', Bool.not_eq_false'] at hb15_5
    refine RunF.gs (b := true) rfl rfl ?_
    refine RunF.gs (b := true) rfl rfl ?_
    refine RunF.gs (b := true) rfl rfl ?_
    refine RunF.gs (b := true) rfl rfl ?_
    refine RunF.gs (b := true) rfl rfl ?_
    refine RunF.gs (b := true) rfl rfl ?_
    refine RunF.gt rfl ?_
    refine RunF.gt rfl ?_
    refine RunF.gt rfl ?_
    refine RunF.gs (b := true) rfl rfl ?_
    refine RunF.q (o_pick_t rfl rfl) rfl ?_
    refine AW.cond rfl (fun hc4 => ?_) (fun hc4 => absurd hc4 (by simp))
    have er : rq q rest (clampQ b).natAbs = ((q + 1 : Nat) : Int) := by unfold rq; rw [if_pos (by omega)]
    refine AW.region (by kernel_rfl) ?_
    refine RunF.q (o_move rfl) rfl ?_
    refine RunF.q (o_add rfl rfl (incN q (by omega))) rfl ?_
    refine RunF.q (o_assign rfl) rfl ?_
    refine AW.seq ?_
    refine AW.region (by kernel_rfl) ?_
    refine RunF.q (o_move rfl) rfl ?_
    refine RunF.q (o_move rfl) rfl ?_
    refine RunF.q (o_call (no := 0) (nr := 0) rfl rfl rfl nC (by rfl) (by exact signed_ok _ _ _ (by omega)) (by rfl) rfl rfl nV rfl) (by rfl) ?_
    refine RunF.q (o_move rfl) rfl ?_
    refine RunF.q (o_extract rfl rfl) rfl ?_
    refine RunF.q (o_extract rfl rfl) rfl ?_
    refine RunF.q (o_assign rfl) rfl ?_
    refine RunF.q (o_assign rfl) rfl ?_
    refine AW.seq ?_
    refine AW.region (by kernel_rfl) ?_
    refine RunF.q (o_move rfl) rfl ?_
    refine RunF.q (o_move rfl) rfl ?_
    refine RunF.q (o_move rfl) rfl ?_
    refine RunF.gm rfl (o_move rfl) ?_
    first | refine RunF.q (o_pick_t rfl rfl) rfl ?_ | refine RunF.q (o_pick_f rfl rfl) rfl ?_ | refine RunF.q (o_pick_b rfl rfl rfl) rfl ?_ | refine RunF.q (o_pick_or rfl rfl rfl) rfl ?_ | refine RunF.q (o_pick_and rfl rfl rfl) rfl ?_
    refine RunF.q (o_assign rfl) rfl ?_
    refine RunF.q (o_assign rfl) rfl ?_
    refine AW.ret ?_
    exact FinQ.ret [] [] (ress_tmp rfl (ress_tmp rfl ress_nil)) rfl .nil .nil (by rw [er]; exact nR)
  · try simp only [decide_eq_true_eq, decide_eq_false_iff_not, bne_iff_ne, beq_iff_eq, bne_eq_false_iff_eq, beq_eq_false_iff_ne, ne_eq, Bool.not_eq_true', Bool.not_eq_false'] at hb15_5
    refine RunF.gq rfl (o_move rfl) rfl ?_
    refine RunF.gq rfl (o_move rfl) rfl ?_
    refine RunF.gq rfl (o_move rfl) rfl ?_
    refine RunF.gq rfl (o_sub rfl rfl (subN _ _ (by omega) (by omega))) rfl ?_
    refine RunF.gq rfl (o_eql rfl rfl) rfl ?_
    refine RunF.gb rfl (o_move rfl) rfl (fun hb15_11 => ?_) (fun hb15_11 => ?_)
    · try simp only [decide_eq_true_eq, decide_eq_false_iff_not, bne_iff_ne, beq_iff_eq, bne_eq_false_iff_eq, beq_eq_false_iff_ne, ne_eq, Bool.not_eq_true', Bool.not_eq_false'] at hb15_11
      refine RunF.gq rfl (o_move rfl) rfl ?_
      refine RunF.gq rfl (o_and rfl rfl (mask1 q (by omega))) rfl ?_
      refine RunF.gq rfl (o_eql rfl rfl) rfl ?_
      refine RunF.gq rfl (o_pick_t rfl rfl) rfl ?_
      refine RunF.q (o_pick_f rfl rfl) rfl ?_
      refine AW.cond rfl (fun hc4 => ?_) (fun hc4 => ?_)
      · try simp only [decide_eq_true_eq, decide_eq_false_iff_not, bne_iff_ne, beq_iff_eq, bne_eq_false_iff_eq, beq_eq_false_iff_ne, ne_eq, Bool.not_eq_true', Bool.not_eq_false'] at hc4
        have er : rq q rest (clampQ b).natAbs = ((q + 1 : Nat) : Int) := by unfold rq; rw [if_pos (by omega)]
        refine AW.region (by kernel_rfl) ?_
        refine RunF.q (o_move rfl) rfl ?_
        refine RunF.q (o_add rfl rfl (incN q (by omega))) rfl ?_
        refine RunF.q (o_assign rfl) rfl ?_
        refine AW.seq ?_
        refine AW.region (by kernel_rfl) ?_
        refine RunF.q (o_move rfl) rfl ?_
        refine RunF.q (o_move rfl) rfl ?_
        refine RunF.q (o_call (no := 0) (nr := 0) rfl rfl rfl nC (by rfl) (by exact signed_ok _ _ _ (by omega)) (by rfl) rfl rfl nV rfl) (by rfl) ?_
        refine RunF.q (o_move rfl) rfl ?_
        refine RunF.q (o_extract rfl rfl) rfl ?_
        refine RunF.q (o_extract rfl rfl) rfl ?_
        refine RunF.q (o_assign rfl) rfl ?_
        refine RunF.q (o_assign rfl) rfl ?_
        refine AW.seq ?_
        refine AW.region (by kernel_rfl) ?_
        refine RunF.q (o_move rfl) rfl ?_
        refine RunF.q (o_move rfl) rfl ?_
        refine RunF.q (o_move rfl) rfl ?_
        refine RunF.gm rfl (o_move rfl) ?_
        first | refine RunF.q (o_pick_t rfl rfl) rfl ?_ | refine RunF.q (o_pick_f rfl rfl) rfl ?_ | refine RunF.q (o_pick_b rfl rfl rfl) rfl ?_ | refine RunF.q (o_pick_or rfl rfl rfl) rfl ?_ | refine RunF.q (o_pick_and rfl rfl rfl) rfl ?_
        refine RunF.q (o_assign rfl) rfl ?_
        refine RunF.q (o_assign rfl) rfl ?_
        refine AW.ret ?_
        exact FinQ.ret [] [] (ress_tmp rfl (ress_tmp rfl ress_nil)) rfl .nil .nil (by rw [er]; exact nR)
      · try simp only [decide_eq_true_eq, decide_eq_false_iff_not, bne_iff_ne, beq_iff_eq, bne_eq_false_iff_eq, beq_eq_false_iff_ne, ne_eq, Bool.not_eq_true', Bool.not_eq_false'] at hc4
        have er : rq q rest (clampQ b).natAbs = (q : Int) := by unfold rq; rw [if_neg (by omega)]
        refine AW.skip ?_
        refine AW.seq ?_
        refine AW.region (by kernel_rfl) ?_
        refine RunF.q (o_move rfl) rfl ?_
        refine RunF.q (o_move rfl) rfl ?_
        refine RunF.q (o_call (no := 0) (nr := 0) rfl rfl rfl nC (by rfl) (by exact signed_ok _ _ _ (by omega)) (by rfl) rfl rfl nV rfl) (by rfl) ?_
        refine RunF.q (o_move rfl) rfl ?_
        refine RunF.q (o_extract rfl rfl) rfl ?_
        refine RunF.q (o_extract rfl rfl) rfl ?_
        refine RunF.q (o_assign rfl) rfl ?_
        refine RunF.q (o_assign rfl) rfl ?_
        refine AW.seq ?_
        refine AW.region (by kernel_rfl) ?_
        refine RunF.q (o_move rfl) rfl ?_
        refine RunF.q (o_move rfl) rfl ?_
        refine RunF.q (o_move rfl) rfl ?_
        refine RunF.gm rfl (o_move rfl) ?_
        first | refine RunF.q (o_pick_t rfl rfl) rfl ?_ | refine RunF.q (o_pick_f rfl rfl) rfl ?_ | refine RunF.q (o_pick_b rfl rfl rfl) rfl ?_ | refine RunF.q (o_pick_or rfl rfl rfl) rfl ?_ | refine RunF.q (o_pick_and rfl rfl rfl) rfl ?_
        refine RunF.q (o_assign rfl) rfl ?_
        refine RunF.q (o_assign rfl) rfl ?_
        refine AW.ret ?_
        exact FinQ.ret [] [] (ress_tmp rfl (ress_tmp rfl ress_nil)) rfl .nil .nil (by rw [er]; exact nR)
    · try simp only [decide_eq_true_eq, decide_eq_false_iff_not, bne_iff_ne, beq_iff_eq, bne_eq_false_iff_eq, beq_eq_false_iff_ne, ne_eq, Bool.not_eq_true', Bool.not_eq_false'] at hb15_11
      refine RunF.gs (b := false) rfl rfl ?_
      refine RunF.gs (b := false) rfl rfl ?_
      refine RunF.gs (b := false) rfl rfl ?_
      refine RunF.gq rfl (o_pick_f rfl rfl) rfl ?_
      refine RunF.q (o_pick_f rfl rfl) rfl ?_
      refine AW.cond rfl (fun hc4 => absurd hc4 (by simp)) (fun hc4 => ?_)
      have er : rq q rest (clampQ b).natAbs = (q : Int) := by unfold rq; rw [if_neg (by omega)]
      refine AW.skip ?_
      refine AW.seq ?_
      refine AW.region (by kernel_rfl) ?_
      refine RunF.q (o_move rfl) rfl ?_
      refine RunF.q (o_move rfl) rfl ?_
      refine RunF.q (o_call (no := 0) (nr := 0) rfl rfl rfl nC (by rfl) (by exact signed_ok _ _ _ (by omega)) (by rfl) rfl rfl nV rfl) (by rfl) ?_
      refine RunF.q (o_move rfl) rfl ?_
      refine RunF.q (o_extract rfl rfl) rfl ?_
      refine RunF.q (o_extract rfl rfl) rfl ?_
      refine RunF.q (o_assign rfl) rfl ?_
      refine RunF.q (o_assign rfl) rfl ?_
      refine AW.seq ?_
      refine AW.region (by kernel_rfl) ?_
      refine RunF.q (o_move rfl) rfl ?_
      refine RunF.q (o_move rfl) rfl ?_
      refine RunF.q (o_move rfl) rfl ?_
      refine RunF.gm rfl (o_move rfl) ?_
      first | refine RunF.q (o_pick_t rfl rfl) rfl ?_ | refine RunF.q (o_pick_f rfl rfl) rfl ?_ | refine RunF.q (o_pick_b rfl rfl rfl) rfl ?_ | refine RunF.q (o_pick_or rfl rfl rfl) rfl ?_ | refine RunF.q (o_pick_and rfl rfl rfl) rfl ?_
      refine RunF.q (o_assign rfl) rfl ?_
      refine RunF.q (o_assign rfl) rfl ?_
      refine AW.ret ?_
      exact FinQ.ret [] [] (ress_tmp rfl (ress_tmp rfl ress_nil)) rfl .nil .nil (by rw [er]; exact nR)

/-- a quotient of what is not great -/
def divQ (a b : Int) : Int := signedQ 0 (rq ((clampQ a).natAbs * 16777216 / (clampQ b).natAbs) ((clampQ a).natAbs * 16777216 % (clampQ b).natAbs) (clampQ b).natAbs) (decide (clampQ a < 0) != decide (clampQ b < 0))
def divF (a b : Int) : Bool := both2 a b || signedF 0 (rq ((clampQ a).natAbs * 16777216 / (clampQ b).natAbs) ((clampQ a).natAbs * 16777216 % (clampQ b).natAbs) (clampQ b).natAbs) (decide (clampQ a < 0) != decide (clampQ b < 0))
theorem div_small (a b : Int) (ha : (clampQ a).natAbs < 1099511627776) (hb : clampQ b ≠ 0) : SoundC Try.prog 122 [.int .i64 a, .int .i64 b] ⟨[], []⟩ { val := .tuple [.int .i64 (divQ a b), .bool (divF a b)] } := by
  have hy : 0 < (clampQ b).natAbs := by omega
  have hbi := clampQ_in b
  have h0 : (clampQ a).natAbs / 1099511627776 = 0 := by omega
  have hx : (clampQ a).natAbs * 16777216 < 18446744073709551616 := by omega
  have hd : (clampQ a).natAbs * 16777216 / (clampQ b).natAbs ≤ (clampQ a).natAbs * 16777216 := Nat.div_le_self _ _
  refine div_of a b hb _ _ (by omega) ?_ ?_ (Nat.mod_lt _ hy)
  · rw [h0, Nat.mod_eq_of_lt hx]
    exact div64_small _ _ hx hy
  · omega

end Go.Proofs.Ytnkijhpikeokfaa

/- A new track, where it is right. -/
namespace Go.Proofs.Ytnkijhpikeokfaa
open Go Go.Sym Go.IntWalk

set_option maxHeartbeats 1000000 in
theorem clone_ok (x : List Int) (f : Bool) (h0 : 0 < x.length) (h8 : x.length ≤ 1000) : SoundC Try.prog 85 [.sl (.r 0) 0 x.length 1 f] ⟨[ints x], []⟩ { val := .sl (.o 0) 0 x.length 1 false, newo := [ints x] } := by
  refine SoundC.of (N := 8) Try.func85 rfl rfl rfl rfl ?_
  refine AW.seq ?_
  refine AW.region (by kernel_rfl) ?_
  refine RunF.q (o_assign rfl) rfl ?_
  refine AW.seq ?_
  refine AW.seq ?_
  refine AW.region (by kernel_rfl) ?_
  refine RunF.q (o_move rfl) rfl ?_
  refine RunF.q (o_bin (v := .bool false) rfl rfl (by simp only [binA, tk22]; rw [if_neg (by omega)])) rfl ?_
  refine AW.cond rfl (fun hc0 => absurd hc0 (by simp)) (fun hc0 => ?_)
  refine AW.skip ?_
  refine AW.seq ?_
  refine AW.region (by kernel_rfl) ?_
  refine RunF.w (o_buildSlice (nm := 0) tk22 ts30 tz30 rfl rfl rfl rfl) nH ?_
  refine RunF.q (o_move rfl) rfl ?_
  refine RunF.w (o_append_full (nm := 1) (l1 := ints x) (l2 := []) (mn := x.length) tk22 tk22 ts30 tb30 tz30 rfl rfl rfl rfl rfl (by refine ⟨by omega, ?_, Nat.le_refl _, by omega, by omega⟩; rw [ints_length]; omega) (ints_all _) rfl (ints_scalar _) rfl (Nat.zero_add _)) nH ?_
  refine RunF.q (o_assign rfl) rfl ?_
  refine AW.ret ?_
  exact FinQ.ret [1] [] (ress_tmp rfl ress_nil) rfl (.some rfl rfl (PRN.flat (ints_flat _)) .nil) (.cons rfl rfl nP .nil) nR

set_option maxHeartbeats 1000000 in
theorem knew_ok (x v : List Int) (f0 f1 : Bool) (hx0 : 0 < x.length) (hx8 : x.length ≤ 8) (h0 : 0 < v.length) (h8 : v.length ≤ 8) (hv : ∀ a ∈ v, inQ a) (hz : rightT x.length 1 x v.length v.length (diagL v) = true) : SoundC Try.prog 36 [.sl (.r 0) 0 x.length 1 f0, .sl (.r 1) 0 v.length 1 f1] ⟨[ints x, ints v], []⟩ { val := .tuple [.agg [.int .i64 x.length, .int .i64 1, .sl (.o 0) 0 x.length 1 false, .int .i64 v.length, .int .i64 v.length, .sl (.o 1) 0 (diagL v).length 1 false], .int .i64 0], newo := [ints x, ints (diagL v)] } := by
  refine SoundC.of (N := 30) Try.func36 rfl rfl rfl rfl ?_
  refine AW.seq ?_
  refine AW.region (by kernel_rfl) ?_
  refine RunF.w (o_alloc (nm := 0) tz41 rfl) nH ?_
  refine RunF.q (o_assign rfl) rfl ?_
  refine AW.seq ?_
  refine AW.region (by kernel_rfl) ?_
  refine RunF.q (o_move rfl) rfl ?_
  refine RunF.w (o_call (no := 1) (nr := 2) rfl rfl rfl nC (by rfl) (by exact diag_ok v f1 h0 h8 hv) (by rfl) rfl rfl nV nE) nH ?_
  refine RunF.q (o_move rfl) rfl ?_
  refine RunF.q (o_extract rfl rfl) rfl ?_
  refine RunF.q (o_extract rfl rfl) rfl ?_
  refine RunF.w (o_alloc (nm := 2) tz24 rfl) nH ?_
  refine RunF.wn (o_store rfl rfl rfl ts24 rfl rfl) nH ?_
  refine RunF.q (o_assign rfl) rfl ?_
  refine AW.seq ?_
  refine AW.draws (by kernel_rfl) (by kernel_rfl) ?_
  refine RunV.q (o_move rfl) rfl ?_
  first | refine RunV.q (o_len tk22 rfl) rfl ?_ | refine RunV.q (o_len_nil tk22 rfl) rfl ?_
  refine RunV.q (o_move rfl) rfl ?_
  refine RunV.w (o_call (no := 3) (nr := 2) rfl rfl rfl nC (by rfl) (by exact clone_ok x f0 hx0 (by omega)) (by rfl) rfl rfl nV nE) nH ?_
  refine RunV.q (o_build tk24 tz24 pl24 rfl rfl) rfl ?_
  refine RunV.q (o_load_agg rfl tk24 ts24 rfl rfl rfl nL) rfl ?_
  refine RunV.q (o_build tk41 tz41 pl41 rfl rfl) rfl ?_
  refine RunV.w (o_alloc (nm := 4) tz41 rfl) nH ?_
  refine RunV.wn (o_store rfl rfl rfl ts41 rfl rfl) nH ?_
  refine And.intro (by kernel_rfl) ?_
  refine AW.seq ?_
  refine AW.seq ?_
  refine AW.region (by kernel_rfl) ?_
  refine RunF.q (o_move rfl) rfl ?_
  refine RunF.q (o_neq rfl rfl) rfl ?_
  refine RunF.q (o_move rfl) rfl ?_
  refine RunF.gq rfl (o_load_agg rfl tk41 ts41 rfl rfl rfl nL) rfl ?_
  refine RunF.gq rfl (o_call (no := 5) (nr := 2) rfl rfl rfl nC (by rfl) (by exact kright_is (z := true) hz) (by rfl) rfl rfl nV rfl) (by rfl) ?_
  refine RunF.gq rfl (o_not rfl) rfl ?_
  refine RunF.q (o_pick_f rfl rfl) rfl ?_
  refine AW.cond rfl (fun hc0 => absurd hc0 (by simp)) (fun hc0 => ?_)
  refine AW.skip ?_
  refine AW.seq ?_
  refine AW.region (by kernel_rfl) ?_
  refine RunF.q (o_load_agg rfl tk41 ts41 rfl rfl rfl nL) rfl ?_
  refine RunF.wn (o_store rfl rfl rfl ts41 rfl rfl) nH ?_
  refine RunF.q (o_assign rfl) rfl ?_
  refine AW.ret ?_
  exact FinQ.ret [3, 1] [] (ress_agg rfl tk41 ts41 rfl rfl rfl (ress_tmp rfl ress_nil)) rfl (.some rfl rfl (PRN.flat (ints_flat _)) (.some rfl rfl (PRN.flat (ints_flat _)) .nil)) (.cons rfl rfl nP (.cons rfl rfl nP .nil)) nR

end Go.Proofs.Ytnkijhpikeokfaa

/- A number that does not vary isn't changed by what is measured. -/
namespace Go.Proofs.Ytnkijhpikeokfaa
open Go Go.Sym Go.IntWalk

theorem mulQ_nought (y : Int) : mulQ 0 y = 0 := by
  have h : mulN2 0 y = 0 := by unfold mulN2 rnd24; rw [show (clampQ 0).natAbs = 0 from rfl, Nat.zero_mul]; decide
  unfold mulQ; rw [h]
  unfold signedQ
  rw [if_neg (by decide)]
  cases mulZ 0 y <;> rfl
theorem scale_noughts (q : Int) : scaleL [0, 0] q 2 1 = [0, 0] := by
  show tab (fun i k => mulQ (([0, 0] : List Int).getD (i * 1 + k) 0) q) 1 2 = _
  show [mulQ 0 q, mulQ 0 q] = _
  rw [mulQ_nought]
theorem rq_nought (y : Nat) (hy : 0 < y) : rq (0 * 16777216 / y) (0 * 16777216 % y) y = 0 := by
  rw [Nat.zero_mul, Nat.zero_div, Nat.zero_mod]
  unfold rq
  rw [if_neg (by omega)]; rfl
theorem divQ_nought (s : Int) (h : clampQ s ≠ 0) : divQ 0 s = 0 := by
  unfold divQ
  rw [show (clampQ 0).natAbs = 0 from rfl, rq_nought _ (by omega)]
  unfold signedQ
  rw [if_neg (by decide)]
  cases (decide (clampQ 0 < 0) != decide (clampQ s < 0)) <;> rfl
def sureP : List Int := [0, 0, 0, 16777216]
def sureH : List Int := [16777216, 0]
theorem sure_gain0 : gain0 sureP sureH 2 = [0, 0] := by kernel_rfl
theorem sure_offS (r : Int) (h1 : 16777216 ≤ r) (h2 : r ≤ 1099511627776) : offS sureH sureP 2 r = r := by
  unfold offS
  rw [show (betL sureH sureP 1 2).getD 0 0 = 0 from by kernel_rfl]
  unfold addQ
  rw [show clampQ 0 = 0 from rfl]
  unfold clampQ; omega
theorem sure_gain (s : Int) (h : clampQ s ≠ 0) : gain sureP sureH 2 (fun a => (divQ a s, divF a s)) = [0, 0] := by
  unfold gain
  rw [sure_gain0]
  show ([(0 : Int), 0].set 0 (divQ 0 s)).set 1 (divQ 0 s) = _
  rw [divQ_nought s h]; rfl
theorem sure_takeX (x y : Int) (hx : inQ x) : takeX [x, 5] [0, 0] y 2 = [x, 5] := by
  unfold takeX
  rw [scale_noughts]
  exact (add_zeros (n := 2) (m := 1) rfl (by intro v hv; simp at hv; rcases hv with rfl | rfl; exact hx; unfold inQ; omega)).1
theorem sure_takeP (r : Int) : takeP [0, 0] sureH sureP r 2 = sureP := by
  unfold takeP takeQ takeR
  rw [scale_noughts]
  kernel_rfl
theorem sure_right (x : Int) (hx : inQ x) : rightT 2 1 [x, 5] 2 2 sureP = true := by
  refine rightT_yes ⟨?_, ?_, rfl, rfl, rfl, ?_, ?_⟩
  · exact rightM_of (r := 2) (c := 1) (by decide) (by decide) (by decide) (by decide) rfl (by intro v hv; simp at hv; rcases hv with rfl | rfl; exact hx; unfold inQ; omega)
  · exact rightM_of (r := 2) (c := 2) (by decide) (by decide) (by decide) (by decide) rfl (by intro v hv; simp [sureP] at hv; rcases hv with rfl | rfl <;> (unfold inQ; omega))
  · show ∀ i k, i < 2 → k < 2 → sureP.getD (i * 2 + k) 0 = sureP.getD (k * 2 + i) 0
    intro i k hi hk
    have : (i = 0 ∨ i = 1) ∧ (k = 0 ∨ k = 1) := by omega
    rcases this with ⟨rfl | rfl, rfl | rfl⟩ <;> rfl
  · show ∀ i, i < 2 → 0 ≤ sureP.getD (i * 2 + i) 0
    intro i hi
    have : i = 0 ∨ i = 1 := by omega
    rcases this with rfl | rfl <;> decide
theorem sure_diag : diagL [0, 16777216] = sureP := by kernel_rfl


theorem sure_new (x : Int) (hx : inQ x) : SoundC Try.prog 36 [.sl (.r 0) 0 2 1 true, .sl (.r 1) 0 2 1 true] ⟨[ints [x, 5], ints [0, 16777216]], []⟩ { val := .tuple [.agg [.int .i64 2, .int .i64 1, .sl (.o 0) 0 2 1 false, .int .i64 2, .int .i64 2, .sl (.o 1) 0 4 1 false], .int .i64 0], newo := [ints [x, 5], ints sureP] } :=
  knew_ok [x, 5] [0, 16777216] true true (by simp) (by simp) (by simp) (by simp) (by intro v hv; simp at hv; rcases hv with rfl | rfl <;> (unfold inQ; omega)) (sure_right x hx)
theorem sure_stay (x z r : Int) (h1 : 16777216 ≤ r) (hs : mulQ (offY sureH [x, 5] 2 z) (offY sureH [x, 5] 2 z) > mulQ 16777216 (offS sureH sureP 2 r) ∨ offS sureH sureP 2 r ≤ 0) :
    ∃ a, SoundC Try.prog 37 [.agg [.int .i64 2, .int .i64 1, .sl (.r 0) 0 2 1 false, .int .i64 2, .int .i64 2, .sl (.r 1) 0 4 1 false], .agg [.int .i64 1, .int .i64 2, .sl (.r 2) 0 2 1 true], .int .i64 z, .int .i64 r, .int .i64 16777216] ⟨[ints [x, 5], ints sureP, ints sureH], []⟩ { val := .tuple [.agg [.int .i64 2, .int .i64 1, .sl (.r 0) 0 2 1 false, .int .i64 2, .int .i64 2, .sl (.r 1) 0 4 1 false], .bool false, .bool a, .int .i64 0] } :=
  ⟨_, update_stay 2 (by decide) (by decide) [x, 5] sureP sureH rfl rfl rfl false false true z r (by omega) 16777216 hs⟩
theorem sure_take (x z r : Int) (hx : inQ x) (h1 : 16777216 ≤ r) (h2 : r ≤ 1099511627776) (hs : ¬ (mulQ (offY sureH [x, 5] 2 z) (offY sureH [x, 5] 2 z) > mulQ 16777216 (offS sureH sureP 2 r) ∨ offS sureH sureP 2 r ≤ 0)) :
    ∃ a, SoundC Try.prog 37 [.agg [.int .i64 2, .int .i64 1, .sl (.r 0) 0 2 1 false, .int .i64 2, .int .i64 2, .sl (.r 1) 0 4 1 false], .agg [.int .i64 1, .int .i64 2, .sl (.r 2) 0 2 1 true], .int .i64 z, .int .i64 r, .int .i64 16777216] ⟨[ints [x, 5], ints sureP, ints sureH], []⟩ { val := .tuple [.agg [.int .i64 2, .int .i64 1, .sl (.o 0) 0 2 1 false, .int .i64 2, .int .i64 2, .sl (.o 1) 0 4 1 false], .bool true, .bool a, .int .i64 0], newo := [ints [x, 5], ints sureP] } := by
  have hc : clampQ (offS sureH sureP 2 r) ≠ 0 := by rw [sure_offS r h1 h2]; unfold clampQ; omega
  have h := update_take 2 (by decide) (by decide) [x, 5] sureP sureH rfl rfl rfl false false true z r (by omega) 16777216 hs (fun a => (divQ a (offS sureH sureP 2 r), divF a (offS sureH sureP 2 r))) (fun i hi => by
    rw [sure_gain0]
    have e : ([0, 0] : List Int).getD i 0 = 0 := by
      have : i = 0 ∨ i = 1 := by omega
      rcases this with rfl | rfl <;> rfl
    rw [e]
    have ha : (clampQ 0).natAbs < 1099511627776 := by rw [show (clampQ 0).natAbs = 0 from rfl]; omega
    have hd := div_small 0 (offS sureH sureP 2 r) ha hc
    dsimp only
    exact hd)
  rw [sure_gain _ hc, sure_takeX x _ hx, sure_takeP] at h
  generalize takeO _ _ _ _ _ _ _ _ = a at h
  exact ⟨a, h⟩

set_option maxHeartbeats 1000000 in
theorem kSure_no (x z r : Int) (hn : ¬ (x ≤ 1099511627776 ∧ -1099511627776 ≤ x ∧ z ≤ 1099511627776 ∧ -1099511627776 ≤ z ∧ 16777216 ≤ r ∧ r ≤ 1099511627776)) : SoundC Try.prog 7 [.int .i64 x, .int .i64 z, .int .i64 r] ⟨[], []⟩ { val := .bool true } := by
  refine SoundC.of (N := 112) Try.func7 rfl rfl rfl rfl ?_
  refine AW.seq ?_
  refine AW.region (by kernel_rfl) ?_
  refine RunF.q (o_assign rfl) rfl ?_
  refine AW.seq ?_
  refine AW.region (by kernel_rfl) ?_
  refine RunF.q (o_call (no := 0) (nr := 0) rfl rfl rfl nC (by rfl) (by exact shown05_ok) (by rfl) rfl rfl nV rfl) (by rfl) ?_
  refine RunF.q (o_assign rfl) rfl ?_
  refine AW.seq ?_
  refine AW.seq ?_
  refine AW.region (by kernel_rfl) ?_
  refine RunF.q (o_move rfl) rfl ?_
  refine RunF.br (o_gtr rfl rfl) rfl (fun hb2_1 => ?_) (fun hb2_1 => ?_)
  · try simp only [decide_eq_true_eq, decide_eq_false_iff_not, bne_iff_ne, beq_iff_eq, bne_eq_false_iff_eq, beq_eq_false_iff_ne, ne_eq, Bool.not_eq_true', Bool.not_eq_false'] at hb2_1
    refine RunF.q (o_move rfl) rfl ?_
    refine RunF.gs (b := true) rfl rfl ?_
    refine RunF.gs (b := true) rfl rfl ?_
    refine RunF.q (o_pick_t rfl rfl) rfl ?_
    refine RunF.q (o_move rfl) rfl ?_
    refine RunF.gs (b := true) rfl rfl ?_
    refine RunF.gs (b := true) rfl rfl ?_
    refine RunF.q (o_pick_t rfl rfl) rfl ?_
    refine RunF.q (o_move rfl) rfl ?_
    refine RunF.gs (b := true) rfl rfl ?_
    refine RunF.gs (b := true) rfl rfl ?_
    refine RunF.q (o_pick_t rfl rfl) rfl ?_
    refine RunF.q (o_move rfl) rfl ?_
    refine RunF.gs (b := true) rfl rfl ?_
    refine RunF.gs (b := true) rfl rfl ?_
    refine RunF.q (o_pick_t rfl rfl) rfl ?_
    refine RunF.q (o_move rfl) rfl ?_
    refine RunF.gs (b := true) rfl rfl ?_
    refine RunF.gs (b := true) rfl rfl ?_
    refine RunF.q (o_pick_t rfl rfl) rfl ?_
    refine AW.cond rfl (fun hc0 => ?_) (fun hc0 => absurd hc0 (by simp))
    refine AW.seq ?_
    refine AW.region (by kernel_rfl) ?_
    refine RunF.q (o_move rfl) rfl ?_
    refine RunF.q (o_assign rfl) rfl ?_
    refine AW.ret ?_
    exact FinQ.ret [] [] (ress_tmp rfl ress_nil) rfl (by first | exact RowsO.nil | skip) (by first | exact RowsR.nil | skip) nR
  · try simp only [decide_eq_true_eq, decide_eq_false_iff_not, bne_iff_ne, beq_iff_eq, bne_eq_false_iff_eq, beq_eq_false_iff_ne, ne_eq, Bool.not_eq_true', Bool.not_eq_false'] at hb2_1
    refine RunF.q (o_move rfl) rfl ?_
    refine RunF.gq rfl (o_move rfl) rfl ?_
    refine RunF.gb rfl (o_lss rfl rfl) rfl (fun hb2_4 => ?_) (fun hb2_4 => ?_)
    · try simp only [decide_eq_true_eq, decide_eq_false_iff_not, bne_iff_ne, beq_iff_eq, bne_eq_false_iff_eq, beq_eq_false_iff_ne, ne_eq, Bool.not_eq_true', Bool.not_eq_false'] at hb2_4
      refine RunF.q (o_pick_f rfl rfl) rfl ?_
      refine RunF.q (o_move rfl) rfl ?_
      refine RunF.gs (b := true) rfl rfl ?_
      refine RunF.gs (b := true) rfl rfl ?_
      refine RunF.q (o_pick_t rfl rfl) rfl ?_
      refine RunF.q (o_move rfl) rfl ?_
      refine RunF.gs (b := true) rfl rfl ?_
      refine RunF.gs (b := true) rfl rfl ?_
      refine RunF.q (o_pick_t rfl rfl) rfl ?_
      refine RunF.q (o_move rfl) rfl ?_
      refine RunF.gs (b := true) rfl rfl ?_
      refine RunF.gs (b := true) rfl rfl ?_
      refine RunF.q (o_pick_t rfl rfl) rfl ?_
      refine RunF.q (o_move rfl) rfl ?_
      refine RunF.gs (b := true) rfl rfl ?_
      refine RunF.gs (b := true) rfl rfl ?_
      refine RunF.q (o_pick_t rfl rfl) rfl ?_
      refine AW.cond rfl (fun hc0 => ?_) (fun hc0 => absurd hc0 (by simp))
      refine AW.seq ?_
      refine AW.region (by kernel_rfl) ?_
      refine RunF.q (o_move rfl) rfl ?_
      refine RunF.q (o_assign rfl) rfl ?_
      refine AW.ret ?_
      exact FinQ.ret [] [] (ress_tmp rfl ress_nil) rfl (by first | exact RowsO.nil | skip) (by first | exact RowsR.nil | skip) nR
    · try simp only [decide_eq_true_eq, decide_eq_false_iff_not, bne_iff_ne, beq_iff_eq, bne_eq_false_iff_eq, beq_eq_false_iff_ne, ne_eq, Bool.not_eq_true', Bool.not_eq_false'] at hb2_4
      refine RunF.q (o_pick_f rfl rfl) rfl ?_
      refine RunF.q (o_move rfl) rfl ?_
      refine RunF.gq rfl (o_move rfl) rfl ?_
      refine RunF.gb rfl (o_gtr rfl rfl) rfl (fun hb2_8 => ?_) (fun hb2_8 => ?_)
      · try simp only [decide_eq_true_eq, decide_eq_false_iff_not, bne_iff_ne, beq_iff_eq, bne_eq_false_iff_eq, beq_eq_false_iff_ne, ne_eq, Bool.not_eq_true', Bool.not_eq_false'] at hb2_8
        refine RunF.q (o_pick_f rfl rfl) rfl ?_
        refine RunF.q (o_move rfl) rfl ?_
        refine RunF.gs (b := true) rfl rfl ?_
        refine RunF.gs (b := true) rfl rfl ?_
        refine RunF.q (o_pick_t rfl rfl) rfl ?_
        refine RunF.q (o_move rfl) rfl ?_
        refine RunF.gs (b := true) rfl rfl ?_
        refine RunF.gs (b := true) rfl rfl ?_
        refine RunF.q (o_pick_t rfl rfl) rfl ?_
        refine RunF.q (o_move rfl) rfl ?_
        refine RunF.gs (b := true) rfl rfl ?_
        refine RunF.gs (b := true) rfl rfl ?_
        refine RunF.q (o_pick_t rfl rfl) rfl ?_
        refine AW.cond rfl (fun hc0 => ?_) (fun hc0 => absurd hc0 (by simp))
        refine AW.seq ?_
        refine AW.region (by kernel_rfl) ?_
        refine RunF.q (o_move rfl) rfl ?_
        refine RunF.q (o_assign rfl) rfl ?_
        refine AW.ret ?_
        exact FinQ.ret [] [] (ress_tmp rfl ress_nil) rfl (by first | exact RowsO.nil | skip) (by first | exact RowsR.nil | skip) nR
      · try simp only [decide_eq_true_eq, decide_eq_false_iff_not, bne_iff_ne, beq_iff_eq, bne_eq_false_iff_eq, beq_eq_false_iff_ne, ne_eq, Bool.not_eq_true', Bool.not_eq_false'] at hb2_8
        refine RunF.q (o_pick_f rfl rfl) rfl ?_
        refine RunF.q (o_move rfl) rfl ?_
        refine RunF.gq rfl (o_move rfl) rfl ?_
        refine RunF.gb rfl (o_lss rfl rfl) rfl (fun hb2_12 => ?_) (fun hb2_12 => ?_)
        · try simp only [decide_eq_true_eq, decide_eq_false_iff_not, bne_iff_ne, beq_iff_eq, bne_eq_false_iff_eq, beq_eq_false_iff_ne, ne_eq, Bool.not_eq_true', Bool.not_eq_false'] at hb2_12
          refine RunF.q (o_pick_f rfl rfl) rfl ?_
          refine RunF.q (o_move rfl) rfl ?_
          refine RunF.gs (b := true) rfl rfl ?_
          refine RunF.gs (b := true) rfl rfl ?_
          refine RunF.q (o_pick_t rfl rfl) rfl ?_
          refine RunF.q (o_move rfl) rfl ?_
          refine RunF.gs (b := true) rfl rfl ?_
          refine RunF.gs (b := true) rfl rfl ?_
          refine RunF.q (o_pick_t rfl rfl) rfl ?_
          refine AW.cond rfl (fun hc0 => ?_) (fun hc0 => absurd hc0 (by simp))
          refine AW.seq ?_
          refine AW.region (by kernel_rfl) ?_
          refine RunF.q (o_move rfl) rfl ?_
          refine RunF.q (o_assign rfl) rfl ?_
          refine AW.ret ?_
          exact FinQ.ret [] [] (ress_tmp rfl ress_nil) rfl (by first | exact RowsO.nil | skip) (by first | exact RowsR.nil | skip) nR
        · try simp only [decide_eq_true_eq, decide_eq_false_iff_not, bne_iff_ne, beq_iff_eq, bne_eq_false_iff_eq, beq_eq_false_iff_ne, ne_eq, Bool.not_eq_true', Bool.not_eq_false'] at hb2_12
          refine RunF.q (o_pick_f rfl rfl) rfl ?_
          refine RunF.q (o_move rfl) rfl ?_
          refine RunF.gq rfl (o_move rfl) rfl ?_
          refine RunF.gb rfl (o_lss rfl rfl) rfl (fun hb2_16 => ?_) (fun hb2_16 => ?_)
          · try simp only [decide_eq_true_eq, decide_eq_false_iff_not, bne_iff_ne, beq_iff_eq, bne_eq_false_iff_eq, beq_eq_false_iff_ne, ne_eq, Bool.not_eq_true', Bool.not_eq_false'] at hb2_16
            refine RunF.q (o_pick_f rfl rfl) rfl ?_
            refine RunF.q (o_move rfl) rfl ?_
            refine RunF.gs (b := true) rfl rfl ?_
            refine RunF.gs (b := true) rfl rfl ?_
            refine RunF.q (o_pick_t rfl rfl) rfl ?_
            refine AW.cond rfl (fun hc0 => ?_) (fun hc0 => absurd hc0 (by simp))
            refine AW.seq ?_
            refine AW.region (by kernel_rfl) ?_
            refine RunF.q (o_move rfl) rfl ?_
            refine RunF.q (o_assign rfl) rfl ?_
            refine AW.ret ?_
            exact FinQ.ret [] [] (ress_tmp rfl ress_nil) rfl (by first | exact RowsO.nil | skip) (by first | exact RowsR.nil | skip) nR
          · try simp only [decide_eq_true_eq, decide_eq_false_iff_not, bne_iff_ne, beq_iff_eq, bne_eq_false_iff_eq, beq_eq_false_iff_ne, ne_eq, Bool.not_eq_true', Bool.not_eq_false'] at hb2_16
            refine RunF.q (o_pick_f rfl rfl) rfl ?_
            refine RunF.q (o_move rfl) rfl ?_
            refine RunF.gq rfl (o_move rfl) rfl ?_
            refine RunF.gb rfl (o_gtr rfl rfl) rfl (fun hb2_20 => ?_) (fun hb2_20 => ?_)
            · try simp only [decide_eq_true_eq, decide_eq_false_iff_not, bne_iff_ne, beq_iff_eq, bne_eq_false_iff_eq, beq_eq_false_iff_ne, ne_eq, Bool.not_eq_true', Bool.not_eq_false'] at hb2_20
              refine RunF.q (o_pick_f rfl rfl) rfl ?_
              refine AW.cond rfl (fun hc0 => ?_) (fun hc0 => absurd hc0 (by simp))
              refine AW.seq ?_
              refine AW.region (by kernel_rfl) ?_
              refine RunF.q (o_move rfl) rfl ?_
              refine RunF.q (o_assign rfl) rfl ?_
              refine AW.ret ?_
              exact FinQ.ret [] [] (ress_tmp rfl ress_nil) rfl (by first | exact RowsO.nil | skip) (by first | exact RowsR.nil | skip) nR
            · try simp only [decide_eq_true_eq, decide_eq_false_iff_not, bne_iff_ne, beq_iff_eq, bne_eq_false_iff_eq, beq_eq_false_iff_ne, ne_eq, Bool.not_eq_true', Bool.not_eq_false'] at hb2_20
              exfalso; omega

set_option maxHeartbeats 1000000 in
theorem kSure_stay (x z r : Int) (hg : x ≤ 1099511627776 ∧ -1099511627776 ≤ x ∧ z ≤ 1099511627776 ∧ -1099511627776 ≤ z ∧ 16777216 ≤ r ∧ r ≤ 1099511627776) (hs : (mulQ (offY sureH [x, 5] 2 z) (offY sureH [x, 5] 2 z) > mulQ 16777216 (offS sureH sureP 2 r) ∨ offS sureH sureP 2 r ≤ 0)) : SoundC Try.prog 7 [.int .i64 x, .int .i64 z, .int .i64 r] ⟨[], []⟩ { val := .bool true } := by
  have hx : inQ x := by unfold inQ; omega
  obtain ⟨a, hu⟩ := sure_stay x z r (by omega) hs
  refine SoundC.of (N := 112) Try.func7 rfl rfl rfl rfl ?_
  refine AW.seq ?_
  refine AW.region (by kernel_rfl) ?_
  refine RunF.q (o_assign rfl) rfl ?_
  refine AW.seq ?_
  refine AW.region (by kernel_rfl) ?_
  refine RunF.q (o_call (no := 0) (nr := 0) rfl rfl rfl nC (by rfl) (by exact shown05_ok) (by rfl) rfl rfl nV rfl) (by rfl) ?_
  refine RunF.q (o_assign rfl) rfl ?_
  refine AW.seq ?_
  refine AW.seq ?_
  refine AW.region (by kernel_rfl) ?_
  refine RunF.q (o_move rfl) rfl ?_
  refine RunF.br (o_gtr rfl rfl) rfl (fun hb2_1 => ?_) (fun hb2_1 => ?_)
  · try simp only [decide_eq_true_eq, decide_eq_false_iff_not, bne_iff_ne, beq_iff_eq, bne_eq_false_iff_eq, beq_eq_false_iff_ne, ne_eq, Bool.not_eq_true', Bool.not_eq_false'] at hb2_1
    exfalso; omega
  · try simp only [decide_eq_true_eq, decide_eq_false_iff_not, bne_iff_ne, beq_iff_eq, bne_eq_false_iff_eq, beq_eq_false_iff_ne, ne_eq, Bool.not_eq_true', Bool.not_eq_false'] at hb2_1
    refine RunF.q (o_move rfl) rfl ?_
    refine RunF.gq rfl (o_move rfl) rfl ?_
    refine RunF.gb rfl (o_lss rfl rfl) rfl (fun hb2_4 => ?_) (fun hb2_4 => ?_)
    · try simp only [decide_eq_true_eq, decide_eq_false_iff_not, bne_iff_ne, beq_iff_eq, bne_eq_false_iff_eq, beq_eq_false_iff_ne, ne_eq, Bool.not_eq_true', Bool.not_eq_false'] at hb2_4
      exfalso; omega
    · try simp only [decide_eq_true_eq, decide_eq_false_iff_not, bne_iff_ne, beq_iff_eq, bne_eq_false_iff_eq, beq_eq_false_iff_ne, ne_eq, Bool.not_eq_true', Bool.not_eq_false'] at hb2_4
      refine RunF.q (o_pick_f rfl rfl) rfl ?_
      refine RunF.q (o_move rfl) rfl ?_
      refine RunF.gq rfl (o_move rfl) rfl ?_
      refine RunF.gb rfl (o_gtr rfl rfl) rfl (fun hb2_8 => ?_) (fun hb2_8 => ?_)
      · try simp only [decide_eq_true_eq, decide_eq_false_iff_not, bne_iff_ne, beq_iff_eq, bne_eq_false_iff_eq, beq_eq_false_iff_ne, ne_eq, Bool.not_eq_true', Bool.not_eq_false'] at hb2_8
        exfalso; omega
      · try simp only [decide_eq_true_eq, decide_eq_false_iff_not, bne_iff_ne, beq_iff_eq, bne_eq_false_iff_eq, beq_eq_false_iff_ne, ne_eq, Bool.not_eq_true', Bool.not_eq_false'] at hb2_8
        refine RunF.q (o_pick_f rfl rfl) rfl ?_
        refine RunF.q (o_move rfl) rfl ?_
        refine RunF.gq rfl (o_move rfl) rfl ?_
        refine RunF.gb rfl (o_lss rfl rfl) rfl (fun hb2_12 => ?_) (fun hb2_12 => ?_)
        · try simp only [decide_eq_true_eq, decide_eq_false_iff_not, bne_iff_ne, beq_iff_eq, bne_eq_false_iff_eq, beq_eq_false_iff_ne, ne_eq, Bool.not_eq_true', Bool.not_eq_false'] at hb2_12
          exfalso; omega
        · try simp only [decide_eq_true_eq, decide_eq_false_iff_not, bne_iff_ne, beq_iff_eq, bne_eq_false_iff_eq, beq_eq_false_iff_ne, ne_eq, Bool.not_eq_true', Bool.not_eq_false'] at hb2_12
          refine RunF.q (o_pick_f rfl rfl) rfl ?_
          refine RunF.q (o_move rfl) rfl ?_
          refine RunF.gq rfl (o_move rfl) rfl ?_
          refine RunF.gb rfl (o_lss rfl rfl) rfl (fun hb2_16 => ?_) (fun hb2_16 => ?_)
          · try simp only [decide_eq_true_eq, decide_eq_false_iff_not, bne_iff_ne, beq_iff_eq, bne_eq_false_iff_eq, beq_eq_false_iff_ne, ne_eq, Bool.not_eq_true', Bool.not_eq_false'] at hb2_16
            exfalso; omega
          · try simp only [decide_eq_true_eq, decide_eq_false_iff_not, bne_iff_ne, beq_iff_eq, bne_eq_false_iff_eq, beq_eq_false_iff_ne, ne_eq, Bool.not_eq_true', Bool.not_eq_false'] at hb2_16
            refine RunF.q (o_pick_f rfl rfl) rfl ?_
            refine RunF.q (o_move rfl) rfl ?_
            refine RunF.gq rfl (o_move rfl) rfl ?_
            refine RunF.gb rfl (o_gtr rfl rfl) rfl (fun hb2_20 => ?_) (fun hb2_20 => ?_)
            · try simp only [decide_eq_true_eq, decide_eq_false_iff_not, bne_iff_ne, beq_iff_eq, bne_eq_false_iff_eq, beq_eq_false_iff_ne, ne_eq, Bool.not_eq_true', Bool.not_eq_false'] at hb2_20
              exfalso; omega
            · try simp only [decide_eq_true_eq, decide_eq_false_iff_not, bne_iff_ne, beq_iff_eq, bne_eq_false_iff_eq, beq_eq_false_iff_ne, ne_eq, Bool.not_eq_true', Bool.not_eq_false'] at hb2_20
              refine RunF.q (o_pick_f rfl rfl) rfl ?_
              refine AW.cond rfl (fun hc0 => absurd hc0 (by simp)) (fun hc0 => ?_)
              refine AW.skip ?_
              refine AW.seq ?_
              refine AW.region (by kernel_rfl) ?_
              refine RunF.q (o_move rfl) rfl ?_
              refine RunF.w (o_buildSlice (nm := 0) tk22 ts30 tz30 rfl rfl rfl rfl) nH2 ?_
              refine RunF.w (o_buildSlice (nm := 1) tk22 ts30 tz30 rfl rfl rfl rfl) nH2 ?_
              refine RunF.w (o_call (no := 2) (nr := 0) rfl rfl rfl nC (by rfl) (by exact sure_new x hx) (by rfl) rfl rfl nV nE) nH2 ?_
              refine RunF.q (o_move rfl) rfl ?_
              refine RunF.q (o_extract rfl rfl) rfl ?_
              refine RunF.q (o_extract rfl rfl) rfl ?_
              refine RunF.w (o_alloc (nm := 4) tz41 rfl) nH2 ?_
              refine RunF.wn (o_store rfl rfl rfl ts41 rfl rfl) nH2 ?_
              refine RunF.q (o_assign rfl) rfl ?_
              refine AW.seq ?_
              refine AW.region (by kernel_rfl) ?_
              refine RunF.w (o_buildSlice (nm := 5) tk22 ts30 tz30 rfl rfl rfl rfl) nH2 ?_
              refine RunF.q (o_build tk24 tz24 pl24 rfl rfl) rfl ?_
              refine RunF.w (o_alloc (nm := 6) tz24 rfl) nH2 ?_
              refine RunF.wn (o_store rfl rfl rfl ts24 rfl rfl) nH2 ?_
              refine AW.seq ?_
              refine AW.region (by kernel_rfl) ?_
              refine RunF.q (o_load_agg rfl tk41 ts41 rfl rfl rfl nL) rfl ?_
              refine RunF.q (o_load_agg rfl tk24 ts24 rfl rfl rfl nL) rfl ?_
              refine RunF.q (o_move rfl) rfl ?_
              refine RunF.q (o_move rfl) rfl ?_
              refine RunF.q (o_call (no := 7) (nr := 0) rfl rfl rfl nC (by rfl) (by exact hu) (by rfl) rfl rfl nV rfl) (by rfl) ?_
              refine RunF.q (o_move rfl) rfl ?_
              refine RunF.q (o_extract rfl rfl) rfl ?_
              refine RunF.q (o_extract rfl rfl) rfl ?_
              refine RunF.q (o_extract rfl rfl) rfl ?_
              refine RunF.q (o_extract rfl rfl) rfl ?_
              refine RunF.w (o_alloc (nm := 7) tz41 rfl) nH2 ?_
              refine RunF.wn (o_store rfl rfl rfl ts41 rfl rfl) nH2 ?_
              refine RunF.q (o_assign rfl) rfl ?_
              refine RunF.q (o_assign rfl) rfl ?_
              refine RunF.q (o_assign rfl) rfl ?_
              refine AW.seq ?_
              refine AW.seq ?_
              refine AW.region (by kernel_rfl) ?_
              refine RunF.q (o_move rfl) rfl ?_
              refine RunF.q (o_neq rfl rfl) rfl ?_
              refine RunF.q (o_move rfl) rfl ?_
              refine RunF.gq rfl (o_move rfl) rfl ?_
              refine RunF.gq rfl (o_neq rfl rfl) rfl ?_
              refine RunF.q (o_pick_f rfl rfl) rfl ?_
              refine RunF.q (o_move rfl) rfl ?_
              refine RunF.gq rfl (o_fieldAddr rfl tk41 rfl ts24 rfl) rfl ?_
              refine RunF.gq rfl (o_fieldAddr rfl tk24 rfl ts22 rfl) rfl ?_
              refine RunF.gq rfl (o_load rfl tk22 ts22 rfl rfl rfl) rfl ?_
              first | refine RunF.gq rfl (o_len tk22 rfl) rfl ?_ | refine RunF.gq rfl (o_len_nil tk22 rfl) rfl ?_
              refine RunF.gq rfl (o_neq rfl rfl) rfl ?_
              refine RunF.q (o_pick_f rfl rfl) rfl ?_
              refine RunF.q (o_move rfl) rfl ?_
              refine RunF.gq rfl (o_fieldAddr rfl tk41 rfl ts24 rfl) rfl ?_
              refine RunF.gq rfl (o_fieldAddr rfl tk24 rfl ts22 rfl) rfl ?_
              refine RunF.gq rfl (o_load rfl tk22 ts22 rfl rfl rfl) rfl ?_
              first | refine RunF.gq rfl (o_len tk22 rfl) rfl ?_ | refine RunF.gq rfl (o_len_nil tk22 rfl) rfl ?_
              refine RunF.gq rfl (o_neq rfl rfl) rfl ?_
              refine RunF.q (o_pick_f rfl rfl) rfl ?_
              refine AW.cond rfl (fun hc1 => absurd hc1 (by simp)) (fun hc1 => ?_)
              refine AW.skip ?_
              refine AW.seq ?_
              refine AW.region (by kernel_rfl) ?_
              refine RunF.q (o_move rfl) rfl ?_
              refine RunF.q (o_move rfl) rfl ?_
              refine RunF.gq rfl (o_fieldAddr rfl tk41 rfl ts24 rfl) rfl ?_
              refine RunF.gq rfl (o_fieldAddr rfl tk24 rfl ts22 rfl) rfl ?_
              refine RunF.gq rfl (o_load rfl tk22 ts22 rfl rfl rfl) rfl ?_
              refine RunF.gq rfl (o_indexAddr tk22 ts30 rfl rfl (by first | decide | (constructor <;> omega)) rfl) rfl ?_
              refine RunF.gq rfl (o_load rfl tk30 ts30 rfl rfl rfl) rfl ?_
              refine RunF.gq rfl (o_move rfl) rfl ?_
              refine RunF.gq rfl (o_bin (v := .bool true) rfl rfl (by simp [binA])) rfl ?_
              refine RunF.q (o_pick_t rfl rfl) rfl ?_
              refine RunF.q (o_move rfl) rfl ?_
              refine RunF.gq rfl (o_fieldAddr rfl tk41 rfl ts24 rfl) rfl ?_
              refine RunF.gq rfl (o_fieldAddr rfl tk24 rfl ts22 rfl) rfl ?_
              refine RunF.gq rfl (o_load rfl tk22 ts22 rfl rfl rfl) rfl ?_
              refine RunF.gq rfl (o_indexAddr tk22 ts30 rfl rfl (by first | decide | (constructor <;> omega)) rfl) rfl ?_
              refine RunF.gq rfl (o_load rfl tk30 ts30 rfl rfl rfl) rfl ?_
              refine RunF.gq rfl (o_eql rfl rfl) rfl ?_
              refine RunF.q (o_pick_t rfl rfl) rfl ?_
              refine RunF.q (o_move rfl) rfl ?_
              refine RunF.gq rfl (o_fieldAddr rfl tk41 rfl ts24 rfl) rfl ?_
              refine RunF.gq rfl (o_fieldAddr rfl tk24 rfl ts22 rfl) rfl ?_
              refine RunF.gq rfl (o_load rfl tk22 ts22 rfl rfl rfl) rfl ?_
              refine RunF.gq rfl (o_indexAddr tk22 ts30 rfl rfl (by first | decide | (constructor <;> omega)) rfl) rfl ?_
              refine RunF.gq rfl (o_load rfl tk30 ts30 rfl rfl rfl) rfl ?_
              refine RunF.gq rfl (o_eql rfl rfl) rfl ?_
              refine RunF.q (o_pick_t rfl rfl) rfl ?_
              refine RunF.q (o_move rfl) rfl ?_
              refine RunF.gq rfl (o_fieldAddr rfl tk41 rfl ts24 rfl) rfl ?_
              refine RunF.gq rfl (o_fieldAddr rfl tk24 rfl ts22 rfl) rfl ?_
              refine RunF.gq rfl (o_load rfl tk22 ts22 rfl rfl rfl) rfl ?_
              refine RunF.gq rfl (o_indexAddr tk22 ts30 rfl rfl (by first | decide | (constructor <;> omega)) rfl) rfl ?_
              refine RunF.gq rfl (o_load rfl tk30 ts30 rfl rfl rfl) rfl ?_
              refine RunF.gq rfl (o_eql rfl rfl) rfl ?_
              refine RunF.q (o_pick_t rfl rfl) rfl ?_
              refine RunF.q (o_assign rfl) rfl ?_
              refine AW.ret ?_
              exact FinQ.ret [] [] (ress_tmp rfl ress_nil) rfl (by first | exact RowsO.nil | skip) (by first | exact RowsR.nil | skip) nR

set_option maxHeartbeats 1000000 in
theorem kSure_take (x z r : Int) (hg : x ≤ 1099511627776 ∧ -1099511627776 ≤ x ∧ z ≤ 1099511627776 ∧ -1099511627776 ≤ z ∧ 16777216 ≤ r ∧ r ≤ 1099511627776) (hs : ¬ (mulQ (offY sureH [x, 5] 2 z) (offY sureH [x, 5] 2 z) > mulQ 16777216 (offS sureH sureP 2 r) ∨ offS sureH sureP 2 r ≤ 0)) : SoundC Try.prog 7 [.int .i64 x, .int .i64 z, .int .i64 r] ⟨[], []⟩ { val := .bool true } := by
  have hx : inQ x := by unfold inQ; omega
  obtain ⟨a, hu⟩ := sure_take x z r hx (by omega) (by omega) hs
  refine SoundC.of (N := 112) Try.func7 rfl rfl rfl rfl ?_
  refine AW.seq ?_
  refine AW.region (by kernel_rfl) ?_
  refine RunF.q (o_assign rfl) rfl ?_
  refine AW.seq ?_
  refine AW.region (by kernel_rfl) ?_
  refine RunF.q (o_call (no := 0) (nr := 0) rfl rfl rfl nC (by rfl) (by exact shown05_ok) (by rfl) rfl rfl nV rfl) (by rfl) ?_
  refine RunF.q (o_assign rfl) rfl ?_
  refine AW.seq ?_
  refine AW.seq ?_
  refine AW.region (by kernel_rfl) ?_
  refine RunF.q (o_move rfl) rfl ?_
  refine RunF.br (o_gtr rfl rfl) rfl (fun hb2_1 => ?_) (fun hb2_1 => ?_)
  · try simp only [decide_eq_true_eq, decide_eq_false_iff_not, bne_iff_ne, beq_iff_eq, bne_eq_false_iff_eq, beq_eq_false_iff_ne, ne_eq, Bool.not_eq_true', Bool.not_eq_false'] at hb2_1
    exfalso; omega
  · try simp only [decide_eq_true_eq, decide_eq_false_iff_not, bne_iff_ne, beq_iff_eq, bne_eq_false_iff_eq, beq_eq_false_iff_ne, ne_eq, Bool.not_eq_true', Bool.not_eq_false'] at hb2_1
    refine RunF.q (o_move rfl) rfl ?_
    refine RunF.gq rfl (o_move rfl) rfl ?_
    refine RunF.gb rfl (o_lss rfl rfl) rfl (fun hb2_4 => ?_) (fun hb2_4 => ?_)
    · try simp only [decide_eq_true_eq, decide_eq_false_iff_not, bne_iff_ne, beq_iff_eq, bne_eq_false_iff_eq, beq_eq_false_iff_ne, ne_eq, Bool.not_eq_true', Bool.not_eq_false'] at hb2_4
      exfalso; omega
    · try simp only [decide_eq_true_eq, decide_eq_false_iff_not, bne_iff_ne, beq_iff_eq, bne_eq_false_iff_eq, beq_eq_false_iff_ne, ne_eq, Bool.not_eq_true', Bool.not_eq_false'] at hb2_4
      refine RunF.q (o_pick_f rfl rfl) rfl ?_
      refine RunF.q (o_move rfl) rfl ?_
      refine RunF.gq rfl (o_move rfl) rfl ?_
      refine RunF.gb rfl (o_gtr rfl rfl) rfl (fun hb2_8 => ?_) (fun hb2_8 => ?_)
      · try simp only [decide_eq_true_eq, decide_eq_false_iff_not, bne_iff_ne, beq_iff_eq, bne_eq_false_iff_eq, beq_eq_false_iff_ne, ne_eq, Bool.not_eq_true', Bool.not_eq_false'] at hb2_8
        exfalso; omega
      · try simp only [decide_eq_true_eq, decide_eq_false_iff_not, bne_iff_ne, beq_iff_eq, bne_eq_false_iff_eq, beq_eq_false_iff_ne, ne_eq, Bool.not_eq_true', Bool.not_eq_false'] at hb2_8
        refine RunF.q (o_pick_f rfl rfl) rfl ?_
        refine RunF.q (o_move rfl) rfl ?_
        refine RunF.gq rfl (o_move rfl) rfl ?_
        refine RunF.gb rfl (o_lss rfl rfl) rfl (fun hb2_12 => ?_) (fun hb2_12 => ?_)
        · try simp only [decide_eq_true_eq, decide_eq_false_iff_not, bne_iff_ne, beq_iff_eq, bne_eq_false_iff_eq, beq_eq_false_iff_ne, ne_eq, Bool.not_eq_true', Bool.not_eq_false'] at hb2_12
          exfalso; omega
        · try simp only [decide_eq_true_eq, decide_eq_false_iff_not, bne_iff_ne, beq_iff_eq, bne_eq_false_iff_eq, beq_eq_false_iff_ne, ne_eq, Bool.not_eq_true', Bool.not_eq_false'] at hb2_12
          refine RunF.q (o_pick_f rfl rfl) rfl ?_
          refine RunF.q (o_move rfl) rfl ?_
          refine RunF.gq rfl (o_move rfl) rfl ?_
          refine RunF.gb rfl (o_lss rfl rfl) rfl (fun hb2_16 => ?_) (fun hb2_16 => ?_)
          · try simp only [decide_eq_true_eq, decide_eq_false_iff_not, bne_iff_ne, beq_iff_eq, bne_eq_false_iff_eq, beq_eq_false_iff_ne, ne_eq, Bool.not_eq_true', Bool.not_eq_false'] at hb2_16
            exfalso; omega
          · try simp only [decide_eq_true_eq, decide_eq_false_iff_not, bne_iff_ne, beq_iff_eq, bne_eq_false_iff_eq, beq_eq_false_iff_ne, ne_eq, Bool.not_eq_true', Bool.not_eq_false'] at hb2_16
            refine RunF.q (o_pick_f rfl rfl) rfl ?_
            refine RunF.q (o_move rfl) rfl ?_
            refine RunF.gq rfl (o_move rfl) rfl ?_
            refine RunF.gb rfl (o_gtr rfl rfl) rfl (fun hb2_20 => ?_) (fun hb2_20 => ?_)
            · try simp only [decide_eq_true_eq, decide_eq_false_iff_not, bne_iff_ne, beq_iff_eq, bne_eq_false_iff_eq, beq_eq_false_iff_ne, ne_eq, Bool.not_eq_true', Bool.not_eq_false'] at hb2_20
              exfalso; omega
            · try simp only [decide_eq_true_eq, decide_eq_false_iff_not, bne_iff_ne, beq_iff_eq, bne_eq_false_iff_eq, beq_eq_false_iff_ne, ne_eq, Bool.not_eq_true', Bool.not_eq_false'] at hb2_20
              refine RunF.q (o_pick_f rfl rfl) rfl ?_
              refine AW.cond rfl (fun hc0 => absurd hc0 (by simp)) (fun hc0 => ?_)
              refine AW.skip ?_
              refine AW.seq ?_
              refine AW.region (by kernel_rfl) ?_
              refine RunF.q (o_move rfl) rfl ?_
              refine RunF.w (o_buildSlice (nm := 0) tk22 ts30 tz30 rfl rfl rfl rfl) nH2 ?_
              refine RunF.w (o_buildSlice (nm := 1) tk22 ts30 tz30 rfl rfl rfl rfl) nH2 ?_
              refine RunF.w (o_call (no := 2) (nr := 0) rfl rfl rfl nC (by rfl) (by exact sure_new x hx) (by rfl) rfl rfl nV nE) nH2 ?_
              refine RunF.q (o_move rfl) rfl ?_
              refine RunF.q (o_extract rfl rfl) rfl ?_
              refine RunF.q (o_extract rfl rfl) rfl ?_
              refine RunF.w (o_alloc (nm := 4) tz41 rfl) nH2 ?_
              refine RunF.wn (o_store rfl rfl rfl ts41 rfl rfl) nH2 ?_
              refine RunF.q (o_assign rfl) rfl ?_
              refine AW.seq ?_
              refine AW.region (by kernel_rfl) ?_
              refine RunF.w (o_buildSlice (nm := 5) tk22 ts30 tz30 rfl rfl rfl rfl) nH2 ?_
              refine RunF.q (o_build tk24 tz24 pl24 rfl rfl) rfl ?_
              refine RunF.w (o_alloc (nm := 6) tz24 rfl) nH2 ?_
              refine RunF.wn (o_store rfl rfl rfl ts24 rfl rfl) nH2 ?_
              refine AW.seq ?_
              refine AW.region (by kernel_rfl) ?_
              refine RunF.q (o_load_agg rfl tk41 ts41 rfl rfl rfl nL) rfl ?_
              refine RunF.q (o_load_agg rfl tk24 ts24 rfl rfl rfl nL) rfl ?_
              refine RunF.q (o_move rfl) rfl ?_
              refine RunF.q (o_move rfl) rfl ?_
              refine RunF.w (o_call (no := 7) (nr := 0) rfl rfl rfl nC (by rfl) (by exact hu) (by rfl) rfl rfl nV nE) nH2 ?_
              refine RunF.q (o_move rfl) rfl ?_
              refine RunF.q (o_extract rfl rfl) rfl ?_
              refine RunF.q (o_extract rfl rfl) rfl ?_
              refine RunF.q (o_extract rfl rfl) rfl ?_
              refine RunF.q (o_extract rfl rfl) rfl ?_
              refine RunF.w (o_alloc (nm := 9) tz41 rfl) nH2 ?_
              refine RunF.wn (o_store rfl rfl rfl ts41 rfl rfl) nH2 ?_
              refine RunF.q (o_assign rfl) rfl ?_
              refine RunF.q (o_assign rfl) rfl ?_
              refine RunF.q (o_assign rfl) rfl ?_
              refine AW.seq ?_
              refine AW.seq ?_
              refine AW.region (by kernel_rfl) ?_
              refine RunF.q (o_move rfl) rfl ?_
              refine RunF.q (o_neq rfl rfl) rfl ?_
              refine RunF.q (o_move rfl) rfl ?_
              refine RunF.gq rfl (o_move rfl) rfl ?_
              refine RunF.gq rfl (o_neq rfl rfl) rfl ?_
              refine RunF.q (o_pick_f rfl rfl) rfl ?_
              refine RunF.q (o_move rfl) rfl ?_
              refine RunF.gq rfl (o_fieldAddr rfl tk41 rfl ts24 rfl) rfl ?_
              refine RunF.gq rfl (o_fieldAddr rfl tk24 rfl ts22 rfl) rfl ?_
              refine RunF.gq rfl (o_load rfl tk22 ts22 rfl rfl rfl) rfl ?_
              first | refine RunF.gq rfl (o_len tk22 rfl) rfl ?_ | refine RunF.gq rfl (o_len_nil tk22 rfl) rfl ?_
              refine RunF.gq rfl (o_neq rfl rfl) rfl ?_
              refine RunF.q (o_pick_f rfl rfl) rfl ?_
              refine RunF.q (o_move rfl) rfl ?_
              refine RunF.gq rfl (o_fieldAddr rfl tk41 rfl ts24 rfl) rfl ?_
              refine RunF.gq rfl (o_fieldAddr rfl tk24 rfl ts22 rfl) rfl ?_
              refine RunF.gq rfl (o_load rfl tk22 ts22 rfl rfl rfl) rfl ?_
              first | refine RunF.gq rfl (o_len tk22 rfl) rfl ?_ | refine RunF.gq rfl (o_len_nil tk22 rfl) rfl ?_
              refine RunF.gq rfl (o_neq rfl rfl) rfl ?_
              refine RunF.q (o_pick_f rfl rfl) rfl ?_
              refine AW.cond rfl (fun hc1 => absurd hc1 (by simp)) (fun hc1 => ?_)
              refine AW.skip ?_
              refine AW.seq ?_
              refine AW.region (by kernel_rfl) ?_
              refine RunF.q (o_move rfl) rfl ?_
              refine RunF.q (o_move rfl) rfl ?_
              refine RunF.gq rfl (o_fieldAddr rfl tk41 rfl ts24 rfl) rfl ?_
              refine RunF.gq rfl (o_fieldAddr rfl tk24 rfl ts22 rfl) rfl ?_
              refine RunF.gq rfl (o_load rfl tk22 ts22 rfl rfl rfl) rfl ?_
              refine RunF.gq rfl (o_indexAddr tk22 ts30 rfl rfl (by first | decide | (constructor <;> omega)) rfl) rfl ?_
              refine RunF.gq rfl (o_load rfl tk30 ts30 rfl rfl rfl) rfl ?_
              refine RunF.gq rfl (o_move rfl) rfl ?_
              refine RunF.gq rfl (o_bin (v := .bool true) rfl rfl (by simp [binA])) rfl ?_
              refine RunF.q (o_pick_t rfl rfl) rfl ?_
              refine RunF.q (o_move rfl) rfl ?_
              refine RunF.gq rfl (o_fieldAddr rfl tk41 rfl ts24 rfl) rfl ?_
              refine RunF.gq rfl (o_fieldAddr rfl tk24 rfl ts22 rfl) rfl ?_
              refine RunF.gq rfl (o_load rfl tk22 ts22 rfl rfl rfl) rfl ?_
              refine RunF.gq rfl (o_indexAddr tk22 ts30 rfl rfl (by first | decide | (constructor <;> omega)) rfl) rfl ?_
              refine RunF.gq rfl (o_load rfl tk30 ts30 rfl rfl rfl) rfl ?_
              refine RunF.gq rfl (o_eql rfl rfl) rfl ?_
              refine RunF.q (o_pick_t rfl rfl) rfl ?_
              refine RunF.q (o_move rfl) rfl ?_
              refine RunF.gq rfl (o_fieldAddr rfl tk41 rfl ts24 rfl) rfl ?_
              refine RunF.gq rfl (o_fieldAddr rfl tk24 rfl ts22 rfl) rfl ?_
              refine RunF.gq rfl (o_load rfl tk22 ts22 rfl rfl rfl) rfl ?_
              refine RunF.gq rfl (o_indexAddr tk22 ts30 rfl rfl (by first | decide | (constructor <;> omega)) rfl) rfl ?_
              refine RunF.gq rfl (o_load rfl tk30 ts30 rfl rfl rfl) rfl ?_
              refine RunF.gq rfl (o_eql rfl rfl) rfl ?_
              refine RunF.q (o_pick_t rfl rfl) rfl ?_
              refine RunF.q (o_move rfl) rfl ?_
              refine RunF.gq rfl (o_fieldAddr rfl tk41 rfl ts24 rfl) rfl ?_
              refine RunF.gq rfl (o_fieldAddr rfl tk24 rfl ts22 rfl) rfl ?_
              refine RunF.gq rfl (o_load rfl tk22 ts22 rfl rfl rfl) rfl ?_
              refine RunF.gq rfl (o_indexAddr tk22 ts30 rfl rfl (by first | decide | (constructor <;> omega)) rfl) rfl ?_
              refine RunF.gq rfl (o_load rfl tk30 ts30 rfl rfl rfl) rfl ?_
              refine RunF.gq rfl (o_eql rfl rfl) rfl ?_
              refine RunF.q (o_pick_t rfl rfl) rfl ?_
              refine RunF.q (o_assign rfl) rfl ?_
              refine AW.ret ?_
              exact FinQ.ret [] [] (ress_tmp rfl ress_nil) rfl (by first | exact RowsO.nil | skip) (by first | exact RowsR.nil | skip) nR

end Go.Proofs.Ytnkijhpikeokfaa
