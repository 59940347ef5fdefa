/- The texts F7, F6, F8, C03, F9, F10. -/
import Derived.Test.YtnkijhpikeokfaaG4
import Derived.Test.YtnkijhpikeokfaaG2
import Derived.Test.YtnkijhpikeokfaaProg
set_option linter.unusedSimpArgs false
set_option linter.unusedVariables false
/- Rows of numbers: whether two are the same, whether one holds something; which matrices are right, and the same. -/
namespace Go.Proofs.Ytnkijhpikeokfaa
open Go Go.Sym Go.IntWalk

def inQ (x : Int) : Prop := -70368744177664 ≤ x ∧ x ≤ 70368744177663
instance : DecidablePred inQ := fun x => by unfold inQ; infer_instance

theorem eq_of_getD {A B : List Int} (h1 : A.length = B.length) (h2 : ∀ j, j < A.length → A.getD j 0 = B.getD j 0) : A = B := by
  apply List.ext_getElem h1
  intro i hi hi'
  have := h2 i hi
  simpa [List.getD_eq_getElem?_getD, hi, hi'] using this
theorem upto_succ {p : Nat → Prop} {i : Nat} (h : ∀ j, j < i → p j) (hi : p i) : ∀ j, j < i + 1 → p j := by
  intro j hj
  rcases Nat.lt_succ_iff_lt_or_eq.mp hj with h1 | rfl
  · exact h j h1
  · exact hi

def findI (p : Int → Bool) (L : List Int) : Int :=
  match L.findIdx? p with
  | some i => i
  | none => -1
theorem findI_at {p : Int → Bool} {L : List Int} {i : Nat} (hi : i < L.length) (hb : ∀ j, j < i → p (L.getD j 0) = false) (h : p (L.getD i 0) = true) : findI p L = i := by
  have : L.findIdx? p = some i := by
    rw [List.findIdx?_eq_some_iff_getElem]
    refine ⟨hi, by simpa [List.getD_eq_getElem?_getD, hi] using h, fun j hj => ?_⟩
    have hj' : j < L.length := by omega
    simpa [List.getD_eq_getElem?_getD, hj'] using hb j hj
  simp only [findI, this]
theorem findI_none {p : Int → Bool} {L : List Int} (hb : ∀ j, j < L.length → p (L.getD j 0) = false) : findI p L = -1 := by
  have : L.findIdx? p = none := by
    rw [List.findIdx?_eq_none_iff]
    intro x hx
    obtain ⟨j, hj, rfl⟩ := List.getElem_of_mem hx
    simpa [List.getD_eq_getElem?_getD, hj] using hb j hj
  simp only [findI, this]
theorem findI_any (p : Int → Bool) (L : List Int) : decide (findI p L ≥ 0) = L.any p := by
  unfold findI
  cases h : L.findIdx? p with
  | none =>
    rw [List.findIdx?_eq_none_iff] at h
    have : L.any p = false := by rw [List.any_eq_false]; intro x hx; simpa using h x hx
    simp [this]
  | some i =>
    rw [List.findIdx?_eq_some_iff_getElem] at h
    obtain ⟨h1, h2, _⟩ := h
    have : L.any p = true := by rw [List.any_eq_true]; exact ⟨_, List.getElem_mem h1, h2⟩
    simp only [this, decide_eq_true_eq]
    omega

def rightM (R C : Int) (L : List Int) : Bool := decide (1 ≤ R ∧ R ≤ 8 ∧ 1 ≤ C ∧ C ≤ 8 ∧ (L.length : Int) = R * C ∧ ∀ x ∈ L, inQ x)
def oddQ (x : Int) : Bool := decide (x < -70368744177664) || decide (x > 70368744177663)
theorem oddQ_in (x : Int) : oddQ x = false ↔ inQ x := by simp only [oddQ, inQ, Bool.or_eq_false_iff, decide_eq_false_iff_not]; omega
theorem any_oddQ (L : List Int) : L.any oddQ = false ↔ ∀ x ∈ L, inQ x := by
  rw [List.any_eq_false]
  constructor
  · intro h x hx; exact (oddQ_in x).1 (by simpa using h x hx)
  · intro h x hx; simp [(oddQ_in x).2 (h x hx)]
theorem all_getD {p : Int → Prop} {L : List Int} (h : ∀ j, j < L.length → p (L.getD j 0)) : ∀ x ∈ L, p x := by
  intro x hx
  obtain ⟨j, hj, rfl⟩ := List.getElem_of_mem hx
  simpa [List.getD_eq_getElem?_getD, hj] using h j hj

set_option maxHeartbeats 1000000 in
theorem equalQ_ok (A B : List Int) (fa fb : Bool) (hA : A.length ≤ 1000000) : SoundC Try.prog 125 [.sl (.r 0) 0 A.length 1 fa, .sl (.r 1) 0 B.length 1 fb] ⟨[ints A, ints B], []⟩ { val := .bool (decide (A = B)) } := by
  refine SoundC.of (N := 26) Try.func125 rfl rfl rfl rfl ?_
  refine AW.seq ?_
  refine AW.region (by kernel_rfl) ?_
  refine RunF.q (o_assign rfl) rfl ?_
  refine AW.seq ?_
  refine AW.seq ?_
  refine AW.region (by kernel_rfl) ?_
  refine RunF.q (o_move rfl) rfl ?_
  first | refine RunF.q (o_len tk22 rfl) rfl ?_ | refine RunF.q (o_len_nil tk22 rfl) rfl ?_
  refine RunF.q (o_move rfl) rfl ?_
  first | refine RunF.q (o_len tk22 rfl) rfl ?_ | refine RunF.q (o_len_nil tk22 rfl) rfl ?_
  refine RunF.q (o_neq rfl rfl) rfl ?_
  refine AW.cond rfl (fun hc0 => ?_) (fun hc0 => ?_)
  · try simp only [decide_eq_true_eq, decide_eq_false_iff_not, bne_iff_ne, beq_iff_eq, bne_eq_false_iff_eq, beq_eq_false_iff_ne, ne_eq, Bool.not_eq_true', Bool.not_eq_false'] at hc0
    refine AW.seq ?_
    refine AW.region (by kernel_rfl) ?_
    refine RunF.q (o_assign rfl) rfl ?_
    refine AW.ret ?_
    exact FinQ.ret [] [] (ress_tmp rfl ress_nil) rfl .nil (.cons rfl rfl nP (.cons rfl rfl nP .nil)) (by rw [show decide (A = B) = false from decide_eq_false (fun h => hc0 (by rw [h]))]; exact nR)
  · try simp only [decide_eq_true_eq, decide_eq_false_iff_not, bne_iff_ne, beq_iff_eq, bne_eq_false_iff_eq, beq_eq_false_iff_ne, ne_eq, Bool.not_eq_true', Bool.not_eq_false'] at hc0
    refine AW.skip ?_
    refine AW.seq ?_
    refine AW.seq ?_
    refine AW.region (by kernel_rfl) ?_
    refine RunF.q (o_move rfl) rfl ?_
    first | refine RunF.q (o_len tk22 rfl) rfl ?_ | refine RunF.q (o_len_nil tk22 rfl) rfl ?_
    refine RunF.q (o_move rfl) rfl ?_
    refine AW.block ?_
    refine AW.loop (α := {i : Nat // i ≤ A.length ∧ ∀ j, j < i → A.getD j 0 = B.getD j 0}) (fun x : {i : Nat // i ≤ A.length ∧ ∀ j, j < i → A.getD j 0 = B.getD j 0} => ([(0, .sl (.r 0) 0 A.length 1 fa), (1, .sl (.r 1) 0 B.length 1 fb), (12, .int .i64 A.length), (13, .int .i64 x.1)], ⟨[ints A, ints B], []⟩)) (fun x => A.length - x.1) (fun x => ?_) ⟨0, by omega, fun j hj => absurd hj (by omega)⟩ ?_
    · obtain ⟨i, hx, hxs⟩ := x
      try dsimp only at hx hxs
      try dsimp only
      refine AW.seq ?_
      refine AW.region (by kernel_rfl) ?_
      refine RunF.q (o_lss rfl rfl) rfl ?_
      refine AW.seq ?_
      refine AW.cond rfl (fun hc1 => ?_) (fun hc1 => ?_)
      · try simp only [decide_eq_true_eq, decide_eq_false_iff_not, bne_iff_ne, beq_iff_eq, bne_eq_false_iff_eq, beq_eq_false_iff_ne, ne_eq, Bool.not_eq_true', Bool.not_eq_false'] at hc1
        refine AW.skip ?_
        refine AW.seq ?_
        refine AW.block ?_
        refine AW.seq ?_
        refine AW.region (by kernel_rfl) ?_
        refine RunF.q (o_move rfl) rfl ?_
        refine RunF.q (o_assign rfl) rfl ?_
        refine AW.seq ?_
        refine AW.draws (by kernel_rfl) (by kernel_rfl) ?_
        refine RunV.q (o_move rfl) rfl ?_
        refine RunV.q (o_move rfl) rfl ?_
        refine RunV.q (o_indexAddr (m := i) tk22 ts30 rfl rfl (by omega) (by omega)) rfl ?_
        refine RunV.q (o_load rfl tk30 ts30 rfl rfl (ints_getD A i (by omega))) rfl ?_
        refine RunV.q (o_move rfl) rfl ?_
        refine RunV.q (o_move rfl) rfl ?_
        refine RunV.q (o_indexAddr (m := i) tk22 ts30 rfl rfl (by omega) (by omega)) rfl ?_
        refine RunV.q (o_load rfl tk30 ts30 rfl rfl (ints_getD B i (by omega))) rfl ?_
        refine RunV.q (o_neq rfl rfl) rfl ?_
        refine And.intro (by kernel_rfl) ?_
        refine AW.cond rfl (fun hc2 => ?_) (fun hc2 => ?_)
        · try simp only [decide_eq_true_eq, decide_eq_false_iff_not, bne_iff_ne, beq_iff_eq, bne_eq_false_iff_eq, beq_eq_false_iff_ne, ne_eq, Bool.not_eq_true', Bool.not_eq_false'] at hc2
          refine AW.seq ?_
          refine AW.region (by kernel_rfl) ?_
          refine RunF.q (o_assign rfl) rfl ?_
          refine AW.ret ?_
          exact FinQ.ret [] [] (ress_tmp rfl ress_nil) rfl .nil (.cons rfl rfl nP (.cons rfl rfl nP .nil)) (by rw [show decide (A = B) = false from decide_eq_false (fun h => hc2 (by rw [h]))]; exact nR)
        · try simp only [decide_eq_true_eq, decide_eq_false_iff_not, bne_iff_ne, beq_iff_eq, bne_eq_false_iff_eq, beq_eq_false_iff_ne, ne_eq, Bool.not_eq_true', Bool.not_eq_false'] at hc2
          refine AW.skip ?_
          refine AW.region (by kernel_rfl) ?_
          refine RunF.q (o_add rfl rfl (by first | exact i64_in _ (by omega) | rfl)) rfl ?_
          refine RunF.q (o_move rfl) rfl ?_
          exact ⟨⟨i + 1, by omega, upto_succ hxs hc2⟩, Wk.same rfl (.cons rfl (.cons rfl (.cons rfl (.cons rfl .nil)))), by dsimp only; omega⟩
      · try simp only [decide_eq_true_eq, decide_eq_false_iff_not, bne_iff_ne, beq_iff_eq, bne_eq_false_iff_eq, beq_eq_false_iff_ne, ne_eq, Bool.not_eq_true', Bool.not_eq_false'] at hc1
        refine AW.exit ?_
        refine AW.seq ?_
        refine AW.region (by kernel_rfl) ?_
        refine RunF.q (o_assign rfl) rfl ?_
        refine AW.ret ?_
        exact FinQ.ret [] [] (ress_tmp rfl ress_nil) rfl .nil (.cons rfl rfl nP (.cons rfl rfl nP .nil)) (by rw [show decide (A = B) = true from decide_eq_true (eq_of_getD (by omega) (fun j hj => hxs j (by omega)))]; exact nR)
    · exact Wk.same rfl (.cons rfl (.cons rfl (.cons rfl (.cons rfl .nil))))

set_option maxHeartbeats 1000000 in
theorem rin_ok (x : Int) : SoundC Try.prog 70 [.int .i64 x] ⟨[], []⟩ { val := .bool (decide (inQ x)) } := by
  refine SoundC.of (N := 9) Try.func70 rfl rfl rfl rfl ?_
  refine AW.seq ?_
  refine AW.region (by kernel_rfl) ?_
  refine RunF.q (o_assign rfl) rfl ?_
  refine AW.seq ?_
  refine AW.region (by kernel_rfl) ?_
  refine RunF.q (o_move rfl) rfl ?_
  refine RunF.q (o_geq rfl rfl) rfl ?_
  refine RunF.br (o_move rfl) rfl (fun hb1_2 => ?_) (fun hb1_2 => ?_)
  · try simp only [decide_eq_true_eq, decide_eq_false_iff_not, bne_iff_ne, beq_iff_eq, bne_eq_false_iff_eq, beq_eq_false_iff_ne, ne_eq, Bool.not_eq_true', Bool.not_eq_false'] at hb1_2
    refine RunF.gq rfl (o_move rfl) rfl ?_
    refine RunF.gq rfl (o_leq rfl rfl) rfl ?_
    refine RunF.q (o_pick_t rfl rfl) rfl ?_
    refine RunF.q (o_assign rfl) rfl ?_
    refine AW.ret ?_
    first | exact FinQ.ret [] [] (ress_tmp rfl ress_nil) rfl .nil .nil (by rw [show decide (inQ x) = decide (x ≤ 70368744177663) from decide_eq_decide.2 (by unfold inQ; omega)]; exact nR) | exact FinQ.ret [] [] (ress_tmp rfl ress_nil) rfl .nil .nil (by rw [show decide (inQ x) = false from decide_eq_false (by unfold inQ; omega)]; exact nR)
  · try simp only [decide_eq_true_eq, decide_eq_false_iff_not, bne_iff_ne, beq_iff_eq, bne_eq_false_iff_eq, beq_eq_false_iff_ne, ne_eq, Bool.not_eq_true', Bool.not_eq_false'] at hb1_2
    refine RunF.gs (b := false) rfl rfl ?_
    refine RunF.gs (b := false) rfl rfl ?_
    refine RunF.q (o_pick_f rfl rfl) rfl ?_
    refine RunF.q (o_assign rfl) rfl ?_
    refine AW.ret ?_
    first | exact FinQ.ret [] [] (ress_tmp rfl ress_nil) rfl .nil .nil (by rw [show decide (inQ x) = decide (x ≤ 70368744177663) from decide_eq_decide.2 (by unfold inQ; omega)]; exact nR) | exact FinQ.ret [] [] (ress_tmp rfl ress_nil) rfl .nil .nil (by rw [show decide (inQ x) = false from decide_eq_false (by unfold inQ; omega)]; exact nR)

set_option maxHeartbeats 1000000 in
theorem rodd_ok (x : Int) : SoundC Try.prog 82 [.int .i64 x] ⟨[], []⟩ { val := .bool (oddQ x) } := by
  refine SoundC.of (N := 9) Try.func82 rfl rfl rfl rfl ?_
  refine AW.seq ?_
  refine AW.region (by kernel_rfl) ?_
  refine RunF.q (o_assign rfl) rfl ?_
  refine AW.seq ?_
  refine AW.region (by kernel_rfl) ?_
  refine RunF.q (o_move rfl) rfl ?_
  refine RunF.q (o_lss rfl rfl) rfl ?_
  refine RunF.br (o_move rfl) rfl (fun hb1_2 => ?_) (fun hb1_2 => ?_)
  · try simp only [decide_eq_true_eq, decide_eq_false_iff_not, bne_iff_ne, beq_iff_eq, bne_eq_false_iff_eq, beq_eq_false_iff_ne, ne_eq, Bool.not_eq_true', Bool.not_eq_false'] at hb1_2
    refine RunF.gs (b := true) rfl rfl ?_
    refine RunF.gs (b := true) rfl rfl ?_
    refine RunF.q (o_pick_t rfl rfl) rfl ?_
    refine RunF.q (o_assign rfl) rfl ?_
    refine AW.ret ?_
    first | exact FinQ.ret [] [] (ress_tmp rfl ress_nil) rfl .nil .nil (by rw [show oddQ x = decide (x > 70368744177663) from by unfold oddQ; simp; omega]; exact nR) | exact FinQ.ret [] [] (ress_tmp rfl ress_nil) rfl .nil .nil (by rw [show oddQ x = true from by unfold oddQ; simp; omega]; exact nR)
  · try simp only [decide_eq_true_eq, decide_eq_false_iff_not, bne_iff_ne, beq_iff_eq, bne_eq_false_iff_eq, beq_eq_false_iff_ne, ne_eq, Bool.not_eq_true', Bool.not_eq_false'] at hb1_2
    refine RunF.gq rfl (o_move rfl) rfl ?_
    refine RunF.gq rfl (o_gtr rfl rfl) rfl ?_
    refine RunF.q (o_pick_f rfl rfl) rfl ?_
    refine RunF.q (o_assign rfl) rfl ?_
    refine AW.ret ?_
    first | exact FinQ.ret [] [] (ress_tmp rfl ress_nil) rfl .nil .nil (by rw [show oddQ x = decide (x > 70368744177663) from by unfold oddQ; simp; omega]; exact nR) | exact FinQ.ret [] [] (ress_tmp rfl ress_nil) rfl .nil .nil (by rw [show oddQ x = true from by unfold oddQ; simp; omega]; exact nR)

set_option maxHeartbeats 1000000 in
theorem indexQ_ok (L : List Int) (f : Bool) (hL : L.length ≤ 1000000) (p : Int → Bool) (kd : Nat) (hp : ∀ x ∈ L, SoundC Try.prog kd [.int .i64 x] ⟨[], []⟩ { val := .bool (p x) }) : SoundC Try.prog 121 [.sl (.r 0) 0 L.length 1 f, .func kd [] []] ⟨[ints L], []⟩ { val := .int .i64 (findI p L) } := by
  refine SoundC.of (N := 19) Try.func121 rfl rfl rfl rfl ?_
  refine AW.seq ?_
  refine AW.region (by kernel_rfl) ?_
  refine RunF.q (o_assign rfl) rfl ?_
  refine AW.seq ?_
  refine AW.seq ?_
  refine AW.region (by kernel_rfl) ?_
  refine RunF.q (o_move rfl) rfl ?_
  first | refine RunF.q (o_len tk22 rfl) rfl ?_ | refine RunF.q (o_len_nil tk22 rfl) rfl ?_
  refine RunF.q (o_move rfl) rfl ?_
  refine AW.block ?_
  refine AW.loop (α := {i : Nat // i ≤ L.length ∧ ∀ j, j < i → p (L.getD j 0) = false}) (fun x : {i : Nat // i ≤ L.length ∧ ∀ j, j < i → p (L.getD j 0) = false} => ([(0, .sl (.r 0) 0 L.length 1 f), (1, .func kd [] []), (7, .int .i64 L.length), (8, .int .i64 x.1)], ⟨[ints L], []⟩)) (fun x => L.length - x.1) (fun x => ?_) ⟨0, by omega, fun j hj => absurd hj (by omega)⟩ ?_
  · obtain ⟨i, hx, hxs⟩ := x
    try dsimp only at hx hxs
    try dsimp only
    refine AW.seq ?_
    refine AW.region (by kernel_rfl) ?_
    refine RunF.q (o_lss rfl rfl) rfl ?_
    refine AW.seq ?_
    refine AW.cond rfl (fun hc0 => ?_) (fun hc0 => ?_)
    · try simp only [decide_eq_true_eq, decide_eq_false_iff_not, bne_iff_ne, beq_iff_eq, bne_eq_false_iff_eq, beq_eq_false_iff_ne, ne_eq, Bool.not_eq_true', Bool.not_eq_false'] at hc0
      refine AW.skip ?_
      refine AW.seq ?_
      refine AW.block ?_
      refine AW.seq ?_
      refine AW.region (by kernel_rfl) ?_
      refine RunF.q (o_move rfl) rfl ?_
      refine RunF.q (o_assign rfl) rfl ?_
      refine AW.seq ?_
      refine AW.region (by kernel_rfl) ?_
      refine RunF.q (o_move rfl) rfl ?_
      refine RunF.q (o_move rfl) rfl ?_
      refine RunF.q (o_move rfl) rfl ?_
      refine RunF.q (o_indexAddr (m := i) tk22 ts30 rfl rfl (by omega) (by omega)) rfl ?_
      refine RunF.q (o_load rfl tk30 ts30 rfl rfl (ints_getD L i (by omega))) rfl ?_
      refine RunF.q (o_call (no := 0) (nr := 1) rfl rfl rfl nC (by rfl) (by exact hp _ (getD_mem (by omega))) (by rfl) rfl rfl nV rfl) (by rfl) ?_
      refine AW.cond rfl (fun hc1 => ?_) (fun hc1 => ?_)
      · try simp only [decide_eq_true_eq, decide_eq_false_iff_not, bne_iff_ne, beq_iff_eq, bne_eq_false_iff_eq, beq_eq_false_iff_ne, ne_eq, Bool.not_eq_true', Bool.not_eq_false'] at hc1
        refine AW.seq ?_
        refine AW.region (by kernel_rfl) ?_
        refine RunF.q (o_move rfl) rfl ?_
        refine RunF.q (o_assign rfl) rfl ?_
        refine AW.ret ?_
        exact FinQ.ret [] [] (ress_tmp rfl ress_nil) rfl .nil (.cons rfl rfl nP .nil) (by rw [show findI p L = i from findI_at (by omega) hxs hc1]; exact nR)
      · try simp only [decide_eq_true_eq, decide_eq_false_iff_not, bne_iff_ne, beq_iff_eq, bne_eq_false_iff_eq, beq_eq_false_iff_ne, ne_eq, Bool.not_eq_true', Bool.not_eq_false'] at hc1
        refine AW.skip ?_
        refine AW.region (by kernel_rfl) ?_
        refine RunF.q (o_add rfl rfl (by first | exact i64_in _ (by omega) | rfl)) rfl ?_
        refine RunF.q (o_move rfl) rfl ?_
        exact ⟨⟨i + 1, by omega, upto_succ hxs hc1⟩, Wk.same rfl (.cons rfl (.cons rfl (.cons rfl (.cons rfl .nil)))), by dsimp only; omega⟩
    · try simp only [decide_eq_true_eq, decide_eq_false_iff_not, bne_iff_ne, beq_iff_eq, bne_eq_false_iff_eq, beq_eq_false_iff_ne, ne_eq, Bool.not_eq_true', Bool.not_eq_false'] at hc0
      refine AW.exit ?_
      refine AW.seq ?_
      refine AW.region (by kernel_rfl) ?_
      refine RunF.q (o_assign rfl) rfl ?_
      refine AW.ret ?_
      exact FinQ.ret [] [] (ress_tmp rfl ress_nil) rfl .nil (.cons rfl rfl nP .nil) (by rw [show findI p L = -1 from findI_none (fun j hj => hxs j (by omega))]; exact nR)
  · exact Wk.same rfl (.cons rfl (.cons rfl (.cons rfl (.cons rfl .nil))))

set_option maxHeartbeats 1000000 in
theorem indexQ_nil (kd : Nat) : SoundC Try.prog 121 [.nilsl, .func kd [] []] ⟨[], []⟩ { val := .int .i64 (-1) } := by
  refine SoundC.of (N := 19) Try.func121 rfl rfl rfl rfl ?_
  refine AW.seq ?_
  refine AW.region (by kernel_rfl) ?_
  refine RunF.q (o_assign rfl) rfl ?_
  refine AW.seq ?_
  refine AW.seq ?_
  refine AW.region (by kernel_rfl) ?_
  refine RunF.q (o_move rfl) rfl ?_
  first | refine RunF.q (o_len tk22 rfl) rfl ?_ | refine RunF.q (o_len_nil tk22 rfl) rfl ?_
  refine RunF.q (o_move rfl) rfl ?_
  refine AW.block ?_
  refine AW.loop (α := Unit) (fun x : Unit => ([(7, .int .i64 0), (8, .int .i64 0)], ⟨[], []⟩)) (fun x => 0) (fun x => ?_) () ?_
  · skip
    refine AW.seq ?_
    refine AW.region (by kernel_rfl) ?_
    refine RunF.q (o_lss rfl rfl) rfl ?_
    refine AW.seq ?_
    refine AW.cond rfl (fun hc0 => absurd hc0 (by simp)) (fun hc0 => ?_)
    refine AW.exit ?_
    refine AW.seq ?_
    refine AW.region (by kernel_rfl) ?_
    refine RunF.q (o_assign rfl) rfl ?_
    refine AW.ret ?_
    exact FinQ.ret [] [] (ress_tmp rfl ress_nil) rfl .nil .nil nR
  · exact Wk.same rfl (.cons rfl (.cons rfl .nil))

set_option maxHeartbeats 1000000 in
theorem containsQ_ok (L : List Int) (f : Bool) (hL : L.length ≤ 1000000) (p : Int → Bool) (kd : Nat) (hp : ∀ x ∈ L, SoundC Try.prog kd [.int .i64 x] ⟨[], []⟩ { val := .bool (p x) }) : SoundC Try.prog 83 [.sl (.r 0) 0 L.length 1 f, .func kd [] []] ⟨[ints L], []⟩ { val := .bool (L.any p) } := by
  refine SoundC.of (N := 9) Try.func83 rfl rfl rfl rfl ?_
  refine AW.seq ?_
  refine AW.region (by kernel_rfl) ?_
  refine RunF.q (o_assign rfl) rfl ?_
  refine AW.seq ?_
  refine AW.region (by kernel_rfl) ?_
  refine RunF.q (o_move rfl) rfl ?_
  refine RunF.q (o_move rfl) rfl ?_
  refine RunF.q (o_call (no := 0) (nr := 1) rfl rfl rfl nC (by rfl) (by exact indexQ_ok L f hL p kd hp) (by rfl) rfl rfl nV rfl) (by rfl) ?_
  refine RunF.q (o_geq rfl rfl) rfl ?_
  refine RunF.q (o_assign rfl) rfl ?_
  refine AW.ret ?_
  exact FinQ.ret [] [] (ress_tmp rfl ress_nil) rfl .nil (.cons rfl rfl nP .nil) (by rw [← findI_any]; exact nR)

set_option maxHeartbeats 1000000 in
theorem containsQ_nil (kd : Nat) : SoundC Try.prog 83 [.nilsl, .func kd [] []] ⟨[], []⟩ { val := .bool false } := by
  refine SoundC.of (N := 9) Try.func83 rfl rfl rfl rfl ?_
  refine AW.seq ?_
  refine AW.region (by kernel_rfl) ?_
  refine RunF.q (o_assign rfl) rfl ?_
  refine AW.seq ?_
  refine AW.region (by kernel_rfl) ?_
  refine RunF.q (o_move rfl) rfl ?_
  refine RunF.q (o_move rfl) rfl ?_
  refine RunF.q (o_call (no := 0) (nr := 0) rfl rfl rfl nC (by rfl) (by exact indexQ_nil kd) (by rfl) rfl rfl nV rfl) (by rfl) ?_
  refine RunF.q (o_geq rfl rfl) rfl ?_
  refine RunF.q (o_assign rfl) rfl ?_
  refine AW.ret ?_
  exact FinQ.ret [] [] (ress_tmp rfl ress_nil) rfl .nil .nil nR

set_option maxHeartbeats 1000000 in
theorem rright_ok (R C : Int) (L : List Int) (f : Bool) : SoundC Try.prog 25 [.agg [.int .i64 R, .int .i64 C, .sl (.r 0) 0 L.length 1 f]] ⟨[ints L], []⟩ { val := .bool (rightM R C L) } := by
  refine SoundC.of (N := 49) Try.func25 rfl rfl rfl rfl ?_
  refine AW.seq ?_
  refine AW.region (by kernel_rfl) ?_
  refine RunF.w (o_box (nm := 0) rfl rfl rfl) nH ?_
  refine RunF.q (o_assign rfl) rfl ?_
  refine AW.seq ?_
  refine AW.seq ?_
  refine AW.region (by kernel_rfl) ?_
  refine RunF.q (o_fieldAddr rfl tk24 rfl ts3 rfl) rfl ?_
  refine RunF.q (o_load rfl tk3 ts3 rfl rfl rfl) rfl ?_
  refine RunF.q (o_lss rfl rfl) rfl ?_
  refine RunF.br (o_move rfl) rfl (fun hb1_3 => ?_) (fun hb1_3 => ?_)
  · try simp only [decide_eq_true_eq, decide_eq_false_iff_not, bne_iff_ne, beq_iff_eq, bne_eq_false_iff_eq, beq_eq_false_iff_ne, ne_eq, Bool.not_eq_true', Bool.not_eq_false'] at hb1_3
    refine RunF.gs (b := true) rfl rfl ?_
    refine RunF.gs (b := true) rfl rfl ?_
    refine RunF.gs (b := true) rfl rfl ?_
    refine RunF.q (o_pick_t rfl rfl) rfl ?_
    refine RunF.q (o_move rfl) rfl ?_
    refine RunF.gs (b := true) rfl rfl ?_
    refine RunF.gs (b := true) rfl rfl ?_
    refine RunF.gs (b := true) rfl rfl ?_
    refine RunF.q (o_pick_t rfl rfl) rfl ?_
    refine RunF.q (o_move rfl) rfl ?_
    refine RunF.gs (b := true) rfl rfl ?_
    refine RunF.gs (b := true) rfl rfl ?_
    refine RunF.gs (b := true) rfl rfl ?_
    refine RunF.q (o_pick_t rfl rfl) rfl ?_
    refine RunF.q (o_move rfl) rfl ?_
    refine RunF.gs (b := true) rfl rfl ?_
    refine RunF.gs (b := true) rfl rfl ?_
    refine RunF.gs (b := true) rfl rfl ?_
    refine RunF.gs (b := true) rfl rfl ?_
    refine RunF.gs (b := true) rfl rfl ?_
    refine RunF.gs (b := true) rfl rfl ?_
    refine RunF.gs (b := true) rfl rfl ?_
    refine RunF.gs (b := true) rfl rfl ?_
    refine RunF.gs (b := true) rfl rfl ?_
    refine RunF.q (o_pick_t rfl rfl) rfl ?_
    refine AW.cond rfl (fun hc0 => ?_) (fun hc0 => absurd hc0 (by simp))
    refine AW.seq ?_
    refine AW.region (by kernel_rfl) ?_
    refine RunF.q (o_assign rfl) rfl ?_
    refine AW.ret ?_
    first | (exact absurd rfl (by simp)) | exact FinQ.ret [] [] (ress_tmp rfl ress_nil) rfl .nil (.cons rfl rfl nP .nil) (by rw [show rightM R C L = false from decide_eq_false (by rintro ⟨h1, h2, h3, h4, h5, _⟩; (try simp only [List.length_nil, Int.natCast_zero] at *); omega)]; exact nR)
  · try simp only [decide_eq_true_eq, decide_eq_false_iff_not, bne_iff_ne, beq_iff_eq, bne_eq_false_iff_eq, beq_eq_false_iff_ne, ne_eq, Bool.not_eq_true', Bool.not_eq_false'] at hb1_3
    refine RunF.gq rfl (o_fieldAddr rfl tk24 rfl ts3 rfl) rfl ?_
    refine RunF.gq rfl (o_load rfl tk3 ts3 rfl rfl rfl) rfl ?_
    refine RunF.gq rfl (o_gtr rfl rfl) rfl ?_
    refine RunF.q (o_pick_f rfl rfl) rfl ?_
    refine RunF.br (o_move rfl) rfl (fun hb1_8 => ?_) (fun hb1_8 => ?_)
    · try simp only [decide_eq_true_eq, decide_eq_false_iff_not, bne_iff_ne, beq_iff_eq, bne_eq_false_iff_eq, beq_eq_false_iff_ne, ne_eq, Bool.not_eq_true', Bool.not_eq_false'] at hb1_8
      refine RunF.gs (b := true) rfl rfl ?_
      refine RunF.gs (b := true) rfl rfl ?_
      refine RunF.gs (b := true) rfl rfl ?_
      refine RunF.q (o_pick_t rfl rfl) rfl ?_
      refine RunF.q (o_move rfl) rfl ?_
      refine RunF.gs (b := true) rfl rfl ?_
      refine RunF.gs (b := true) rfl rfl ?_
      refine RunF.gs (b := true) rfl rfl ?_
      refine RunF.q (o_pick_t rfl rfl) rfl ?_
      refine RunF.q (o_move rfl) rfl ?_
      refine RunF.gs (b := true) rfl rfl ?_
      refine RunF.gs (b := true) rfl rfl ?_
      refine RunF.gs (b := true) rfl rfl ?_
      refine RunF.gs (b := true) rfl rfl ?_
      refine RunF.gs (b := true) rfl rfl ?_
      refine RunF.gs (b := true) rfl rfl ?_
      refine RunF.gs (b := true) rfl rfl ?_
      refine RunF.gs (b := true) rfl rfl ?_
      refine RunF.gs (b := true) rfl rfl ?_
      refine RunF.q (o_pick_t rfl rfl) rfl ?_
      refine AW.cond rfl (fun hc0 => ?_) (fun hc0 => absurd hc0 (by simp))
      refine AW.seq ?_
      refine AW.region (by kernel_rfl) ?_
      refine RunF.q (o_assign rfl) rfl ?_
      refine AW.ret ?_
      first | (exact absurd rfl (by simp)) | exact FinQ.ret [] [] (ress_tmp rfl ress_nil) rfl .nil (.cons rfl rfl nP .nil) (by rw [show rightM R C L = false from decide_eq_false (by rintro ⟨h1, h2, h3, h4, h5, _⟩; (try simp only [List.length_nil, Int.natCast_zero] at *); omega)]; exact nR)
    · try simp only [decide_eq_true_eq, decide_eq_false_iff_not, bne_iff_ne, beq_iff_eq, bne_eq_false_iff_eq, beq_eq_false_iff_ne, ne_eq, Bool.not_eq_true', Bool.not_eq_false'] at hb1_8
      refine RunF.gq rfl (o_fieldAddr rfl tk24 rfl ts3 rfl) rfl ?_
      refine RunF.gq rfl (o_load rfl tk3 ts3 rfl rfl rfl) rfl ?_
      refine RunF.gq rfl (o_lss rfl rfl) rfl ?_
      refine RunF.q (o_pick_f rfl rfl) rfl ?_
      refine RunF.br (o_move rfl) rfl (fun hb1_13 => ?_) (fun hb1_13 => ?_)
      · try simp only [decide_eq_true_eq, decide_eq_false_iff_not, bne_iff_ne, beq_iff_eq, bne_eq_false_iff_eq, beq_eq_false_iff_ne, ne_eq, Bool.not_eq_true', Bool.not_eq_false'] at hb1_13
        refine RunF.gs (b := true) rfl rfl ?_
        refine RunF.gs (b := true) rfl rfl ?_
        refine RunF.gs (b := true) rfl rfl ?_
        refine RunF.q (o_pick_t rfl rfl) rfl ?_
        refine RunF.q (o_move rfl) rfl ?_
        refine RunF.gs (b := true) rfl rfl ?_
        refine RunF.gs (b := true) rfl rfl ?_
        refine RunF.gs (b := true) rfl rfl ?_
        refine RunF.gs (b := true) rfl rfl ?_
        refine RunF.gs (b := true) rfl rfl ?_
        refine RunF.gs (b := true) rfl rfl ?_
        refine RunF.gs (b := true) rfl rfl ?_
        refine RunF.gs (b := true) rfl rfl ?_
        refine RunF.gs (b := true) rfl rfl ?_
        refine RunF.q (o_pick_t rfl rfl) rfl ?_
        refine AW.cond rfl (fun hc0 => ?_) (fun hc0 => absurd hc0 (by simp))
        refine AW.seq ?_
        refine AW.region (by kernel_rfl) ?_
        refine RunF.q (o_assign rfl) rfl ?_
        refine AW.ret ?_
        first | (exact absurd rfl (by simp)) | exact FinQ.ret [] [] (ress_tmp rfl ress_nil) rfl .nil (.cons rfl rfl nP .nil) (by rw [show rightM R C L = false from decide_eq_false (by rintro ⟨h1, h2, h3, h4, h5, _⟩; (try simp only [List.length_nil, Int.natCast_zero] at *); omega)]; exact nR)
      · try simp only [decide_eq_true_eq, decide_eq_false_iff_not, bne_iff_ne, beq_iff_eq, bne_eq_false_iff_eq, beq_eq_false_iff_ne, ne_eq, Bool.not_eq_true', Bool.not_eq_false'] at hb1_13
        refine RunF.gq rfl (o_fieldAddr rfl tk24 rfl ts3 rfl) rfl ?_
        refine RunF.gq rfl (o_load rfl tk3 ts3 rfl rfl rfl) rfl ?_
        refine RunF.gq rfl (o_gtr rfl rfl) rfl ?_
        refine RunF.q (o_pick_f rfl rfl) rfl ?_
        refine RunF.br (o_move rfl) rfl (fun hb1_18 => ?_) (fun hb1_18 => ?_)
        · try simp only [decide_eq_true_eq, decide_eq_false_iff_not, bne_iff_ne, beq_iff_eq, bne_eq_false_iff_eq, beq_eq_false_iff_ne, ne_eq, Bool.not_eq_true', Bool.not_eq_false'] at hb1_18
          refine RunF.gs (b := true) rfl rfl ?_
          refine RunF.gs (b := true) rfl rfl ?_
          refine RunF.gs (b := true) rfl rfl ?_
          refine RunF.gs (b := true) rfl rfl ?_
          refine RunF.gs (b := true) rfl rfl ?_
          refine RunF.gs (b := true) rfl rfl ?_
          refine RunF.gs (b := true) rfl rfl ?_
          refine RunF.gs (b := true) rfl rfl ?_
          refine RunF.gs (b := true) rfl rfl ?_
          refine RunF.q (o_pick_t rfl rfl) rfl ?_
          refine AW.cond rfl (fun hc0 => ?_) (fun hc0 => absurd hc0 (by simp))
          refine AW.seq ?_
          refine AW.region (by kernel_rfl) ?_
          refine RunF.q (o_assign rfl) rfl ?_
          refine AW.ret ?_
          first | (exact absurd rfl (by simp)) | exact FinQ.ret [] [] (ress_tmp rfl ress_nil) rfl .nil (.cons rfl rfl nP .nil) (by rw [show rightM R C L = false from decide_eq_false (by rintro ⟨h1, h2, h3, h4, h5, _⟩; (try simp only [List.length_nil, Int.natCast_zero] at *); omega)]; exact nR)
        · try simp only [decide_eq_true_eq, decide_eq_false_iff_not, bne_iff_ne, beq_iff_eq, bne_eq_false_iff_eq, beq_eq_false_iff_ne, ne_eq, Bool.not_eq_true', Bool.not_eq_false'] at hb1_18
          have hRC := Int.mul_le_mul (show R ≤ 8 by omega) (show C ≤ 8 by omega) (by omega) (by omega)
          have hRC1 : 1 ≤ R * C := by have := Int.mul_le_mul (show (1 : Int) ≤ R by omega) (show (1 : Int) ≤ C by omega) (by omega) (by omega); omega
          refine RunF.gq rfl (o_fieldAddr rfl tk24 rfl ts22 rfl) rfl ?_
          refine RunF.gq rfl (o_load rfl tk22 ts22 rfl rfl rfl) rfl ?_
          first | refine RunF.gq rfl (o_len tk22 rfl) rfl ?_ | refine RunF.gq rfl (o_len_nil tk22 rfl) rfl ?_
          refine RunF.gq rfl (o_fieldAddr rfl tk24 rfl ts3 rfl) rfl ?_
          refine RunF.gq rfl (o_load rfl tk3 ts3 rfl rfl rfl) rfl ?_
          refine RunF.gq rfl (o_fieldAddr rfl tk24 rfl ts3 rfl) rfl ?_
          refine RunF.gq rfl (o_load rfl tk3 ts3 rfl rfl rfl) rfl ?_
          refine RunF.gq rfl (o_mul rfl rfl (by first | exact i64_in _ (by omega) | rfl)) rfl ?_
          refine RunF.gq rfl (o_neq rfl rfl) rfl ?_
          refine RunF.q (o_pick_f rfl rfl) rfl ?_
          refine AW.cond rfl (fun hc0 => ?_) (fun hc0 => ?_)
          · try simp only [decide_eq_true_eq, decide_eq_false_iff_not, bne_iff_ne, beq_iff_eq, bne_eq_false_iff_eq, beq_eq_false_iff_ne, ne_eq, Bool.not_eq_true', Bool.not_eq_false'] at hc0
            refine AW.seq ?_
            refine AW.region (by kernel_rfl) ?_
            refine RunF.q (o_assign rfl) rfl ?_
            refine AW.ret ?_
            first | (exact absurd rfl (by simp)) | exact FinQ.ret [] [] (ress_tmp rfl ress_nil) rfl .nil (.cons rfl rfl nP .nil) (by rw [show rightM R C L = false from decide_eq_false (by rintro ⟨h1, h2, h3, h4, h5, _⟩; (try simp only [List.length_nil, Int.natCast_zero] at *); omega)]; exact nR)
          · try simp only [decide_eq_true_eq, decide_eq_false_iff_not, bne_iff_ne, beq_iff_eq, bne_eq_false_iff_eq, beq_eq_false_iff_ne, ne_eq, Bool.not_eq_true', Bool.not_eq_false'] at hc0
            refine AW.skip ?_
            refine AW.seq ?_
            refine AW.seq ?_
            refine AW.region (by kernel_rfl) ?_
            refine RunF.q (o_assign rfl) rfl ?_
            refine AW.block ?_
            refine AW.loop (α := {i : Nat // i ≤ L.length ∧ ∀ j, j < i → inQ (L.getD j 0)}) (fun x : {i : Nat // i ≤ L.length ∧ ∀ j, j < i → inQ (L.getD j 0)} => ([(1, .ptr (.o 0) 0), (3, .int .i64 x.1)], ⟨[ints L], [some [.int .i64 R, .int .i64 C, .sl (.r 0) 0 L.length 1 f]]⟩)) (fun x => L.length - x.1) (fun x => ?_) ⟨0, by omega, fun j hj => absurd hj (by omega)⟩ ?_
            · obtain ⟨i, hx, hxs⟩ := x
              try dsimp only at hx hxs
              try dsimp only
              refine AW.seq ?_
              refine AW.seq ?_
              refine AW.region (by kernel_rfl) ?_
              refine RunF.q (o_move rfl) rfl ?_
              refine RunF.q (o_fieldAddr rfl tk24 rfl ts22 rfl) rfl ?_
              refine RunF.q (o_load rfl tk22 ts22 rfl rfl rfl) rfl ?_
              first | refine RunF.q (o_len tk22 rfl) rfl ?_ | refine RunF.q (o_len_nil tk22 rfl) rfl ?_
              refine RunF.q (o_lss rfl rfl) rfl ?_
              refine AW.cond rfl (fun hc1 => ?_) (fun hc1 => ?_)
              · try simp only [decide_eq_true_eq, decide_eq_false_iff_not, bne_iff_ne, beq_iff_eq, bne_eq_false_iff_eq, beq_eq_false_iff_ne, ne_eq, Bool.not_eq_true', Bool.not_eq_false'] at hc1
                refine AW.skip ?_
                refine AW.seq ?_
                refine AW.block ?_
                refine AW.seq ?_
                refine AW.region (by kernel_rfl) ?_
                refine RunF.q (o_fieldAddr rfl tk24 rfl ts22 rfl) rfl ?_
                refine RunF.q (o_load rfl tk22 ts22 rfl rfl rfl) rfl ?_
                refine RunF.q (o_move rfl) rfl ?_
                refine RunF.q (o_indexAddr (m := i) tk22 ts30 rfl rfl (by omega) (by omega)) rfl ?_
                refine RunF.q (o_load rfl tk30 ts30 rfl rfl (ints_getD L i (by omega))) rfl ?_
                refine RunF.q (o_call (no := 1) (nr := 1) rfl rfl rfl nC (by rfl) (by exact rin_ok _) (by rfl) rfl rfl nV rfl) (by rfl) ?_
                refine RunF.q (o_assign rfl) rfl ?_
                refine AW.seq ?_
                refine AW.region (by kernel_rfl) ?_
                refine RunF.q (o_move rfl) rfl ?_
                refine RunF.q (o_not rfl) rfl ?_
                refine AW.cond rfl (fun hc2 => ?_) (fun hc2 => ?_)
                · try simp only [decide_eq_true_eq, decide_eq_false_iff_not, bne_iff_ne, beq_iff_eq, bne_eq_false_iff_eq, beq_eq_false_iff_ne, ne_eq, Bool.not_eq_true', Bool.not_eq_false'] at hc2
                  refine AW.seq ?_
                  refine AW.region (by kernel_rfl) ?_
                  refine RunF.q (o_assign rfl) rfl ?_
                  refine AW.ret ?_
                  exact FinQ.ret [] [] (ress_tmp rfl ress_nil) rfl .nil (.cons rfl rfl nP .nil) (by rw [show rightM R C L = false from decide_eq_false (fun h => absurd (h.2.2.2.2.2 _ (getD_mem (show i < L.length by omega))) (by simpa using hc2))]; exact nR)
                · try simp only [decide_eq_true_eq, decide_eq_false_iff_not, bne_iff_ne, beq_iff_eq, bne_eq_false_iff_eq, beq_eq_false_iff_ne, ne_eq, Bool.not_eq_true', Bool.not_eq_false'] at hc2
                  refine AW.skip ?_
                  refine AW.region (by kernel_rfl) ?_
                  refine RunF.q (o_move rfl) rfl ?_
                  refine RunF.q (o_add rfl rfl (by first | exact i64_in _ (by omega) | rfl)) rfl ?_
                  refine RunF.q (o_assign rfl) rfl ?_
                  exact ⟨⟨i + 1, by omega, upto_succ hxs (by simpa using hc2)⟩, Wk.same rfl (.cons rfl (.cons rfl .nil)), by dsimp only; omega⟩
              · try simp only [decide_eq_true_eq, decide_eq_false_iff_not, bne_iff_ne, beq_iff_eq, bne_eq_false_iff_eq, beq_eq_false_iff_ne, ne_eq, Bool.not_eq_true', Bool.not_eq_false'] at hc1
                refine AW.exit ?_
                refine AW.seq ?_
                refine AW.region (by kernel_rfl) ?_
                refine RunF.q (o_assign rfl) rfl ?_
                refine AW.ret ?_
                exact FinQ.ret [] [] (ress_tmp rfl ress_nil) rfl .nil (.cons rfl rfl nP .nil) (by rw [show rightM R C L = true from decide_eq_true ⟨by omega, by omega, by omega, by omega, by omega, all_getD (fun j hj => hxs j (by omega))⟩]; exact nR)
            · exact Wk.same rfl (.cons rfl (.cons rfl .nil))

set_option maxHeartbeats 1000000 in
theorem rright_nil (R C : Int) : SoundC Try.prog 25 [.agg [.int .i64 R, .int .i64 C, .nilsl]] ⟨[], []⟩ { val := .bool (rightM R C []) } := by
  refine SoundC.of (N := 49) Try.func25 rfl rfl rfl rfl ?_
  refine AW.seq ?_
  refine AW.region (by kernel_rfl) ?_
  refine RunF.w (o_box (nm := 0) rfl rfl rfl) nH ?_
  refine RunF.q (o_assign rfl) rfl ?_
  refine AW.seq ?_
  refine AW.seq ?_
  refine AW.region (by kernel_rfl) ?_
  refine RunF.q (o_fieldAddr rfl tk24 rfl ts3 rfl) rfl ?_
  refine RunF.q (o_load rfl tk3 ts3 rfl rfl rfl) rfl ?_
  refine RunF.q (o_lss rfl rfl) rfl ?_
  refine RunF.br (o_move rfl) rfl (fun hb1_3 => ?_) (fun hb1_3 => ?_)
  · try simp only [decide_eq_true_eq, decide_eq_false_iff_not, bne_iff_ne, beq_iff_eq, bne_eq_false_iff_eq, beq_eq_false_iff_ne, ne_eq, Bool.not_eq_true', Bool.not_eq_false'] at hb1_3
    refine RunF.gs (b := true) rfl rfl ?_
    refine RunF.gs (b := true) rfl rfl ?_
    refine RunF.gs (b := true) rfl rfl ?_
    refine RunF.q (o_pick_t rfl rfl) rfl ?_
    refine RunF.q (o_move rfl) rfl ?_
    refine RunF.gs (b := true) rfl rfl ?_
    refine RunF.gs (b := true) rfl rfl ?_
    refine RunF.gs (b := true) rfl rfl ?_
    refine RunF.q (o_pick_t rfl rfl) rfl ?_
    refine RunF.q (o_move rfl) rfl ?_
    refine RunF.gs (b := true) rfl rfl ?_
    refine RunF.gs (b := true) rfl rfl ?_
    refine RunF.gs (b := true) rfl rfl ?_
    refine RunF.q (o_pick_t rfl rfl) rfl ?_
    refine RunF.q (o_move rfl) rfl ?_
    refine RunF.gs (b := true) rfl rfl ?_
    refine RunF.gs (b := true) rfl rfl ?_
    refine RunF.gs (b := true) rfl rfl ?_
    refine RunF.gs (b := true) rfl rfl ?_
    refine RunF.gs (b := true) rfl rfl ?_
    refine RunF.gs (b := true) rfl rfl ?_
    refine RunF.gs (b := true) rfl rfl ?_
    refine RunF.gs (b := true) rfl rfl ?_
    refine RunF.gs (b := true) rfl rfl ?_
    refine RunF.q (o_pick_t rfl rfl) rfl ?_
    refine AW.cond rfl (fun hc0 => ?_) (fun hc0 => absurd hc0 (by simp))
    refine AW.seq ?_
    refine AW.region (by kernel_rfl) ?_
    refine RunF.q (o_assign rfl) rfl ?_
    refine AW.ret ?_
    first | (exact absurd rfl (by simp)) | exact FinQ.ret [] [] (ress_tmp rfl ress_nil) rfl .nil .nil (by rw [show rightM R C [] = false from decide_eq_false (by rintro ⟨h1, h2, h3, h4, h5, _⟩; (try simp only [List.length_nil, Int.natCast_zero] at *); omega)]; exact nR)
  · try simp only [decide_eq_true_eq, decide_eq_false_iff_not, bne_iff_ne, beq_iff_eq, bne_eq_false_iff_eq, beq_eq_false_iff_ne, ne_eq, Bool.not_eq_true', Bool.not_eq_false'] at hb1_3
    refine RunF.gq rfl (o_fieldAddr rfl tk24 rfl ts3 rfl) rfl ?_
    refine RunF.gq rfl (o_load rfl tk3 ts3 rfl rfl rfl) rfl ?_
    refine RunF.gq rfl (o_gtr rfl rfl) rfl ?_
    refine RunF.q (o_pick_f rfl rfl) rfl ?_
    refine RunF.br (o_move rfl) rfl (fun hb1_8 => ?_) (fun hb1_8 => ?_)
    · try simp only [decide_eq_true_eq, decide_eq_false_iff_not, bne_iff_ne, beq_iff_eq, bne_eq_false_iff_eq, beq_eq_false_iff_ne, ne_eq, Bool.not_eq_true', Bool.not_eq_false'] at hb1_8
      refine RunF.gs (b := true) rfl rfl ?_
      refine RunF.gs (b := true) rfl rfl ?_
      refine RunF.gs (b := true) rfl rfl ?_
      refine RunF.q (o_pick_t rfl rfl) rfl ?_
      refine RunF.q (o_move rfl) rfl ?_
      refine RunF.gs (b := true) rfl rfl ?_
      refine RunF.gs (b := true) rfl rfl ?_
      refine RunF.gs (b := true) rfl rfl ?_
      refine RunF.q (o_pick_t rfl rfl) rfl ?_
      refine RunF.q (o_move rfl) rfl ?_
      refine RunF.gs (b := true) rfl rfl ?_
      refine RunF.gs (b := true) rfl rfl ?_
      refine RunF.gs (b := true) rfl rfl ?_
      refine RunF.gs (b := true) rfl rfl ?_
      refine RunF.gs (b := true) rfl rfl ?_
      refine RunF.gs (b := true) rfl rfl ?_
      refine RunF.gs (b := true) rfl rfl ?_
      refine RunF.gs (b := true) rfl rfl ?_
      refine RunF.gs (b := true) rfl rfl ?_
      refine RunF.q (o_pick_t rfl rfl) rfl ?_
      refine AW.cond rfl (fun hc0 => ?_) (fun hc0 => absurd hc0 (by simp))
      refine AW.seq ?_
      refine AW.region (by kernel_rfl) ?_
      refine RunF.q (o_assign rfl) rfl ?_
      refine AW.ret ?_
      first | (exact absurd rfl (by simp)) | exact FinQ.ret [] [] (ress_tmp rfl ress_nil) rfl .nil .nil (by rw [show rightM R C [] = false from decide_eq_false (by rintro ⟨h1, h2, h3, h4, h5, _⟩; (try simp only [List.length_nil, Int.natCast_zero] at *); omega)]; exact nR)
    · try simp only [decide_eq_true_eq, decide_eq_false_iff_not, bne_iff_ne, beq_iff_eq, bne_eq_false_iff_eq, beq_eq_false_iff_ne, ne_eq, Bool.not_eq_true', Bool.not_eq_false'] at hb1_8
      refine RunF.gq rfl (o_fieldAddr rfl tk24 rfl ts3 rfl) rfl ?_
      refine RunF.gq rfl (o_load rfl tk3 ts3 rfl rfl rfl) rfl ?_
      refine RunF.gq rfl (o_lss rfl rfl) rfl ?_
      refine RunF.q (o_pick_f rfl rfl) rfl ?_
      refine RunF.br (o_move rfl) rfl (fun hb1_13 => ?_) (fun hb1_13 => ?_)
      · try simp only [decide_eq_true_eq, decide_eq_false_iff_not, bne_iff_ne, beq_iff_eq, bne_eq_false_iff_eq, beq_eq_false_iff_ne, ne_eq, Bool.not_eq_true', Bool.not_eq_false'] at hb1_13
        refine RunF.gs (b := true) rfl rfl ?_
        refine RunF.gs (b := true) rfl rfl ?_
        refine RunF.gs (b := true) rfl rfl ?_
        refine RunF.q (o_pick_t rfl rfl) rfl ?_
        refine RunF.q (o_move rfl) rfl ?_
        refine RunF.gs (b := true) rfl rfl ?_
        refine RunF.gs (b := true) rfl rfl ?_
        refine RunF.gs (b := true) rfl rfl ?_
        refine RunF.gs (b := true) rfl rfl ?_
        refine RunF.gs (b := true) rfl rfl ?_
        refine RunF.gs (b := true) rfl rfl ?_
        refine RunF.gs (b := true) rfl rfl ?_
        refine RunF.gs (b := true) rfl rfl ?_
        refine RunF.gs (b := true) rfl rfl ?_
        refine RunF.q (o_pick_t rfl rfl) rfl ?_
        refine AW.cond rfl (fun hc0 => ?_) (fun hc0 => absurd hc0 (by simp))
        refine AW.seq ?_
        refine AW.region (by kernel_rfl) ?_
        refine RunF.q (o_assign rfl) rfl ?_
        refine AW.ret ?_
        first | (exact absurd rfl (by simp)) | exact FinQ.ret [] [] (ress_tmp rfl ress_nil) rfl .nil .nil (by rw [show rightM R C [] = false from decide_eq_false (by rintro ⟨h1, h2, h3, h4, h5, _⟩; (try simp only [List.length_nil, Int.natCast_zero] at *); omega)]; exact nR)
      · try simp only [decide_eq_true_eq, decide_eq_false_iff_not, bne_iff_ne, beq_iff_eq, bne_eq_false_iff_eq, beq_eq_false_iff_ne, ne_eq, Bool.not_eq_true', Bool.not_eq_false'] at hb1_13
        refine RunF.gq rfl (o_fieldAddr rfl tk24 rfl ts3 rfl) rfl ?_
        refine RunF.gq rfl (o_load rfl tk3 ts3 rfl rfl rfl) rfl ?_
        refine RunF.gq rfl (o_gtr rfl rfl) rfl ?_
        refine RunF.q (o_pick_f rfl rfl) rfl ?_
        refine RunF.br (o_move rfl) rfl (fun hb1_18 => ?_) (fun hb1_18 => ?_)
        · try simp only [decide_eq_true_eq, decide_eq_false_iff_not, bne_iff_ne, beq_iff_eq, bne_eq_false_iff_eq, beq_eq_false_iff_ne, ne_eq, Bool.not_eq_true', Bool.not_eq_false'] at hb1_18
          refine RunF.gs (b := true) rfl rfl ?_
          refine RunF.gs (b := true) rfl rfl ?_
          refine RunF.gs (b := true) rfl rfl ?_
          refine RunF.gs (b := true) rfl rfl ?_
          refine RunF.gs (b := true) rfl rfl ?_
          refine RunF.gs (b := true) rfl rfl ?_
          refine RunF.gs (b := true) rfl rfl ?_
          refine RunF.gs (b := true) rfl rfl ?_
          refine RunF.gs (b := true) rfl rfl ?_
          refine RunF.q (o_pick_t rfl rfl) rfl ?_
          refine AW.cond rfl (fun hc0 => ?_) (fun hc0 => absurd hc0 (by simp))
          refine AW.seq ?_
          refine AW.region (by kernel_rfl) ?_
          refine RunF.q (o_assign rfl) rfl ?_
          refine AW.ret ?_
          first | (exact absurd rfl (by simp)) | exact FinQ.ret [] [] (ress_tmp rfl ress_nil) rfl .nil .nil (by rw [show rightM R C [] = false from decide_eq_false (by rintro ⟨h1, h2, h3, h4, h5, _⟩; (try simp only [List.length_nil, Int.natCast_zero] at *); omega)]; exact nR)
        · try simp only [decide_eq_true_eq, decide_eq_false_iff_not, bne_iff_ne, beq_iff_eq, bne_eq_false_iff_eq, beq_eq_false_iff_ne, ne_eq, Bool.not_eq_true', Bool.not_eq_false'] at hb1_18
          have hRC := Int.mul_le_mul (show R ≤ 8 by omega) (show C ≤ 8 by omega) (by omega) (by omega)
          have hRC1 : 1 ≤ R * C := by have := Int.mul_le_mul (show (1 : Int) ≤ R by omega) (show (1 : Int) ≤ C by omega) (by omega) (by omega); omega
          refine RunF.gq rfl (o_fieldAddr rfl tk24 rfl ts22 rfl) rfl ?_
          refine RunF.gq rfl (o_load rfl tk22 ts22 rfl rfl rfl) rfl ?_
          first | refine RunF.gq rfl (o_len tk22 rfl) rfl ?_ | refine RunF.gq rfl (o_len_nil tk22 rfl) rfl ?_
          refine RunF.gq rfl (o_fieldAddr rfl tk24 rfl ts3 rfl) rfl ?_
          refine RunF.gq rfl (o_load rfl tk3 ts3 rfl rfl rfl) rfl ?_
          refine RunF.gq rfl (o_fieldAddr rfl tk24 rfl ts3 rfl) rfl ?_
          refine RunF.gq rfl (o_load rfl tk3 ts3 rfl rfl rfl) rfl ?_
          refine RunF.gq rfl (o_mul rfl rfl (by first | exact i64_in _ (by omega) | rfl)) rfl ?_
          refine RunF.gq rfl (o_neq rfl rfl) rfl ?_
          refine RunF.q (o_pick_f rfl rfl) rfl ?_
          refine AW.cond rfl (fun hc0 => ?_) (fun hc0 => ?_)
          · try simp only [decide_eq_true_eq, decide_eq_false_iff_not, bne_iff_ne, beq_iff_eq, bne_eq_false_iff_eq, beq_eq_false_iff_ne, ne_eq, Bool.not_eq_true', Bool.not_eq_false'] at hc0
            refine AW.seq ?_
            refine AW.region (by kernel_rfl) ?_
            refine RunF.q (o_assign rfl) rfl ?_
            refine AW.ret ?_
            first | (exact absurd rfl (by simp)) | exact FinQ.ret [] [] (ress_tmp rfl ress_nil) rfl .nil .nil (by rw [show rightM R C [] = false from decide_eq_false (by rintro ⟨h1, h2, h3, h4, h5, _⟩; (try simp only [List.length_nil, Int.natCast_zero] at *); omega)]; exact nR)
          · try simp only [decide_eq_true_eq, decide_eq_false_iff_not, bne_iff_ne, beq_iff_eq, bne_eq_false_iff_eq, beq_eq_false_iff_ne, ne_eq, Bool.not_eq_true', Bool.not_eq_false'] at hc0
            exfalso; omega
            skip

end Go.Proofs.Ytnkijhpikeokfaa

/- What is made even, by its contract. -/
namespace Go.Proofs.Ytnkijhpikeokfaa
open Go Go.Sym Go.IntWalk

theorem trL_length (L : List Int) (c r : Nat) : (trL L c r).length = c * r := by simp [trL, tab_length]
theorem getD_inQ {L : List Int} (h : ∀ x ∈ L, inQ x) (i : Nat) : inQ (L.getD i 0) := by
  rw [List.getD_eq_getElem?_getD]
  cases hi : L[i]? with
  | none => simp [inQ]
  | some x => exact h x (List.mem_of_getElem? hi)
theorem trL_inQ {L : List Int} (h : ∀ x ∈ L, inQ x) (c r : Nat) : ∀ y ∈ trL L c r, inQ y := by
  intro y hy
  simp only [trL, tab, List.mem_map] at hy
  obtain ⟨j, _, rfl⟩ := hy
  exact getD_inQ h _
def evenD (x y : Int) : Int × Bool := (half1 (x + y), false)
def evenL (L : List Int) (r : Nat) : List Int := zipM evenD L (trL L r r) r r
theorem zipX_even (A B : List Int) (r c : Nat) : zipX evenD A B r c = false := by simp [zipX, anyT, evenD]
theorem evenD_ok {A B : List Int} (hA : ∀ x ∈ A, inQ x) (hB : ∀ x ∈ B, inQ x) : ∀ x ∈ A, ∀ y ∈ B, SoundC Try.prog 74 [.int .i64 x, .int .i64 y] ⟨[], []⟩ { val := .tuple [.int .i64 (evenD x y).1, .bool (evenD x y).2] } :=
  fun x hx y hy => even1_ok x y (hA x hx) (hB y hy)

set_option maxHeartbeats 1000000 in
theorem meven_ok (r : Nat) (hr : r ≤ 8) (hR : 0 < r) (L : List Int) (hL : L.length = r * r) (f : Bool) (hQ : ∀ x ∈ L, inQ x) : SoundC Try.prog 29 [.agg [.int .i64 r, .int .i64 r, .sl (.r 0) 0 L.length 1 f]] ⟨[ints L], []⟩ { val := .tuple [.agg [.int .i64 r, .int .i64 r, .sl (.o 0) 0 (evenL L r).length 1 false], .bool false, .int .i64 0], newo := [ints (evenL L r)] } := by
  have ez := zipX_even L (trL L r r) r r
  refine SoundC.of (N := 12) Try.func29 rfl rfl rfl rfl ?_
  refine AW.seq ?_
  refine AW.region (by kernel_rfl) ?_
  refine RunF.w (o_box (nm := 0) rfl rfl rfl) nH ?_
  refine RunF.w (o_alloc (nm := 1) tz24 rfl) nH ?_
  refine RunF.q (o_assign rfl) rfl ?_
  refine RunF.q (o_assign rfl) rfl ?_
  refine AW.seq ?_
  refine AW.draws (by kernel_rfl) (by kernel_rfl) ?_
  refine RunV.q (o_load_agg rfl tk24 ts24 rfl rfl rfl nL) rfl ?_
  refine RunV.q (o_load_agg rfl tk24 ts24 rfl rfl rfl nL) rfl ?_
  refine RunV.w (o_call (no := 2) (nr := 1) rfl rfl rfl nC (by rfl) (by exact trans_ok r r hr hr L hL f hR hR) (by rfl) rfl rfl nV nE) nH ?_
  refine RunV.w (o_call (no := 3) (nr := 1) rfl rfl rfl nC (by rfl) (by exact each_ok r r hr hr hR hR L (trL L r r) hL (trL_length L r r) f false _ evenD (evenD_ok hQ (trL_inQ hQ r r))) (by rfl) rfl rfl nV nE) nH ?_
  refine RunV.q (o_extract rfl rfl) rfl ?_
  refine RunV.q (o_extract rfl rfl) rfl ?_
  refine RunV.q (o_extract rfl rfl) rfl ?_
  refine RunV.wn (o_store rfl rfl rfl ts24 rfl rfl) nH ?_
  refine RunV.q (o_assign rfl) rfl ?_
  refine RunV.q (o_assign rfl) rfl ?_
  refine And.intro (by kernel_rfl) ?_
  refine AW.ret ?_
  exact FinQ.ret [3] [] (ress_agg rfl tk24 ts24 rfl rfl rfl (ress_tmp rfl (ress_tmp rfl ress_nil))) rfl (.some rfl rfl (PRN.flat (ints_flat _)) .nil) (.cons rfl rfl nP .nil) (by rw [ez]; exact nR)

set_option maxHeartbeats 1000000 in
theorem meven_no (r c : Nat) (hr : r ≤ 8) (hc : c ≤ 8) (hR : 0 < r) (hC : 0 < c) (hne : r ≠ c) (L : List Int) (hL : L.length = r * c) (f : Bool) : SoundC Try.prog 29 [.agg [.int .i64 r, .int .i64 c, .sl (.r 0) 0 L.length 1 f]] ⟨[ints L], []⟩ { val := .tuple [.agg [.int .i64 0, .int .i64 0, .nilsl], .bool false, .int .i64 9] } := by
  refine SoundC.of (N := 12) Try.func29 rfl rfl rfl rfl ?_
  refine AW.seq ?_
  refine AW.region (by kernel_rfl) ?_
  refine RunF.w (o_box (nm := 0) rfl rfl rfl) nH ?_
  refine RunF.w (o_alloc (nm := 1) tz24 rfl) nH ?_
  refine RunF.q (o_assign rfl) rfl ?_
  refine RunF.q (o_assign rfl) rfl ?_
  refine AW.seq ?_
  refine AW.draws (by kernel_rfl) (by kernel_rfl) ?_
  refine RunV.q (o_load_agg rfl tk24 ts24 rfl rfl rfl nL) rfl ?_
  refine RunV.q (o_load_agg rfl tk24 ts24 rfl rfl rfl nL) rfl ?_
  refine RunV.w (o_call (no := 2) (nr := 1) rfl rfl rfl nC (by rfl) (by exact trans_ok r c hr hc L hL f hR hC) (by rfl) rfl rfl nV nE) nH ?_
  refine RunV.q (o_call (no := 3) (nr := 1) rfl rfl rfl nC (by rfl) (by exact each_no r c c r L (trL L c r) f false (fun h => hne h.1) _) (by rfl) rfl rfl nV rfl) (by rfl) ?_
  refine RunV.q (o_extract rfl rfl) rfl ?_
  refine RunV.q (o_extract rfl rfl) rfl ?_
  refine RunV.q (o_extract rfl rfl) rfl ?_
  refine RunV.wn (o_store rfl rfl rfl ts24 rfl rfl) nH ?_
  refine RunV.q (o_assign rfl) rfl ?_
  refine RunV.q (o_assign rfl) rfl ?_
  refine And.intro (by kernel_rfl) ?_
  refine AW.ret ?_
  exact FinQ.ret [] [] (ress_agg rfl tk24 ts24 rfl rfl rfl (ress_tmp rfl (ress_tmp rfl ress_nil))) rfl .nil (.cons rfl rfl nP .nil) nR

end Go.Proofs.Ytnkijhpikeokfaa

/- Which matrices are right, and whether two are the same: the program's, and the document's. -/
namespace Go.Proofs.Ytnkijhpikeokfaa
open Go Go.Sym Go.IntWalk

theorem rightM_any {R C : Int} {L : List Int} (h : 1 ≤ R ∧ R ≤ 8 ∧ 1 ≤ C ∧ C ≤ 8 ∧ (L.length : Int) = R * C) : rightM R C L = !(L.any oddQ) := by
  cases ha : L.any oddQ with
  | false => exact decide_eq_true ⟨h.1, h.2.1, h.2.2.1, h.2.2.2.1, h.2.2.2.2, (any_oddQ L).1 ha⟩
  | true => exact decide_eq_false (fun k => by rw [(any_oddQ L).2 k.2.2.2.2.2] at ha; cases ha)
def sameM (r c : Int) (A : List Int) (r' c' : Int) (B : List Int) : Bool := decide (r = r' ∧ c = c' ∧ A = B)

set_option maxHeartbeats 1000000 in
theorem mright_ok (R C : Int) (L : List Int) (f : Bool) : SoundC Try.prog 33 [.agg [.int .i64 R, .int .i64 C, .sl (.r 0) 0 L.length 1 f]] ⟨[ints L], []⟩ { val := .bool (rightM R C L) } := by
  refine SoundC.of (N := 40) Try.func33 rfl rfl rfl rfl ?_
  refine AW.seq ?_
  refine AW.region (by kernel_rfl) ?_
  refine RunF.w (o_box (nm := 0) rfl rfl rfl) nH ?_
  refine RunF.q (o_assign rfl) rfl ?_
  refine AW.seq ?_
  refine AW.region (by kernel_rfl) ?_
  refine RunF.q (o_assign rfl) rfl ?_
  refine AW.seq ?_
  refine AW.region (by kernel_rfl) ?_
  refine RunF.q (o_fieldAddr rfl tk24 rfl ts3 rfl) rfl ?_
  refine RunF.q (o_load rfl tk3 ts3 rfl rfl rfl) rfl ?_
  refine RunF.q (o_geq rfl rfl) rfl ?_
  refine RunF.br (o_move rfl) rfl (fun hb2_3 => ?_) (fun hb2_3 => ?_)
  · try simp only [decide_eq_true_eq, decide_eq_false_iff_not, bne_iff_ne, beq_iff_eq, bne_eq_false_iff_eq, beq_eq_false_iff_ne, ne_eq, Bool.not_eq_true', Bool.not_eq_false'] at hb2_3
    refine RunF.gq rfl (o_fieldAddr rfl tk24 rfl ts3 rfl) rfl ?_
    refine RunF.gq rfl (o_load rfl tk3 ts3 rfl rfl rfl) rfl ?_
    refine RunF.gq rfl (o_leq rfl rfl) rfl ?_
    refine RunF.q (o_pick_t rfl rfl) rfl ?_
    refine RunF.br (o_move rfl) rfl (fun hb2_8 => ?_) (fun hb2_8 => ?_)
    · try simp only [decide_eq_true_eq, decide_eq_false_iff_not, bne_iff_ne, beq_iff_eq, bne_eq_false_iff_eq, beq_eq_false_iff_ne, ne_eq, Bool.not_eq_true', Bool.not_eq_false'] at hb2_8
      refine RunF.gq rfl (o_fieldAddr rfl tk24 rfl ts3 rfl) rfl ?_
      refine RunF.gq rfl (o_load rfl tk3 ts3 rfl rfl rfl) rfl ?_
      refine RunF.gq rfl (o_geq rfl rfl) rfl ?_
      refine RunF.q (o_pick_t rfl rfl) rfl ?_
      refine RunF.br (o_move rfl) rfl (fun hb2_13 => ?_) (fun hb2_13 => ?_)
      · try simp only [decide_eq_true_eq, decide_eq_false_iff_not, bne_iff_ne, beq_iff_eq, bne_eq_false_iff_eq, beq_eq_false_iff_ne, ne_eq, Bool.not_eq_true', Bool.not_eq_false'] at hb2_13
        refine RunF.gq rfl (o_fieldAddr rfl tk24 rfl ts3 rfl) rfl ?_
        refine RunF.gq rfl (o_load rfl tk3 ts3 rfl rfl rfl) rfl ?_
        refine RunF.gq rfl (o_leq rfl rfl) rfl ?_
        refine RunF.q (o_pick_t rfl rfl) rfl ?_
        refine RunF.br (o_move rfl) rfl (fun hb2_18 => ?_) (fun hb2_18 => ?_)
        · try simp only [decide_eq_true_eq, decide_eq_false_iff_not, bne_iff_ne, beq_iff_eq, bne_eq_false_iff_eq, beq_eq_false_iff_ne, ne_eq, Bool.not_eq_true', Bool.not_eq_false'] at hb2_18
          have hRC := Int.mul_le_mul (show R ≤ 8 by omega) (show C ≤ 8 by omega) (by omega) (by omega)
          have hRC1 : 1 ≤ R * C := by have := Int.mul_le_mul (show (1 : Int) ≤ R by omega) (show (1 : Int) ≤ C by omega) (by omega) (by omega); omega
          refine RunF.gq rfl (o_fieldAddr rfl tk24 rfl ts22 rfl) rfl ?_
          refine RunF.gq rfl (o_load rfl tk22 ts22 rfl rfl rfl) rfl ?_
          first | refine RunF.gq rfl (o_len tk22 rfl) rfl ?_ | refine RunF.gq rfl (o_len_nil tk22 rfl) rfl ?_
          refine RunF.gq rfl (o_fieldAddr rfl tk24 rfl ts3 rfl) rfl ?_
          refine RunF.gq rfl (o_load rfl tk3 ts3 rfl rfl rfl) rfl ?_
          refine RunF.gq rfl (o_fieldAddr rfl tk24 rfl ts3 rfl) rfl ?_
          refine RunF.gq rfl (o_load rfl tk3 ts3 rfl rfl rfl) rfl ?_
          refine RunF.gq rfl (o_mul rfl rfl (by first | exact i64_in _ (by omega) | rfl)) rfl ?_
          refine RunF.gq rfl (o_eql rfl rfl) rfl ?_
          refine RunF.q (o_pick_t rfl rfl) rfl ?_
          refine RunF.br (o_move rfl) rfl (fun hb2_29 => ?_) (fun hb2_29 => ?_)
          · try simp only [decide_eq_true_eq, decide_eq_false_iff_not, bne_iff_ne, beq_iff_eq, bne_eq_false_iff_eq, beq_eq_false_iff_ne, ne_eq, Bool.not_eq_true', Bool.not_eq_false'] at hb2_29
            refine RunF.gq rfl (o_fieldAddr rfl tk24 rfl ts22 rfl) rfl ?_
            refine RunF.gq rfl (o_load rfl tk22 ts22 rfl rfl rfl) rfl ?_
            refine RunF.gq rfl (o_move rfl) rfl ?_
            refine RunF.gq rfl (o_call (no := 1) (nr := 1) rfl rfl rfl nC (by rfl) (by exact containsQ_ok L f (by omega) oddQ _ (fun x _ => rodd_ok x)) (by rfl) rfl rfl nV rfl) (by rfl) ?_
            refine RunF.gq rfl (o_not rfl) rfl ?_
            refine RunF.q (o_pick_t rfl rfl) rfl ?_
            refine RunF.q (o_assign rfl) rfl ?_
            refine AW.ret ?_
            first | exact FinQ.ret [] [] (ress_tmp rfl ress_nil) rfl .nil (.cons rfl rfl nP .nil) (by rw [show rightM R C L = !(L.any oddQ) from rightM_any ⟨by omega, by omega, by omega, by omega, by omega⟩]; exact nR) | exact FinQ.ret [] [] (ress_tmp rfl ress_nil) rfl .nil (.cons rfl rfl nP .nil) (by rw [show rightM R C L = false from decide_eq_false (by rintro ⟨h1, h2, h3, h4, h5, _⟩; (try simp only [List.length_nil, Int.natCast_zero] at *); omega)]; exact nR)
          · try simp only [decide_eq_true_eq, decide_eq_false_iff_not, bne_iff_ne, beq_iff_eq, bne_eq_false_iff_eq, beq_eq_false_iff_ne, ne_eq, Bool.not_eq_true', Bool.not_eq_false'] at hb2_29
            refine RunF.gs (b := false) rfl rfl ?_
            refine RunF.gs (b := false) rfl rfl ?_
            refine RunF.gs (b := false) rfl rfl ?_
            refine RunF.gs (b := false) rfl rfl ?_
            refine RunF.gs (b := false) rfl rfl ?_
            refine RunF.q (o_pick_f rfl rfl) rfl ?_
            refine RunF.q (o_assign rfl) rfl ?_
            refine AW.ret ?_
            first | exact FinQ.ret [] [] (ress_tmp rfl ress_nil) rfl .nil (.cons rfl rfl nP .nil) (by rw [show rightM R C L = !(L.any oddQ) from rightM_any ⟨by omega, by omega, by omega, by omega, by omega⟩]; exact nR) | exact FinQ.ret [] [] (ress_tmp rfl ress_nil) rfl .nil (.cons rfl rfl nP .nil) (by rw [show rightM R C L = false from decide_eq_false (by rintro ⟨h1, h2, h3, h4, h5, _⟩; (try simp only [List.length_nil, Int.natCast_zero] at *); omega)]; exact nR)
        · try simp only [decide_eq_true_eq, decide_eq_false_iff_not, bne_iff_ne, beq_iff_eq, bne_eq_false_iff_eq, beq_eq_false_iff_ne, ne_eq, Bool.not_eq_true', Bool.not_eq_false'] at hb2_18
          refine RunF.gs (b := false) rfl rfl ?_
          refine RunF.gs (b := false) rfl rfl ?_
          refine RunF.gs (b := false) rfl rfl ?_
          refine RunF.gs (b := false) rfl rfl ?_
          refine RunF.gs (b := false) rfl rfl ?_
          refine RunF.gs (b := false) rfl rfl ?_
          refine RunF.gs (b := false) rfl rfl ?_
          refine RunF.gs (b := false) rfl rfl ?_
          refine RunF.gs (b := false) rfl rfl ?_
          refine RunF.q (o_pick_f rfl rfl) rfl ?_
          refine RunF.q (o_move rfl) rfl ?_
          refine RunF.gs (b := false) rfl rfl ?_
          refine RunF.gs (b := false) rfl rfl ?_
          refine RunF.gs (b := false) rfl rfl ?_
          refine RunF.gs (b := false) rfl rfl ?_
          refine RunF.gs (b := false) rfl rfl ?_
          refine RunF.q (o_pick_f rfl rfl) rfl ?_
          refine RunF.q (o_assign rfl) rfl ?_
          refine AW.ret ?_
          first | exact FinQ.ret [] [] (ress_tmp rfl ress_nil) rfl .nil (.cons rfl rfl nP .nil) (by rw [show rightM R C L = !(L.any oddQ) from rightM_any ⟨by omega, by omega, by omega, by omega, by omega⟩]; exact nR) | exact FinQ.ret [] [] (ress_tmp rfl ress_nil) rfl .nil (.cons rfl rfl nP .nil) (by rw [show rightM R C L = false from decide_eq_false (by rintro ⟨h1, h2, h3, h4, h5, _⟩; (try simp only [List.length_nil, Int.natCast_zero] at *); omega)]; exact nR)
      · try simp only [decide_eq_true_eq, decide_eq_false_iff_not, bne_iff_ne, beq_iff_eq, bne_eq_false_iff_eq, beq_eq_false_iff_ne, ne_eq, Bool.not_eq_true', Bool.not_eq_false'] at hb2_13
        refine RunF.gs (b := false) rfl rfl ?_
        refine RunF.gs (b := false) rfl rfl ?_
        refine RunF.gs (b := false) rfl rfl ?_
        refine RunF.q (o_pick_f rfl rfl) rfl ?_
        refine RunF.q (o_move rfl) rfl ?_
        refine RunF.gs (b := false) rfl rfl ?_
        refine RunF.gs (b := false) rfl rfl ?_
        refine RunF.gs (b := false) rfl rfl ?_
        refine RunF.gs (b := false) rfl rfl ?_
        refine RunF.gs (b := false) rfl rfl ?_
        refine RunF.gs (b := false) rfl rfl ?_
        refine RunF.gs (b := false) rfl rfl ?_
        refine RunF.gs (b := false) rfl rfl ?_
        refine RunF.gs (b := false) rfl rfl ?_
        refine RunF.q (o_pick_f rfl rfl) rfl ?_
        refine RunF.q (o_move rfl) rfl ?_
        refine RunF.gs (b := false) rfl rfl ?_
        refine RunF.gs (b := false) rfl rfl ?_
        refine RunF.gs (b := false) rfl rfl ?_
        refine RunF.gs (b := false) rfl rfl ?_
        refine RunF.gs (b := false) rfl rfl ?_
        refine RunF.q (o_pick_f rfl rfl) rfl ?_
        refine RunF.q (o_assign rfl) rfl ?_
        refine AW.ret ?_
        first | exact FinQ.ret [] [] (ress_tmp rfl ress_nil) rfl .nil (.cons rfl rfl nP .nil) (by rw [show rightM R C L = !(L.any oddQ) from rightM_any ⟨by omega, by omega, by omega, by omega, by omega⟩]; exact nR) | exact FinQ.ret [] [] (ress_tmp rfl ress_nil) rfl .nil (.cons rfl rfl nP .nil) (by rw [show rightM R C L = false from decide_eq_false (by rintro ⟨h1, h2, h3, h4, h5, _⟩; (try simp only [List.length_nil, Int.natCast_zero] at *); omega)]; exact nR)
    · try simp only [decide_eq_true_eq, decide_eq_false_iff_not, bne_iff_ne, beq_iff_eq, bne_eq_false_iff_eq, beq_eq_false_iff_ne, ne_eq, Bool.not_eq_true', Bool.not_eq_false'] at hb2_8
      refine RunF.gs (b := false) rfl rfl ?_
      refine RunF.gs (b := false) rfl rfl ?_
      refine RunF.gs (b := false) rfl rfl ?_
      refine RunF.q (o_pick_f rfl rfl) rfl ?_
      refine RunF.q (o_move rfl) rfl ?_
      refine RunF.gs (b := false) rfl rfl ?_
      refine RunF.gs (b := false) rfl rfl ?_
      refine RunF.gs (b := false) rfl rfl ?_
      refine RunF.q (o_pick_f rfl rfl) rfl ?_
      refine RunF.q (o_move rfl) rfl ?_
      refine RunF.gs (b := false) rfl rfl ?_
      refine RunF.gs (b := false) rfl rfl ?_
      refine RunF.gs (b := false) rfl rfl ?_
      refine RunF.gs (b := false) rfl rfl ?_
      refine RunF.gs (b := false) rfl rfl ?_
      refine RunF.gs (b := false) rfl rfl ?_
      refine RunF.gs (b := false) rfl rfl ?_
      refine RunF.gs (b := false) rfl rfl ?_
      refine RunF.gs (b := false) rfl rfl ?_
      refine RunF.q (o_pick_f rfl rfl) rfl ?_
      refine RunF.q (o_move rfl) rfl ?_
      refine RunF.gs (b := false) rfl rfl ?_
      refine RunF.gs (b := false) rfl rfl ?_
      refine RunF.gs (b := false) rfl rfl ?_
      refine RunF.gs (b := false) rfl rfl ?_
      refine RunF.gs (b := false) rfl rfl ?_
      refine RunF.q (o_pick_f rfl rfl) rfl ?_
      refine RunF.q (o_assign rfl) rfl ?_
      refine AW.ret ?_
      first | exact FinQ.ret [] [] (ress_tmp rfl ress_nil) rfl .nil (.cons rfl rfl nP .nil) (by rw [show rightM R C L = !(L.any oddQ) from rightM_any ⟨by omega, by omega, by omega, by omega, by omega⟩]; exact nR) | exact FinQ.ret [] [] (ress_tmp rfl ress_nil) rfl .nil (.cons rfl rfl nP .nil) (by rw [show rightM R C L = false from decide_eq_false (by rintro ⟨h1, h2, h3, h4, h5, _⟩; (try simp only [List.length_nil, Int.natCast_zero] at *); omega)]; exact nR)
  · try simp only [decide_eq_true_eq, decide_eq_false_iff_not, bne_iff_ne, beq_iff_eq, bne_eq_false_iff_eq, beq_eq_false_iff_ne, ne_eq, Bool.not_eq_true', Bool.not_eq_false'] at hb2_3
    refine RunF.gs (b := false) rfl rfl ?_
    refine RunF.gs (b := false) rfl rfl ?_
    refine RunF.gs (b := false) rfl rfl ?_
    refine RunF.q (o_pick_f rfl rfl) rfl ?_
    refine RunF.q (o_move rfl) rfl ?_
    refine RunF.gs (b := false) rfl rfl ?_
    refine RunF.gs (b := false) rfl rfl ?_
    refine RunF.gs (b := false) rfl rfl ?_
    refine RunF.q (o_pick_f rfl rfl) rfl ?_
    refine RunF.q (o_move rfl) rfl ?_
    refine RunF.gs (b := false) rfl rfl ?_
    refine RunF.gs (b := false) rfl rfl ?_
    refine RunF.gs (b := false) rfl rfl ?_
    refine RunF.q (o_pick_f rfl rfl) rfl ?_
    refine RunF.q (o_move rfl) rfl ?_
    refine RunF.gs (b := false) rfl rfl ?_
    refine RunF.gs (b := false) rfl rfl ?_
    refine RunF.gs (b := false) rfl rfl ?_
    refine RunF.gs (b := false) rfl rfl ?_
    refine RunF.gs (b := false) rfl rfl ?_
    refine RunF.gs (b := false) rfl rfl ?_
    refine RunF.gs (b := false) rfl rfl ?_
    refine RunF.gs (b := false) rfl rfl ?_
    refine RunF.gs (b := false) rfl rfl ?_
    refine RunF.q (o_pick_f rfl rfl) rfl ?_
    refine RunF.q (o_move rfl) rfl ?_
    refine RunF.gs (b := false) rfl rfl ?_
    refine RunF.gs (b := false) rfl rfl ?_
    refine RunF.gs (b := false) rfl rfl ?_
    refine RunF.gs (b := false) rfl rfl ?_
    refine RunF.gs (b := false) rfl rfl ?_
    refine RunF.q (o_pick_f rfl rfl) rfl ?_
    refine RunF.q (o_assign rfl) rfl ?_
    refine AW.ret ?_
    first | exact FinQ.ret [] [] (ress_tmp rfl ress_nil) rfl .nil (.cons rfl rfl nP .nil) (by rw [show rightM R C L = !(L.any oddQ) from rightM_any ⟨by omega, by omega, by omega, by omega, by omega⟩]; exact nR) | exact FinQ.ret [] [] (ress_tmp rfl ress_nil) rfl .nil (.cons rfl rfl nP .nil) (by rw [show rightM R C L = false from decide_eq_false (by rintro ⟨h1, h2, h3, h4, h5, _⟩; (try simp only [List.length_nil, Int.natCast_zero] at *); omega)]; exact nR)

set_option maxHeartbeats 1000000 in
theorem mright_nil (R C : Int) : SoundC Try.prog 33 [.agg [.int .i64 R, .int .i64 C, .nilsl]] ⟨[], []⟩ { val := .bool (rightM R C []) } := by
  refine SoundC.of (N := 40) Try.func33 rfl rfl rfl rfl ?_
  refine AW.seq ?_
  refine AW.region (by kernel_rfl) ?_
  refine RunF.w (o_box (nm := 0) rfl rfl rfl) nH ?_
  refine RunF.q (o_assign rfl) rfl ?_
  refine AW.seq ?_
  refine AW.region (by kernel_rfl) ?_
  refine RunF.q (o_assign rfl) rfl ?_
  refine AW.seq ?_
  refine AW.region (by kernel_rfl) ?_
  refine RunF.q (o_fieldAddr rfl tk24 rfl ts3 rfl) rfl ?_
  refine RunF.q (o_load rfl tk3 ts3 rfl rfl rfl) rfl ?_
  refine RunF.q (o_geq rfl rfl) rfl ?_
  refine RunF.br (o_move rfl) rfl (fun hb2_3 => ?_) (fun hb2_3 => ?_)
  · try simp only [decide_eq_true_eq, decide_eq_false_iff_not, bne_iff_ne, beq_iff_eq, bne_eq_false_iff_eq, beq_eq_false_iff_ne, ne_eq, Bool.not_eq_true', Bool.not_eq_false'] at hb2_3
    refine RunF.gq rfl (o_fieldAddr rfl tk24 rfl ts3 rfl) rfl ?_
    refine RunF.gq rfl (o_load rfl tk3 ts3 rfl rfl rfl) rfl ?_
    refine RunF.gq rfl (o_leq rfl rfl) rfl ?_
    refine RunF.q (o_pick_t rfl rfl) rfl ?_
    refine RunF.br (o_move rfl) rfl (fun hb2_8 => ?_) (fun hb2_8 => ?_)
    · try simp only [decide_eq_true_eq, decide_eq_false_iff_not, bne_iff_ne, beq_iff_eq, bne_eq_false_iff_eq, beq_eq_false_iff_ne, ne_eq, Bool.not_eq_true', Bool.not_eq_false'] at hb2_8
      refine RunF.gq rfl (o_fieldAddr rfl tk24 rfl ts3 rfl) rfl ?_
      refine RunF.gq rfl (o_load rfl tk3 ts3 rfl rfl rfl) rfl ?_
      refine RunF.gq rfl (o_geq rfl rfl) rfl ?_
      refine RunF.q (o_pick_t rfl rfl) rfl ?_
      refine RunF.br (o_move rfl) rfl (fun hb2_13 => ?_) (fun hb2_13 => ?_)
      · try simp only [decide_eq_true_eq, decide_eq_false_iff_not, bne_iff_ne, beq_iff_eq, bne_eq_false_iff_eq, beq_eq_false_iff_ne, ne_eq, Bool.not_eq_true', Bool.not_eq_false'] at hb2_13
        refine RunF.gq rfl (o_fieldAddr rfl tk24 rfl ts3 rfl) rfl ?_
        refine RunF.gq rfl (o_load rfl tk3 ts3 rfl rfl rfl) rfl ?_
        refine RunF.gq rfl (o_leq rfl rfl) rfl ?_
        refine RunF.q (o_pick_t rfl rfl) rfl ?_
        refine RunF.br (o_move rfl) rfl (fun hb2_18 => ?_) (fun hb2_18 => ?_)
        · try simp only [decide_eq_true_eq, decide_eq_false_iff_not, bne_iff_ne, beq_iff_eq, bne_eq_false_iff_eq, beq_eq_false_iff_ne, ne_eq, Bool.not_eq_true', Bool.not_eq_false'] at hb2_18
          have hRC := Int.mul_le_mul (show R ≤ 8 by omega) (show C ≤ 8 by omega) (by omega) (by omega)
          have hRC1 : 1 ≤ R * C := by have := Int.mul_le_mul (show (1 : Int) ≤ R by omega) (show (1 : Int) ≤ C by omega) (by omega) (by omega); omega
          refine RunF.gq rfl (o_fieldAddr rfl tk24 rfl ts22 rfl) rfl ?_
          refine RunF.gq rfl (o_load rfl tk22 ts22 rfl rfl rfl) rfl ?_
          first | refine RunF.gq rfl (o_len tk22 rfl) rfl ?_ | refine RunF.gq rfl (o_len_nil tk22 rfl) rfl ?_
          refine RunF.gq rfl (o_fieldAddr rfl tk24 rfl ts3 rfl) rfl ?_
          refine RunF.gq rfl (o_load rfl tk3 ts3 rfl rfl rfl) rfl ?_
          refine RunF.gq rfl (o_fieldAddr rfl tk24 rfl ts3 rfl) rfl ?_
          refine RunF.gq rfl (o_load rfl tk3 ts3 rfl rfl rfl) rfl ?_
          refine RunF.gq rfl (o_mul rfl rfl (by first | exact i64_in _ (by omega) | rfl)) rfl ?_
          refine RunF.gq rfl (o_eql rfl rfl) rfl ?_
          refine RunF.q (o_pick_t rfl rfl) rfl ?_
          refine RunF.br (o_move rfl) rfl (fun hb2_29 => ?_) (fun hb2_29 => ?_)
          · try simp only [decide_eq_true_eq, decide_eq_false_iff_not, bne_iff_ne, beq_iff_eq, bne_eq_false_iff_eq, beq_eq_false_iff_ne, ne_eq, Bool.not_eq_true', Bool.not_eq_false'] at hb2_29
            exfalso; omega
          · try simp only [decide_eq_true_eq, decide_eq_false_iff_not, bne_iff_ne, beq_iff_eq, bne_eq_false_iff_eq, beq_eq_false_iff_ne, ne_eq, Bool.not_eq_true', Bool.not_eq_false'] at hb2_29
            refine RunF.gs (b := false) rfl rfl ?_
            refine RunF.gs (b := false) rfl rfl ?_
            refine RunF.gs (b := false) rfl rfl ?_
            refine RunF.gs (b := false) rfl rfl ?_
            refine RunF.gs (b := false) rfl rfl ?_
            refine RunF.q (o_pick_f rfl rfl) rfl ?_
            refine RunF.q (o_assign rfl) rfl ?_
            refine AW.ret ?_
            exact FinQ.ret [] [] (ress_tmp rfl ress_nil) rfl .nil .nil (by rw [show rightM R C [] = false from decide_eq_false (by rintro ⟨h1, h2, h3, h4, h5, _⟩; (try simp only [List.length_nil, Int.natCast_zero] at *); omega)]; exact nR)
        · try simp only [decide_eq_true_eq, decide_eq_false_iff_not, bne_iff_ne, beq_iff_eq, bne_eq_false_iff_eq, beq_eq_false_iff_ne, ne_eq, Bool.not_eq_true', Bool.not_eq_false'] at hb2_18
          refine RunF.gs (b := false) rfl rfl ?_
          refine RunF.gs (b := false) rfl rfl ?_
          refine RunF.gs (b := false) rfl rfl ?_
          refine RunF.gs (b := false) rfl rfl ?_
          refine RunF.gs (b := false) rfl rfl ?_
          refine RunF.gs (b := false) rfl rfl ?_
          refine RunF.gs (b := false) rfl rfl ?_
          refine RunF.gs (b := false) rfl rfl ?_
          refine RunF.gs (b := false) rfl rfl ?_
          refine RunF.q (o_pick_f rfl rfl) rfl ?_
          refine RunF.q (o_move rfl) rfl ?_
          refine RunF.gs (b := false) rfl rfl ?_
          refine RunF.gs (b := false) rfl rfl ?_
          refine RunF.gs (b := false) rfl rfl ?_
          refine RunF.gs (b := false) rfl rfl ?_
          refine RunF.gs (b := false) rfl rfl ?_
          refine RunF.q (o_pick_f rfl rfl) rfl ?_
          refine RunF.q (o_assign rfl) rfl ?_
          refine AW.ret ?_
          exact FinQ.ret [] [] (ress_tmp rfl ress_nil) rfl .nil .nil (by rw [show rightM R C [] = false from decide_eq_false (by rintro ⟨h1, h2, h3, h4, h5, _⟩; (try simp only [List.length_nil, Int.natCast_zero] at *); omega)]; exact nR)
      · try simp only [decide_eq_true_eq, decide_eq_false_iff_not, bne_iff_ne, beq_iff_eq, bne_eq_false_iff_eq, beq_eq_false_iff_ne, ne_eq, Bool.not_eq_true', Bool.not_eq_false'] at hb2_13
        refine RunF.gs (b := false) rfl rfl ?_
        refine RunF.gs (b := false) rfl rfl ?_
        refine RunF.gs (b := false) rfl rfl ?_
        refine RunF.q (o_pick_f rfl rfl) rfl ?_
        refine RunF.q (o_move rfl) rfl ?_
        refine RunF.gs (b := false) rfl rfl ?_
        refine RunF.gs (b := false) rfl rfl ?_
        refine RunF.gs (b := false) rfl rfl ?_
        refine RunF.gs (b := false) rfl rfl ?_
        refine RunF.gs (b := false) rfl rfl ?_
        refine RunF.gs (b := false) rfl rfl ?_
        refine RunF.gs (b := false) rfl rfl ?_
        refine RunF.gs (b := false) rfl rfl ?_
        refine RunF.gs (b := false) rfl rfl ?_
        refine RunF.q (o_pick_f rfl rfl) rfl ?_
        refine RunF.q (o_move rfl) rfl ?_
        refine RunF.gs (b := false) rfl rfl ?_
        refine RunF.gs (b := false) rfl rfl ?_
        refine RunF.gs (b := false) rfl rfl ?_
        refine RunF.gs (b := false) rfl rfl ?_
        refine RunF.gs (b := false) rfl rfl ?_
        refine RunF.q (o_pick_f rfl rfl) rfl ?_
        refine RunF.q (o_assign rfl) rfl ?_
        refine AW.ret ?_
        exact FinQ.ret [] [] (ress_tmp rfl ress_nil) rfl .nil .nil (by rw [show rightM R C [] = false from decide_eq_false (by rintro ⟨h1, h2, h3, h4, h5, _⟩; (try simp only [List.length_nil, Int.natCast_zero] at *); omega)]; exact nR)
    · try simp only [decide_eq_true_eq, decide_eq_false_iff_not, bne_iff_ne, beq_iff_eq, bne_eq_false_iff_eq, beq_eq_false_iff_ne, ne_eq, Bool.not_eq_true', Bool.not_eq_false'] at hb2_8
      refine RunF.gs (b := false) rfl rfl ?_
      refine RunF.gs (b := false) rfl rfl ?_
      refine RunF.gs (b := false) rfl rfl ?_
      refine RunF.q (o_pick_f rfl rfl) rfl ?_
      refine RunF.q (o_move rfl) rfl ?_
      refine RunF.gs (b := false) rfl rfl ?_
      refine RunF.gs (b := false) rfl rfl ?_
      refine RunF.gs (b := false) rfl rfl ?_
      refine RunF.q (o_pick_f rfl rfl) rfl ?_
      refine RunF.q (o_move rfl) rfl ?_
      refine RunF.gs (b := false) rfl rfl ?_
      refine RunF.gs (b := false) rfl rfl ?_
      refine RunF.gs (b := false) rfl rfl ?_
      refine RunF.gs (b := false) rfl rfl ?_
      refine RunF.gs (b := false) rfl rfl ?_
      refine RunF.gs (b := false) rfl rfl ?_
      refine RunF.gs (b := false) rfl rfl ?_
      refine RunF.gs (b := false) rfl rfl ?_
      refine RunF.gs (b := false) rfl rfl ?_
      refine RunF.q (o_pick_f rfl rfl) rfl ?_
      refine RunF.q (o_move rfl) rfl ?_
      refine RunF.gs (b := false) rfl rfl ?_
      refine RunF.gs (b := false) rfl rfl ?_
      refine RunF.gs (b := false) rfl rfl ?_
      refine RunF.gs (b := false) rfl rfl ?_
      refine RunF.gs (b := false) rfl rfl ?_
      refine RunF.q (o_pick_f rfl rfl) rfl ?_
      refine RunF.q (o_assign rfl) rfl ?_
      refine AW.ret ?_
      exact FinQ.ret [] [] (ress_tmp rfl ress_nil) rfl .nil .nil (by rw [show rightM R C [] = false from decide_eq_false (by rintro ⟨h1, h2, h3, h4, h5, _⟩; (try simp only [List.length_nil, Int.natCast_zero] at *); omega)]; exact nR)
  · try simp only [decide_eq_true_eq, decide_eq_false_iff_not, bne_iff_ne, beq_iff_eq, bne_eq_false_iff_eq, beq_eq_false_iff_ne, ne_eq, Bool.not_eq_true', Bool.not_eq_false'] at hb2_3
    refine RunF.gs (b := false) rfl rfl ?_
    refine RunF.gs (b := false) rfl rfl ?_
    refine RunF.gs (b := false) rfl rfl ?_
    refine RunF.q (o_pick_f rfl rfl) rfl ?_
    refine RunF.q (o_move rfl) rfl ?_
    refine RunF.gs (b := false) rfl rfl ?_
    refine RunF.gs (b := false) rfl rfl ?_
    refine RunF.gs (b := false) rfl rfl ?_
    refine RunF.q (o_pick_f rfl rfl) rfl ?_
    refine RunF.q (o_move rfl) rfl ?_
    refine RunF.gs (b := false) rfl rfl ?_
    refine RunF.gs (b := false) rfl rfl ?_
    refine RunF.gs (b := false) rfl rfl ?_
    refine RunF.q (o_pick_f rfl rfl) rfl ?_
    refine RunF.q (o_move rfl) rfl ?_
    refine RunF.gs (b := false) rfl rfl ?_
    refine RunF.gs (b := false) rfl rfl ?_
    refine RunF.gs (b := false) rfl rfl ?_
    refine RunF.gs (b := false) rfl rfl ?_
    refine RunF.gs (b := false) rfl rfl ?_
    refine RunF.gs (b := false) rfl rfl ?_
    refine RunF.gs (b := false) rfl rfl ?_
    refine RunF.gs (b := false) rfl rfl ?_
    refine RunF.gs (b := false) rfl rfl ?_
    refine RunF.q (o_pick_f rfl rfl) rfl ?_
    refine RunF.q (o_move rfl) rfl ?_
    refine RunF.gs (b := false) rfl rfl ?_
    refine RunF.gs (b := false) rfl rfl ?_
    refine RunF.gs (b := false) rfl rfl ?_
    refine RunF.gs (b := false) rfl rfl ?_
    refine RunF.gs (b := false) rfl rfl ?_
    refine RunF.q (o_pick_f rfl rfl) rfl ?_
    refine RunF.q (o_assign rfl) rfl ?_
    refine AW.ret ?_
    exact FinQ.ret [] [] (ress_tmp rfl ress_nil) rfl .nil .nil (by rw [show rightM R C [] = false from decide_eq_false (by rintro ⟨h1, h2, h3, h4, h5, _⟩; (try simp only [List.length_nil, Int.natCast_zero] at *); omega)]; exact nR)

set_option maxHeartbeats 1000000 in
theorem of_nil (r c : Int) : SoundC Try.prog 113 [.agg [.int .i64 r, .int .i64 c, .nilsl]] ⟨[], []⟩ { val := .agg [.int .i64 r, .int .i64 c] } := by
  refine SoundC.of (N := 8) Try.func113 rfl rfl rfl rfl ?_
  refine AW.seq ?_
  refine AW.region (by kernel_rfl) ?_
  refine RunF.w (o_box (nm := 0) rfl rfl rfl) nH ?_
  refine RunF.w (o_alloc (nm := 1) tz132 rfl) nH ?_
  refine AW.seq ?_
  refine AW.region (by kernel_rfl) ?_
  refine RunF.q (o_fieldAddr rfl tk24 rfl ts3 rfl) rfl ?_
  refine RunF.q (o_load rfl tk3 ts3 rfl rfl rfl) rfl ?_
  refine RunF.q (o_fieldAddr rfl tk24 rfl ts3 rfl) rfl ?_
  refine RunF.q (o_load rfl tk3 ts3 rfl rfl rfl) rfl ?_
  refine RunF.q (o_build tk132 tz132 pl132 rfl rfl) rfl ?_
  refine RunF.wn (o_store rfl rfl rfl ts132 rfl rfl) nH ?_
  refine AW.ret ?_
  exact FinQ.ret [] [] (ress_agg rfl tk132 ts132 rfl rfl rfl ress_nil) rfl .nil .nil nR

set_option maxHeartbeats 1000000 in
theorem equalQ_nil  : SoundC Try.prog 125 [.nilsl, .nilsl] ⟨[], []⟩ { val := .bool (decide (([] : List Int) = [])) } := by
  refine SoundC.of (N := 26) Try.func125 rfl rfl rfl rfl ?_
  refine AW.seq ?_
  refine AW.region (by kernel_rfl) ?_
  refine RunF.q (o_assign rfl) rfl ?_
  refine AW.seq ?_
  refine AW.seq ?_
  refine AW.region (by kernel_rfl) ?_
  refine RunF.q (o_move rfl) rfl ?_
  first | refine RunF.q (o_len tk22 rfl) rfl ?_ | refine RunF.q (o_len_nil tk22 rfl) rfl ?_
  refine RunF.q (o_move rfl) rfl ?_
  first | refine RunF.q (o_len tk22 rfl) rfl ?_ | refine RunF.q (o_len_nil tk22 rfl) rfl ?_
  refine RunF.q (o_neq rfl rfl) rfl ?_
  refine AW.cond rfl (fun hc0 => absurd hc0 (by simp)) (fun hc0 => ?_)
  refine AW.skip ?_
  refine AW.seq ?_
  refine AW.seq ?_
  refine AW.region (by kernel_rfl) ?_
  refine RunF.q (o_move rfl) rfl ?_
  first | refine RunF.q (o_len tk22 rfl) rfl ?_ | refine RunF.q (o_len_nil tk22 rfl) rfl ?_
  refine RunF.q (o_move rfl) rfl ?_
  refine AW.block ?_
  refine AW.loop (α := Unit) (fun x : Unit => ([(0, .nilsl), (1, .nilsl), (12, .int .i64 0), (13, .int .i64 0)], ⟨[], []⟩)) (fun x => 0) (fun x => ?_) () ?_
  · skip
    refine AW.seq ?_
    refine AW.region (by kernel_rfl) ?_
    refine RunF.q (o_lss rfl rfl) rfl ?_
    refine AW.seq ?_
    refine AW.cond rfl (fun hc1 => absurd hc1 (by simp)) (fun hc1 => ?_)
    refine AW.exit ?_
    refine AW.seq ?_
    refine AW.region (by kernel_rfl) ?_
    refine RunF.q (o_assign rfl) rfl ?_
    refine AW.ret ?_
    exact FinQ.ret [] [] (ress_tmp rfl ress_nil) rfl .nil .nil nR
  · exact Wk.same rfl (.cons rfl (.cons rfl (.cons rfl (.cons rfl .nil))))

set_option maxHeartbeats 1000000 in
theorem msame_ok (r c r' c' : Int) (A B : List Int) (fa fb : Bool) (hA : A.length ≤ 1000000) : SoundC Try.prog 90 [.agg [.int .i64 r, .int .i64 c, .sl (.r 0) 0 A.length 1 fa], .agg [.int .i64 r', .int .i64 c', .sl (.r 1) 0 B.length 1 fb]] ⟨[ints A, ints B], []⟩ { val := .bool (sameM r c A r' c' B) } := by
  refine SoundC.of (N := 17) Try.func90 rfl rfl rfl rfl ?_
  refine AW.seq ?_
  refine AW.region (by kernel_rfl) ?_
  refine RunF.w (o_box (nm := 0) rfl rfl rfl) nH ?_
  refine RunF.w (o_box (nm := 1) rfl rfl rfl) nH ?_
  refine RunF.q (o_assign rfl) rfl ?_
  refine AW.seq ?_
  refine AW.draws (by kernel_rfl) (by kernel_rfl) ?_
  refine RunV.q (o_load_agg rfl tk24 ts24 rfl rfl rfl nL) rfl ?_
  refine RunV.q (o_call (no := 2) (nr := 2) rfl rfl rfl nC (by rfl) (by exact of_ok r c A fa) (by rfl) rfl rfl nV rfl) (by rfl) ?_
  refine RunV.q (o_load_agg rfl tk24 ts24 rfl rfl rfl nL) rfl ?_
  refine RunV.q (o_call (no := 2) (nr := 2) rfl rfl rfl nC (by rfl) (by exact of_ok r' c' B fb) (by rfl) rfl rfl nV rfl) (by rfl) ?_
  refine RunV.q (o_eqa rfl rfl tk132 ko132 (by rw [eg132]; rfl) rfl) rfl ?_
  refine RunV.br (o_move rfl) rfl (fun hb1_5 => ?_) (fun hb1_5 => ?_)
  · try simp only [decide_eq_true_eq, decide_eq_false_iff_not, bne_iff_ne, beq_iff_eq, bne_eq_false_iff_eq, beq_eq_false_iff_ne, ne_eq, Bool.not_eq_true', Bool.not_eq_false'] at hb1_5
    refine RunV.gq rfl (o_fieldAddr rfl tk24 rfl ts22 rfl) rfl ?_
    refine RunV.gq rfl (o_load rfl tk22 ts22 rfl rfl rfl) rfl ?_
    refine RunV.gq rfl (o_fieldAddr rfl tk24 rfl ts22 rfl) rfl ?_
    refine RunV.gq rfl (o_load rfl tk22 ts22 rfl rfl rfl) rfl ?_
    refine RunV.gq rfl (o_call (no := 2) (nr := 2) rfl rfl rfl nC (by rfl) (by exact equalQ_ok A B fa fb hA) (by rfl) rfl rfl nV rfl) (by rfl) ?_
    refine RunV.q (o_pick_t rfl rfl) rfl ?_
    refine RunV.q (o_assign rfl) rfl ?_
    refine And.intro (by kernel_rfl) ?_
    refine AW.ret ?_
    exact FinQ.ret [] [] (ress_tmp rfl ress_nil) rfl .nil (.cons rfl rfl nP (.cons rfl rfl nP .nil)) (by rw [show sameM r c A r' c' B = decide (A = B) from decide_eq_decide.2 (by simp at hb1_5; simp [hb1_5.1, hb1_5.2])]; exact nR)
  · try simp only [decide_eq_true_eq, decide_eq_false_iff_not, bne_iff_ne, beq_iff_eq, bne_eq_false_iff_eq, beq_eq_false_iff_ne, ne_eq, Bool.not_eq_true', Bool.not_eq_false'] at hb1_5
    refine RunV.gs (b := false) rfl rfl ?_
    refine RunV.gs (b := false) rfl rfl ?_
    refine RunV.gs (b := false) rfl rfl ?_
    refine RunV.gs (b := false) rfl rfl ?_
    refine RunV.gs (b := false) rfl rfl ?_
    refine RunV.q (o_pick_f rfl rfl) rfl ?_
    refine RunV.q (o_assign rfl) rfl ?_
    refine And.intro (by kernel_rfl) ?_
    refine AW.ret ?_
    exact FinQ.ret [] [] (ress_tmp rfl ress_nil) rfl .nil (.cons rfl rfl nP (.cons rfl rfl nP .nil)) (by rw [show sameM r c A r' c' B = false from decide_eq_false (by rintro ⟨rfl, rfl, _⟩; simp at hb1_5)]; exact nR)

set_option maxHeartbeats 1000000 in
theorem msame_nil (r c r' c' : Int) : SoundC Try.prog 90 [.agg [.int .i64 r, .int .i64 c, .nilsl], .agg [.int .i64 r', .int .i64 c', .nilsl]] ⟨[], []⟩ { val := .bool (sameM r c [] r' c' []) } := by
  refine SoundC.of (N := 17) Try.func90 rfl rfl rfl rfl ?_
  refine AW.seq ?_
  refine AW.region (by kernel_rfl) ?_
  refine RunF.w (o_box (nm := 0) rfl rfl rfl) nH ?_
  refine RunF.w (o_box (nm := 1) rfl rfl rfl) nH ?_
  refine RunF.q (o_assign rfl) rfl ?_
  refine AW.seq ?_
  refine AW.draws (by kernel_rfl) (by kernel_rfl) ?_
  refine RunV.q (o_load_agg rfl tk24 ts24 rfl rfl rfl nL) rfl ?_
  refine RunV.q (o_call (no := 2) (nr := 0) rfl rfl rfl nC (by rfl) (by exact of_nil r c) (by rfl) rfl rfl nV rfl) (by rfl) ?_
  refine RunV.q (o_load_agg rfl tk24 ts24 rfl rfl rfl nL) rfl ?_
  refine RunV.q (o_call (no := 2) (nr := 0) rfl rfl rfl nC (by rfl) (by exact of_nil r' c') (by rfl) rfl rfl nV rfl) (by rfl) ?_
  refine RunV.q (o_eqa rfl rfl tk132 ko132 (by rw [eg132]; rfl) rfl) rfl ?_
  refine RunV.br (o_move rfl) rfl (fun hb1_5 => ?_) (fun hb1_5 => ?_)
  · try simp only [decide_eq_true_eq, decide_eq_false_iff_not, bne_iff_ne, beq_iff_eq, bne_eq_false_iff_eq, beq_eq_false_iff_ne, ne_eq, Bool.not_eq_true', Bool.not_eq_false'] at hb1_5
    refine RunV.gq rfl (o_fieldAddr rfl tk24 rfl ts22 rfl) rfl ?_
    refine RunV.gq rfl (o_load rfl tk22 ts22 rfl rfl rfl) rfl ?_
    refine RunV.gq rfl (o_fieldAddr rfl tk24 rfl ts22 rfl) rfl ?_
    refine RunV.gq rfl (o_load rfl tk22 ts22 rfl rfl rfl) rfl ?_
    refine RunV.gq rfl (o_call (no := 2) (nr := 0) rfl rfl rfl nC (by rfl) (by exact equalQ_nil) (by rfl) rfl rfl nV rfl) (by rfl) ?_
    refine RunV.q (o_pick_t rfl rfl) rfl ?_
    refine RunV.q (o_assign rfl) rfl ?_
    refine And.intro (by kernel_rfl) ?_
    refine AW.ret ?_
    exact FinQ.ret [] [] (ress_tmp rfl ress_nil) rfl .nil .nil (by rw [show sameM r c [] r' c' [] = decide (([] : List Int) = []) from decide_eq_decide.2 (by simp at hb1_5; simp [hb1_5.1, hb1_5.2])]; exact nR)
  · try simp only [decide_eq_true_eq, decide_eq_false_iff_not, bne_iff_ne, beq_iff_eq, bne_eq_false_iff_eq, beq_eq_false_iff_ne, ne_eq, Bool.not_eq_true', Bool.not_eq_false'] at hb1_5
    refine RunV.gs (b := false) rfl rfl ?_
    refine RunV.gs (b := false) rfl rfl ?_
    refine RunV.gs (b := false) rfl rfl ?_
    refine RunV.gs (b := false) rfl rfl ?_
    refine RunV.gs (b := false) rfl rfl ?_
    refine RunV.q (o_pick_f rfl rfl) rfl ?_
    refine RunV.q (o_assign rfl) rfl ?_
    refine And.intro (by kernel_rfl) ?_
    refine AW.ret ?_
    exact FinQ.ret [] [] (ress_tmp rfl ress_nil) rfl .nil .nil (by rw [show sameM r c [] r' c' [] = false from decide_eq_false (by rintro ⟨rfl, rfl, _⟩; simp at hb1_5)]; exact nR)

set_option maxHeartbeats 1000000 in
theorem rsame_ok (r c r' c' : Int) (A B : List Int) (fa fb : Bool) (hA : A.length ≤ 1000000) : SoundC Try.prog 28 [.agg [.int .i64 r, .int .i64 c, .sl (.r 0) 0 A.length 1 fa], .agg [.int .i64 r', .int .i64 c', .sl (.r 1) 0 B.length 1 fb]] ⟨[ints A, ints B], []⟩ { val := .bool (sameM r c A r' c' B) } := by
  refine SoundC.of (N := 45) Try.func28 rfl rfl rfl rfl ?_
  refine AW.seq ?_
  refine AW.region (by kernel_rfl) ?_
  refine RunF.w (o_box (nm := 0) rfl rfl rfl) nH ?_
  refine RunF.w (o_box (nm := 1) rfl rfl rfl) nH ?_
  refine RunF.q (o_assign rfl) rfl ?_
  refine AW.seq ?_
  refine AW.seq ?_
  refine AW.region (by kernel_rfl) ?_
  refine RunF.q (o_fieldAddr rfl tk24 rfl ts3 rfl) rfl ?_
  refine RunF.q (o_load rfl tk3 ts3 rfl rfl rfl) rfl ?_
  refine RunF.q (o_fieldAddr rfl tk24 rfl ts3 rfl) rfl ?_
  refine RunF.q (o_load rfl tk3 ts3 rfl rfl rfl) rfl ?_
  refine RunF.q (o_neq rfl rfl) rfl ?_
  refine RunF.br (o_move rfl) rfl (fun hb1_5 => ?_) (fun hb1_5 => ?_)
  · try simp only [decide_eq_true_eq, decide_eq_false_iff_not, bne_iff_ne, beq_iff_eq, bne_eq_false_iff_eq, beq_eq_false_iff_ne, ne_eq, Bool.not_eq_true', Bool.not_eq_false'] at hb1_5
    refine RunF.gs (b := true) rfl rfl ?_
    refine RunF.gs (b := true) rfl rfl ?_
    refine RunF.gs (b := true) rfl rfl ?_
    refine RunF.gs (b := true) rfl rfl ?_
    refine RunF.gs (b := true) rfl rfl ?_
    refine RunF.q (o_pick_t rfl rfl) rfl ?_
    refine RunF.q (o_move rfl) rfl ?_
    refine RunF.gs (b := true) rfl rfl ?_
    refine RunF.gs (b := true) rfl rfl ?_
    refine RunF.gs (b := true) rfl rfl ?_
    refine RunF.gs (b := true) rfl rfl ?_
    refine RunF.gs (b := true) rfl rfl ?_
    refine RunF.gs (b := true) rfl rfl ?_
    refine RunF.gs (b := true) rfl rfl ?_
    refine RunF.q (o_pick_t rfl rfl) rfl ?_
    refine AW.cond rfl (fun hc0 => ?_) (fun hc0 => absurd hc0 (by simp))
    refine AW.seq ?_
    refine AW.region (by kernel_rfl) ?_
    refine RunF.q (o_assign rfl) rfl ?_
    refine AW.ret ?_
    first | (exact absurd rfl (by simp)) | exact FinQ.ret [] [] (ress_tmp rfl ress_nil) rfl .nil (.cons rfl rfl nP (.cons rfl rfl nP .nil)) (by rw [show sameM r c A r' c' B = false from decide_eq_false (by rintro ⟨h1, h2, h3⟩; first | omega | exact hc0 (by rw [h3]))]; exact nR)
  · try simp only [decide_eq_true_eq, decide_eq_false_iff_not, bne_iff_ne, beq_iff_eq, bne_eq_false_iff_eq, beq_eq_false_iff_ne, ne_eq, Bool.not_eq_true', Bool.not_eq_false'] at hb1_5
    refine RunF.gq rfl (o_fieldAddr rfl tk24 rfl ts3 rfl) rfl ?_
    refine RunF.gq rfl (o_load rfl tk3 ts3 rfl rfl rfl) rfl ?_
    refine RunF.gq rfl (o_fieldAddr rfl tk24 rfl ts3 rfl) rfl ?_
    refine RunF.gq rfl (o_load rfl tk3 ts3 rfl rfl rfl) rfl ?_
    refine RunF.gq rfl (o_neq rfl rfl) rfl ?_
    refine RunF.q (o_pick_f rfl rfl) rfl ?_
    refine RunF.br (o_move rfl) rfl (fun hb1_12 => ?_) (fun hb1_12 => ?_)
    · try simp only [decide_eq_true_eq, decide_eq_false_iff_not, bne_iff_ne, beq_iff_eq, bne_eq_false_iff_eq, beq_eq_false_iff_ne, ne_eq, Bool.not_eq_true', Bool.not_eq_false'] at hb1_12
      refine RunF.gs (b := true) rfl rfl ?_
      refine RunF.gs (b := true) rfl rfl ?_
      refine RunF.gs (b := true) rfl rfl ?_
      refine RunF.gs (b := true) rfl rfl ?_
      refine RunF.gs (b := true) rfl rfl ?_
      refine RunF.gs (b := true) rfl rfl ?_
      refine RunF.gs (b := true) rfl rfl ?_
      refine RunF.q (o_pick_t rfl rfl) rfl ?_
      refine AW.cond rfl (fun hc0 => ?_) (fun hc0 => absurd hc0 (by simp))
      refine AW.seq ?_
      refine AW.region (by kernel_rfl) ?_
      refine RunF.q (o_assign rfl) rfl ?_
      refine AW.ret ?_
      first | (exact absurd rfl (by simp)) | exact FinQ.ret [] [] (ress_tmp rfl ress_nil) rfl .nil (.cons rfl rfl nP (.cons rfl rfl nP .nil)) (by rw [show sameM r c A r' c' B = false from decide_eq_false (by rintro ⟨h1, h2, h3⟩; first | omega | exact hc0 (by rw [h3]))]; exact nR)
    · try simp only [decide_eq_true_eq, decide_eq_false_iff_not, bne_iff_ne, beq_iff_eq, bne_eq_false_iff_eq, beq_eq_false_iff_ne, ne_eq, Bool.not_eq_true', Bool.not_eq_false'] at hb1_12
      refine RunF.gq rfl (o_fieldAddr rfl tk24 rfl ts22 rfl) rfl ?_
      refine RunF.gq rfl (o_load rfl tk22 ts22 rfl rfl rfl) rfl ?_
      first | refine RunF.gq rfl (o_len tk22 rfl) rfl ?_ | refine RunF.gq rfl (o_len_nil tk22 rfl) rfl ?_
      refine RunF.gq rfl (o_fieldAddr rfl tk24 rfl ts22 rfl) rfl ?_
      refine RunF.gq rfl (o_load rfl tk22 ts22 rfl rfl rfl) rfl ?_
      first | refine RunF.gq rfl (o_len tk22 rfl) rfl ?_ | refine RunF.gq rfl (o_len_nil tk22 rfl) rfl ?_
      refine RunF.gq rfl (o_neq rfl rfl) rfl ?_
      refine RunF.q (o_pick_f rfl rfl) rfl ?_
      refine AW.cond rfl (fun hc0 => ?_) (fun hc0 => ?_)
      · try simp only [decide_eq_true_eq, decide_eq_false_iff_not, bne_iff_ne, beq_iff_eq, bne_eq_false_iff_eq, beq_eq_false_iff_ne, ne_eq, Bool.not_eq_true', Bool.not_eq_false'] at hc0
        refine AW.seq ?_
        refine AW.region (by kernel_rfl) ?_
        refine RunF.q (o_assign rfl) rfl ?_
        refine AW.ret ?_
        first | (exact absurd rfl (by simp)) | exact FinQ.ret [] [] (ress_tmp rfl ress_nil) rfl .nil (.cons rfl rfl nP (.cons rfl rfl nP .nil)) (by rw [show sameM r c A r' c' B = false from decide_eq_false (by rintro ⟨h1, h2, h3⟩; first | omega | exact hc0 (by rw [h3]))]; exact nR)
      · try simp only [decide_eq_true_eq, decide_eq_false_iff_not, bne_iff_ne, beq_iff_eq, bne_eq_false_iff_eq, beq_eq_false_iff_ne, ne_eq, Bool.not_eq_true', Bool.not_eq_false'] at hc0
        refine AW.skip ?_
        refine AW.seq ?_
        refine AW.seq ?_
        refine AW.region (by kernel_rfl) ?_
        refine RunF.q (o_assign rfl) rfl ?_
        refine AW.block ?_
        refine AW.loop (α := {i : Nat // i ≤ A.length ∧ ∀ j, j < i → A.getD j 0 = B.getD j 0}) (fun x : {i : Nat // i ≤ A.length ∧ ∀ j, j < i → A.getD j 0 = B.getD j 0} => ([(2, .ptr (.o 0) 0), (3, .ptr (.o 1) 0), (5, .int .i64 x.1)], ⟨[ints A, ints B], [some [.int .i64 r, .int .i64 c, .sl (.r 0) 0 A.length 1 fa], some [.int .i64 r', .int .i64 c', .sl (.r 1) 0 B.length 1 fb]]⟩)) (fun x => A.length - x.1) (fun x => ?_) ⟨0, by omega, fun j hj => absurd hj (by omega)⟩ ?_
        · obtain ⟨i, hx, hxs⟩ := x
          try dsimp only at hx hxs
          try dsimp only
          refine AW.seq ?_
          refine AW.seq ?_
          refine AW.region (by kernel_rfl) ?_
          refine RunF.q (o_move rfl) rfl ?_
          refine RunF.q (o_fieldAddr rfl tk24 rfl ts22 rfl) rfl ?_
          refine RunF.q (o_load rfl tk22 ts22 rfl rfl rfl) rfl ?_
          first | refine RunF.q (o_len tk22 rfl) rfl ?_ | refine RunF.q (o_len_nil tk22 rfl) rfl ?_
          refine RunF.q (o_lss rfl rfl) rfl ?_
          refine AW.cond rfl (fun hc1 => ?_) (fun hc1 => ?_)
          · try simp only [decide_eq_true_eq, decide_eq_false_iff_not, bne_iff_ne, beq_iff_eq, bne_eq_false_iff_eq, beq_eq_false_iff_ne, ne_eq, Bool.not_eq_true', Bool.not_eq_false'] at hc1
            refine AW.skip ?_
            refine AW.seq ?_
            refine AW.block ?_
            refine AW.seq ?_
            refine AW.draws (by kernel_rfl) (by kernel_rfl) ?_
            refine RunV.q (o_fieldAddr rfl tk24 rfl ts22 rfl) rfl ?_
            refine RunV.q (o_load rfl tk22 ts22 rfl rfl rfl) rfl ?_
            refine RunV.q (o_move rfl) rfl ?_
            refine RunV.q (o_indexAddr (m := i) tk22 ts30 rfl rfl (by omega) (by omega)) rfl ?_
            refine RunV.q (o_load rfl tk30 ts30 rfl rfl (ints_getD A i (by omega))) rfl ?_
            refine RunV.q (o_fieldAddr rfl tk24 rfl ts22 rfl) rfl ?_
            refine RunV.q (o_load rfl tk22 ts22 rfl rfl rfl) rfl ?_
            refine RunV.q (o_move rfl) rfl ?_
            refine RunV.q (o_indexAddr (m := i) tk22 ts30 rfl rfl (by omega) (by omega)) rfl ?_
            refine RunV.q (o_load rfl tk30 ts30 rfl rfl (ints_getD B i (by omega))) rfl ?_
            refine RunV.q (o_neq rfl rfl) rfl ?_
            refine And.intro (by kernel_rfl) ?_
            refine AW.cond rfl (fun hc2 => ?_) (fun hc2 => ?_)
            · try simp only [decide_eq_true_eq, decide_eq_false_iff_not, bne_iff_ne, beq_iff_eq, bne_eq_false_iff_eq, beq_eq_false_iff_ne, ne_eq, Bool.not_eq_true', Bool.not_eq_false'] at hc2
              refine AW.seq ?_
              refine AW.region (by kernel_rfl) ?_
              refine RunF.q (o_assign rfl) rfl ?_
              refine AW.ret ?_
              exact FinQ.ret [] [] (ress_tmp rfl ress_nil) rfl .nil (.cons rfl rfl nP (.cons rfl rfl nP .nil)) (by rw [show sameM r c A r' c' B = false from decide_eq_false (fun h => hc2 (by rw [h.2.2]))]; exact nR)
            · try simp only [decide_eq_true_eq, decide_eq_false_iff_not, bne_iff_ne, beq_iff_eq, bne_eq_false_iff_eq, beq_eq_false_iff_ne, ne_eq, Bool.not_eq_true', Bool.not_eq_false'] at hc2
              refine AW.skip ?_
              refine AW.region (by kernel_rfl) ?_
              refine RunF.q (o_move rfl) rfl ?_
              refine RunF.q (o_add rfl rfl (by first | exact i64_in _ (by omega) | rfl)) rfl ?_
              refine RunF.q (o_assign rfl) rfl ?_
              exact ⟨⟨i + 1, by omega, upto_succ hxs hc2⟩, Wk.same rfl (.cons rfl (.cons rfl (.cons rfl .nil))), by dsimp only; omega⟩
          · try simp only [decide_eq_true_eq, decide_eq_false_iff_not, bne_iff_ne, beq_iff_eq, bne_eq_false_iff_eq, beq_eq_false_iff_ne, ne_eq, Bool.not_eq_true', Bool.not_eq_false'] at hc1
            refine AW.exit ?_
            refine AW.seq ?_
            refine AW.region (by kernel_rfl) ?_
            refine RunF.q (o_assign rfl) rfl ?_
            refine AW.ret ?_
            exact FinQ.ret [] [] (ress_tmp rfl ress_nil) rfl .nil (.cons rfl rfl nP (.cons rfl rfl nP .nil)) (by rw [show sameM r c A r' c' B = true from decide_eq_true ⟨by omega, by omega, eq_of_getD (by omega) (fun j hj => hxs j (by omega))⟩]; exact nR)
        · exact Wk.same rfl (.cons rfl (.cons rfl (.cons rfl .nil)))

set_option maxHeartbeats 1000000 in
theorem rsame_nil (r c r' c' : Int) : SoundC Try.prog 28 [.agg [.int .i64 r, .int .i64 c, .nilsl], .agg [.int .i64 r', .int .i64 c', .nilsl]] ⟨[], []⟩ { val := .bool (sameM r c [] r' c' []) } := by
  refine SoundC.of (N := 45) Try.func28 rfl rfl rfl rfl ?_
  refine AW.seq ?_
  refine AW.region (by kernel_rfl) ?_
  refine RunF.w (o_box (nm := 0) rfl rfl rfl) nH ?_
  refine RunF.w (o_box (nm := 1) rfl rfl rfl) nH ?_
  refine RunF.q (o_assign rfl) rfl ?_
  refine AW.seq ?_
  refine AW.seq ?_
  refine AW.region (by kernel_rfl) ?_
  refine RunF.q (o_fieldAddr rfl tk24 rfl ts3 rfl) rfl ?_
  refine RunF.q (o_load rfl tk3 ts3 rfl rfl rfl) rfl ?_
  refine RunF.q (o_fieldAddr rfl tk24 rfl ts3 rfl) rfl ?_
  refine RunF.q (o_load rfl tk3 ts3 rfl rfl rfl) rfl ?_
  refine RunF.q (o_neq rfl rfl) rfl ?_
  refine RunF.br (o_move rfl) rfl (fun hb1_5 => ?_) (fun hb1_5 => ?_)
  · try simp only [decide_eq_true_eq, decide_eq_false_iff_not, bne_iff_ne, beq_iff_eq, bne_eq_false_iff_eq, beq_eq_false_iff_ne, ne_eq, Bool.not_eq_true', Bool.not_eq_false'] at hb1_5
    refine RunF.gs (b := true) rfl rfl ?_
    refine RunF.gs (b := true) rfl rfl ?_
    refine RunF.gs (b := true) rfl rfl ?_
    refine RunF.gs (b := true) rfl rfl ?_
    refine RunF.gs (b := true) rfl rfl ?_
    refine RunF.q (o_pick_t rfl rfl) rfl ?_
    refine RunF.q (o_move rfl) rfl ?_
    refine RunF.gs (b := true) rfl rfl ?_
    refine RunF.gs (b := true) rfl rfl ?_
    refine RunF.gs (b := true) rfl rfl ?_
    refine RunF.gs (b := true) rfl rfl ?_
    refine RunF.gs (b := true) rfl rfl ?_
    refine RunF.gs (b := true) rfl rfl ?_
    refine RunF.gs (b := true) rfl rfl ?_
    refine RunF.q (o_pick_t rfl rfl) rfl ?_
    refine AW.cond rfl (fun hc0 => ?_) (fun hc0 => absurd hc0 (by simp))
    refine AW.seq ?_
    refine AW.region (by kernel_rfl) ?_
    refine RunF.q (o_assign rfl) rfl ?_
    refine AW.ret ?_
    first | (exact absurd rfl (by simp)) | exact FinQ.ret [] [] (ress_tmp rfl ress_nil) rfl .nil .nil (by rw [show sameM r c [] r' c' [] = false from decide_eq_false (by rintro ⟨h1, h2, h3⟩; first | omega | exact hc0 (by rw [h3]))]; exact nR)
  · try simp only [decide_eq_true_eq, decide_eq_false_iff_not, bne_iff_ne, beq_iff_eq, bne_eq_false_iff_eq, beq_eq_false_iff_ne, ne_eq, Bool.not_eq_true', Bool.not_eq_false'] at hb1_5
    refine RunF.gq rfl (o_fieldAddr rfl tk24 rfl ts3 rfl) rfl ?_
    refine RunF.gq rfl (o_load rfl tk3 ts3 rfl rfl rfl) rfl ?_
    refine RunF.gq rfl (o_fieldAddr rfl tk24 rfl ts3 rfl) rfl ?_
    refine RunF.gq rfl (o_load rfl tk3 ts3 rfl rfl rfl) rfl ?_
    refine RunF.gq rfl (o_neq rfl rfl) rfl ?_
    refine RunF.q (o_pick_f rfl rfl) rfl ?_
    refine RunF.br (o_move rfl) rfl (fun hb1_12 => ?_) (fun hb1_12 => ?_)
    · try simp only [decide_eq_true_eq, decide_eq_false_iff_not, bne_iff_ne, beq_iff_eq, bne_eq_false_iff_eq, beq_eq_false_iff_ne, ne_eq, Bool.not_eq_true', Bool.not_eq_false'] at hb1_12
      refine RunF.gs (b := true) rfl rfl ?_
      refine RunF.gs (b := true) rfl rfl ?_
      refine RunF.gs (b := true) rfl rfl ?_
      refine RunF.gs (b := true) rfl rfl ?_
      refine RunF.gs (b := true) rfl rfl ?_
      refine RunF.gs (b := true) rfl rfl ?_
      refine RunF.gs (b := true) rfl rfl ?_
      refine RunF.q (o_pick_t rfl rfl) rfl ?_
      refine AW.cond rfl (fun hc0 => ?_) (fun hc0 => absurd hc0 (by simp))
      refine AW.seq ?_
      refine AW.region (by kernel_rfl) ?_
      refine RunF.q (o_assign rfl) rfl ?_
      refine AW.ret ?_
      first | (exact absurd rfl (by simp)) | exact FinQ.ret [] [] (ress_tmp rfl ress_nil) rfl .nil .nil (by rw [show sameM r c [] r' c' [] = false from decide_eq_false (by rintro ⟨h1, h2, h3⟩; first | omega | exact hc0 (by rw [h3]))]; exact nR)
    · try simp only [decide_eq_true_eq, decide_eq_false_iff_not, bne_iff_ne, beq_iff_eq, bne_eq_false_iff_eq, beq_eq_false_iff_ne, ne_eq, Bool.not_eq_true', Bool.not_eq_false'] at hb1_12
      refine RunF.gq rfl (o_fieldAddr rfl tk24 rfl ts22 rfl) rfl ?_
      refine RunF.gq rfl (o_load rfl tk22 ts22 rfl rfl rfl) rfl ?_
      first | refine RunF.gq rfl (o_len tk22 rfl) rfl ?_ | refine RunF.gq rfl (o_len_nil tk22 rfl) rfl ?_
      refine RunF.gq rfl (o_fieldAddr rfl tk24 rfl ts22 rfl) rfl ?_
      refine RunF.gq rfl (o_load rfl tk22 ts22 rfl rfl rfl) rfl ?_
      first | refine RunF.gq rfl (o_len tk22 rfl) rfl ?_ | refine RunF.gq rfl (o_len_nil tk22 rfl) rfl ?_
      refine RunF.gq rfl (o_neq rfl rfl) rfl ?_
      refine RunF.q (o_pick_f rfl rfl) rfl ?_
      refine AW.cond rfl (fun hc0 => absurd hc0 (by simp)) (fun hc0 => ?_)
      refine AW.skip ?_
      refine AW.seq ?_
      refine AW.seq ?_
      refine AW.region (by kernel_rfl) ?_
      refine RunF.q (o_assign rfl) rfl ?_
      refine AW.block ?_
      refine AW.loop (α := Unit) (fun x : Unit => ([(2, .ptr (.o 0) 0), (3, .ptr (.o 1) 0), (5, .int .i64 0)], ⟨[], [some [.int .i64 r, .int .i64 c, .nilsl], some [.int .i64 r', .int .i64 c', .nilsl]]⟩)) (fun x => 0) (fun x => ?_) () ?_
      · skip
        refine AW.seq ?_
        refine AW.seq ?_
        refine AW.region (by kernel_rfl) ?_
        refine RunF.q (o_move rfl) rfl ?_
        refine RunF.q (o_fieldAddr rfl tk24 rfl ts22 rfl) rfl ?_
        refine RunF.q (o_load rfl tk22 ts22 rfl rfl rfl) rfl ?_
        first | refine RunF.q (o_len tk22 rfl) rfl ?_ | refine RunF.q (o_len_nil tk22 rfl) rfl ?_
        refine RunF.q (o_lss rfl rfl) rfl ?_
        refine AW.cond rfl (fun hc1 => absurd hc1 (by simp)) (fun hc1 => ?_)
        refine AW.exit ?_
        refine AW.seq ?_
        refine AW.region (by kernel_rfl) ?_
        refine RunF.q (o_assign rfl) rfl ?_
        refine AW.ret ?_
        exact FinQ.ret [] [] (ress_tmp rfl ress_nil) rfl .nil .nil (by rw [show sameM r c [] r' c' [] = true from decide_eq_true ⟨by omega, by omega, rfl⟩]; exact nR)
      · exact Wk.same rfl (.cons rfl (.cons rfl (.cons rfl .nil)))

end Go.Proofs.Ytnkijhpikeokfaa

/- The example at the head of the layer's statements: a closed run. -/
namespace Go.Proofs.Ytnkijhpikeokfaa
open Go Go.Sym
theorem shown03_ok : SoundC Try.prog 24 [] ⟨[], []⟩ { val := .bool true } := .true (noO_sound _) (F := 400) (n := 40) (by kernel_rfl)
end Go.Proofs.Ytnkijhpikeokfaa

/- Evens: what is made even is the same turned, in bounds, and stays. -/
namespace Go.Proofs.Ytnkijhpikeokfaa
open Go Go.Sym Go.IntWalk

theorem rright_is {R C : Int} {L : List Int} {f z : Bool} (h : rightM R C L = z) : SoundC Try.prog 25 [.agg [.int .i64 R, .int .i64 C, .sl (.r 0) 0 L.length 1 f]] ⟨[ints L], []⟩ { val := .bool z } := by rw [← h]; exact rright_ok R C L f
theorem mright_is {R C : Int} {L : List Int} {f z : Bool} (h : rightM R C L = z) : SoundC Try.prog 33 [.agg [.int .i64 R, .int .i64 C, .sl (.r 0) 0 L.length 1 f]] ⟨[ints L], []⟩ { val := .bool z } := by rw [← h]; exact mright_ok R C L f
theorem rsame_is {r c r' c' : Int} {A B : List Int} {fa fb z : Bool} (hA : A.length ≤ 1000000) (h : sameM r c A r' c' B = z) : SoundC Try.prog 28 [.agg [.int .i64 r, .int .i64 c, .sl (.r 0) 0 A.length 1 fa], .agg [.int .i64 r', .int .i64 c', .sl (.r 1) 0 B.length 1 fb]] ⟨[ints A, ints B], []⟩ { val := .bool z } := by
  rw [← h]; exact rsame_ok r c r' c' A B fa fb hA
theorem sameM_refl (r c : Int) (A : List Int) : sameM r c A r c A = true := by simp [sameM]

/-- what is right, in natural numbers -/
theorem rightM_nat {R C : Int} {L : List Int} (h : rightM R C L = true) : ∃ r c : Nat, R = r ∧ C = c ∧ 0 < r ∧ r ≤ 8 ∧ 0 < c ∧ c ≤ 8 ∧ L.length = r * c ∧ ∀ x ∈ L, inQ x := by
  have h := of_decide_eq_true h
  obtain ⟨h1, h2, h3, h4, h5, h6⟩ := h
  obtain ⟨r, rfl⟩ := Int.eq_ofNat_of_zero_le (show 0 ≤ R by omega)
  obtain ⟨c, rfl⟩ := Int.eq_ofNat_of_zero_le (show 0 ≤ C by omega)
  exact ⟨r, c, rfl, rfl, by omega, by omega, by omega, by omega, by rw [← Int.natCast_mul] at h5; omega, h6⟩
theorem rightM_of {r c : Nat} {L : List Int} (hR : 0 < r) (hr : r ≤ 8) (hC : 0 < c) (hc : c ≤ 8) (hL : L.length = r * c) (hQ : ∀ x ∈ L, inQ x) : rightM r c L = true :=
  decide_eq_true ⟨by omega, by omega, by omega, by omega, by rw [hL]; simp, hQ⟩

theorem half1_inQ {x y : Int} (hx : inQ x) (hy : inQ y) : inQ (half1 (x + y)) := by
  unfold inQ half1 at *; split <;> omega
theorem half1_comm (x y : Int) : half1 (x + y) = half1 (y + x) := by rw [Int.add_comm]
theorem half1_twice (x : Int) : half1 (x + x) = x := by unfold half1; split <;> omega

theorem tab_getD {F : Nat → Nat → Int} {c t j : Nat} (h : j < t) : (tab F c t).getD j 0 = F (j / c) (j % c) := by
  rw [List.getD_eq_getElem?_getD]
  simp [tab, h]
theorem tab_at {F : Nat → Nat → Int} {r c i k : Nat} (hi : i < r) (hk : k < c) : (tab F c (r * c)).getD (i * c + k) 0 = F i k := by
  rw [tab_getD (idx_lt hi hk)]
  have h1 : (i * c + k) / c = i := by rw [Nat.add_comm, Nat.add_mul_div_right _ _ (by omega), Nat.div_eq_of_lt hk, Nat.zero_add]
  have h2 : (i * c + k) % c = k := by rw [Nat.add_comm, Nat.add_mul_mod_self_right, Nat.mod_eq_of_lt hk]
  rw [h1, h2]
theorem tab_congr {F G : Nat → Nat → Int} {r c : Nat} (h : ∀ i k, i < r → k < c → F i k = G i k) : tab F c (r * c) = tab G c (r * c) := by
  unfold tab
  apply List.map_congr_left
  intro j hj
  have hj := List.mem_range.1 hj
  have hc : 0 < c := by rcases Nat.eq_zero_or_pos c with h0 | h0; · subst h0; simp at hj
                        exact h0
  exact h _ _ ((Nat.div_lt_iff_lt_mul hc).2 hj) (Nat.mod_lt _ hc)
theorem tab_self {L : List Int} {r c : Nat} (hL : L.length = r * c) : tab (fun i k => L.getD (i * c + k) 0) c (r * c) = L := by
  refine eq_of_getD (by rw [tab_length, hL]) fun j hj => ?_
  rw [tab_length] at hj
  rw [tab_getD hj]
  congr 1
  rw [Nat.mul_comm]
  exact Nat.div_add_mod j c

theorem evenL_length (L : List Int) (r : Nat) : (evenL L r).length = r * r := by simp [evenL, zipM, tab_length]
theorem trL_at {L : List Int} {r c i k : Nat} (hi : i < c) (hk : k < r) : (trL L c r).getD (i * r + k) 0 = L.getD (k * c + i) 0 := by
  unfold trL; rw [tab_at hi hk]
theorem evenL_at {L : List Int} {r i k : Nat} (hi : i < r) (hk : k < r) : (evenL L r).getD (i * r + k) 0 = half1 (L.getD (i * r + k) 0 + L.getD (k * r + i) 0) := by
  unfold evenL zipM; rw [tab_at hi hk, trL_at hi hk]; rfl
theorem evenL_inQ {L : List Int} (h : ∀ x ∈ L, inQ x) (r : Nat) : ∀ x ∈ evenL L r, inQ x := by
  intro y hy
  simp only [evenL, zipM, tab, List.mem_map] at hy
  obtain ⟨j, _, rfl⟩ := hy
  exact half1_inQ (getD_inQ h _) (getD_inQ (trL_inQ h _ _) _)
theorem evenL_turned (L : List Int) (r : Nat) : trL (evenL L r) r r = evenL L r := by
  have h1 : trL (evenL L r) r r = tab (fun i k => (evenL L r).getD (i * r + k) 0) r (r * r) := by
    unfold trL
    refine tab_congr fun i k hi hk => ?_
    rw [evenL_at hi hk, evenL_at hk hi, half1_comm]
  rw [h1, tab_self (evenL_length L r)]
theorem evenL_of_turned {L : List Int} {r : Nat} (hL : L.length = r * r) (h : trL L r r = L) : evenL L r = L := by
  have h1 : evenL L r = tab (fun i k => L.getD (i * r + k) 0) r (r * r) := by
    unfold evenL zipM
    refine tab_congr fun i k hi hk => ?_
    rw [h]
    exact half1_twice _
  rw [h1, tab_self hL]
theorem evenL_again (L : List Int) (r : Nat) : evenL (evenL L r) r = evenL L r := evenL_of_turned (evenL_length L r) (evenL_turned L r)

set_option maxHeartbeats 1000000 in
theorem matEvens_no (R C : Int) (L : List Int) (hn : rightM R C L = false) : SoundC Try.prog 4 [.agg [.int .i64 R, .int .i64 C, .sl (.r 0) 0 L.length 1 false]] ⟨[ints L], []⟩ { val := .bool true } := by
  refine SoundC.of (N := 65) Try.func4 rfl rfl rfl rfl ?_
  refine AW.seq ?_
  refine AW.region (by kernel_rfl) ?_
  refine RunF.w (o_box (nm := 0) rfl rfl rfl) nH ?_
  refine RunF.q (o_assign rfl) rfl ?_
  refine AW.seq ?_
  refine AW.region (by kernel_rfl) ?_
  refine RunF.q (o_call (no := 1) (nr := 1) rfl rfl rfl nC (by rfl) (by exact shown03_ok) (by rfl) rfl rfl nV rfl) (by rfl) ?_
  refine RunF.q (o_assign rfl) rfl ?_
  refine AW.seq ?_
  refine AW.seq ?_
  refine AW.region (by kernel_rfl) ?_
  refine RunF.q (o_load_agg rfl tk24 ts24 rfl rfl rfl nL) rfl ?_
  refine RunF.q (o_call (no := 1) (nr := 1) rfl rfl rfl nC (by rfl) (by exact rright_is hn) (by rfl) rfl rfl nV rfl) (by rfl) ?_
  refine RunF.q (o_not rfl) rfl ?_
  refine AW.cond rfl (fun hc0 => ?_) (fun hc0 => absurd hc0 (by simp))
  refine AW.seq ?_
  refine AW.region (by kernel_rfl) ?_
  refine RunF.q (o_move rfl) rfl ?_
  refine RunF.q (o_assign rfl) rfl ?_
  refine AW.ret ?_
  exact FinQ.ret [] [] (ress_tmp rfl ress_nil) rfl .nil (.cons rfl rfl nP .nil) nR

set_option maxHeartbeats 1000000 in
theorem matEvens_ns (r c : Nat) (hR : 0 < r) (hr : r ≤ 8) (hC : 0 < c) (hc : c ≤ 8) (L : List Int) (hL : L.length = r * c) (hQ : ∀ x ∈ L, inQ x) (hne : r ≠ c) : SoundC Try.prog 4 [.agg [.int .i64 r, .int .i64 c, .sl (.r 0) 0 L.length 1 false]] ⟨[ints L], []⟩ { val := .bool true } := by
  refine SoundC.of (N := 65) Try.func4 rfl rfl rfl rfl ?_
  refine AW.seq ?_
  refine AW.region (by kernel_rfl) ?_
  refine RunF.w (o_box (nm := 0) rfl rfl rfl) nH ?_
  refine RunF.q (o_assign rfl) rfl ?_
  refine AW.seq ?_
  refine AW.region (by kernel_rfl) ?_
  refine RunF.q (o_call (no := 1) (nr := 1) rfl rfl rfl nC (by rfl) (by exact shown03_ok) (by rfl) rfl rfl nV rfl) (by rfl) ?_
  refine RunF.q (o_assign rfl) rfl ?_
  refine AW.seq ?_
  refine AW.seq ?_
  refine AW.region (by kernel_rfl) ?_
  refine RunF.q (o_load_agg rfl tk24 ts24 rfl rfl rfl nL) rfl ?_
  refine RunF.q (o_call (no := 1) (nr := 1) rfl rfl rfl nC (by rfl) (by exact rright_is (rightM_of hR hr hC hc hL hQ)) (by rfl) rfl rfl nV rfl) (by rfl) ?_
  refine RunF.q (o_not rfl) rfl ?_
  refine AW.cond rfl (fun hc0 => absurd hc0 (by simp)) (fun hc0 => ?_)
  refine AW.skip ?_
  refine AW.seq ?_
  refine AW.region (by kernel_rfl) ?_
  refine RunF.q (o_load_agg rfl tk24 ts24 rfl rfl rfl nL) rfl ?_
  refine RunF.q (o_call (no := 1) (nr := 1) rfl rfl rfl nC (by rfl) (by exact meven_no r c hr hc hR hC hne L hL false) (by rfl) rfl rfl nV rfl) (by rfl) ?_
  refine RunF.q (o_move rfl) rfl ?_
  refine RunF.q (o_extract rfl rfl) rfl ?_
  refine RunF.q (o_extract rfl rfl) rfl ?_
  refine RunF.q (o_extract rfl rfl) rfl ?_
  refine RunF.w (o_alloc (nm := 1) tz24 rfl) nH ?_
  refine RunF.wn (o_store rfl rfl rfl ts24 rfl rfl) nH ?_
  refine RunF.q (o_assign rfl) rfl ?_
  refine RunF.q (o_assign rfl) rfl ?_
  refine AW.seq ?_
  refine AW.seq ?_
  refine AW.region (by kernel_rfl) ?_
  refine RunF.q (o_fieldAddr rfl tk24 rfl ts3 rfl) rfl ?_
  refine RunF.q (o_load rfl tk3 ts3 rfl rfl rfl) rfl ?_
  refine RunF.q (o_fieldAddr rfl tk24 rfl ts3 rfl) rfl ?_
  refine RunF.q (o_load rfl tk3 ts3 rfl rfl rfl) rfl ?_
  refine RunF.q (o_neq rfl rfl) rfl ?_
  refine AW.cond rfl (fun hc1 => ?_) (fun hc1 => absurd hc1 (by simp; omega))
  refine AW.seq ?_
  refine AW.region (by kernel_rfl) ?_
  refine RunF.q (o_move rfl) rfl ?_
  refine RunF.q (o_move rfl) rfl ?_
  refine RunF.gq rfl (o_move rfl) rfl ?_
  refine RunF.gq rfl (o_eql rfl rfl) rfl ?_
  refine RunF.q (o_pick_t rfl rfl) rfl ?_
  refine RunF.q (o_assign rfl) rfl ?_
  refine AW.ret ?_
  exact FinQ.ret [] [] (ress_tmp rfl ress_nil) rfl .nil (.cons rfl rfl nP .nil) nR

set_option maxHeartbeats 1000000 in
theorem matEvens_sq (r : Nat) (hR : 0 < r) (hr : r ≤ 8) (L : List Int) (hL : L.length = r * r) (hQ : ∀ x ∈ L, inQ x) : SoundC Try.prog 4 [.agg [.int .i64 r, .int .i64 r, .sl (.r 0) 0 L.length 1 false]] ⟨[ints L], []⟩ { val := .bool true } := by
  have hE := evenL_length L r
  have hEQ := evenL_inQ hQ r
  have hsm := small_mul hr hr
  refine SoundC.of (N := 65) Try.func4 rfl rfl rfl rfl ?_
  refine AW.seq ?_
  refine AW.region (by kernel_rfl) ?_
  refine RunF.w (o_box (nm := 0) rfl rfl rfl) nH ?_
  refine RunF.q (o_assign rfl) rfl ?_
  refine AW.seq ?_
  refine AW.region (by kernel_rfl) ?_
  refine RunF.q (o_call (no := 1) (nr := 1) rfl rfl rfl nC (by rfl) (by exact shown03_ok) (by rfl) rfl rfl nV rfl) (by rfl) ?_
  refine RunF.q (o_assign rfl) rfl ?_
  refine AW.seq ?_
  refine AW.seq ?_
  refine AW.region (by kernel_rfl) ?_
  refine RunF.q (o_load_agg rfl tk24 ts24 rfl rfl rfl nL) rfl ?_
  refine RunF.q (o_call (no := 1) (nr := 1) rfl rfl rfl nC (by rfl) (by exact rright_is (rightM_of hR hr hR hr hL hQ)) (by rfl) rfl rfl nV rfl) (by rfl) ?_
  refine RunF.q (o_not rfl) rfl ?_
  refine AW.cond rfl (fun hc0 => absurd hc0 (by simp)) (fun hc0 => ?_)
  refine AW.skip ?_
  refine AW.seq ?_
  refine AW.region (by kernel_rfl) ?_
  refine RunF.q (o_load_agg rfl tk24 ts24 rfl rfl rfl nL) rfl ?_
  refine RunF.w (o_call (no := 1) (nr := 1) rfl rfl rfl nC (by rfl) (by exact meven_ok r hr hR L hL false hQ) (by rfl) rfl rfl nV nE) nH ?_
  refine RunF.q (o_move rfl) rfl ?_
  refine RunF.q (o_extract rfl rfl) rfl ?_
  refine RunF.q (o_extract rfl rfl) rfl ?_
  refine RunF.q (o_extract rfl rfl) rfl ?_
  refine RunF.w (o_alloc (nm := 2) tz24 rfl) nH ?_
  refine RunF.wn (o_store rfl rfl rfl ts24 rfl rfl) nH ?_
  refine RunF.q (o_assign rfl) rfl ?_
  refine RunF.q (o_assign rfl) rfl ?_
  refine AW.seq ?_
  refine AW.seq ?_
  refine AW.region (by kernel_rfl) ?_
  refine RunF.q (o_fieldAddr rfl tk24 rfl ts3 rfl) rfl ?_
  refine RunF.q (o_load rfl tk3 ts3 rfl rfl rfl) rfl ?_
  refine RunF.q (o_fieldAddr rfl tk24 rfl ts3 rfl) rfl ?_
  refine RunF.q (o_load rfl tk3 ts3 rfl rfl rfl) rfl ?_
  refine RunF.q (o_neq rfl rfl) rfl ?_
  refine AW.cond rfl (fun hc1 => absurd hc1 (by simp)) (fun hc1 => ?_)
  refine AW.skip ?_
  refine AW.seq ?_
  refine AW.region (by kernel_rfl) ?_
  refine RunF.q (o_load_agg rfl tk24 ts24 rfl rfl rfl nL) rfl ?_
  refine RunF.w (o_call (no := 3) (nr := 1) rfl rfl rfl nC (by rfl) (by exact meven_ok r hr hR (evenL L r) hE false hEQ) (by rfl) rfl rfl nV nE) nH ?_
  refine RunF.q (o_move rfl) rfl ?_
  refine RunF.q (o_extract rfl rfl) rfl ?_
  refine RunF.q (o_extract rfl rfl) rfl ?_
  refine RunF.q (o_extract rfl rfl) rfl ?_
  refine RunF.w (o_alloc (nm := 4) tz24 rfl) nH ?_
  refine RunF.wn (o_store rfl rfl rfl ts24 rfl rfl) nH ?_
  refine RunF.q (o_assign rfl) rfl ?_
  refine RunF.q (o_assign rfl) rfl ?_
  refine AW.seq ?_
  refine AW.draws (by kernel_rfl) (by kernel_rfl) ?_
  refine RunV.q (o_move rfl) rfl ?_
  refine RunV.q (o_move rfl) rfl ?_
  refine RunV.gq rfl (o_move rfl) rfl ?_
  refine RunV.gq rfl (o_eql rfl rfl) rfl ?_
  refine RunV.q (o_pick_t rfl rfl) rfl ?_
  refine RunV.q (o_move rfl) rfl ?_
  refine RunV.gq rfl (o_move rfl) rfl ?_
  refine RunV.gq rfl (o_eql rfl rfl) rfl ?_
  refine RunV.q (o_pick_t rfl rfl) rfl ?_
  refine RunV.q (o_move rfl) rfl ?_
  refine RunV.gq rfl (o_move rfl) rfl ?_
  refine RunV.gq rfl (o_not rfl) rfl ?_
  refine RunV.q (o_pick_t rfl rfl) rfl ?_
  refine RunV.q (o_move rfl) rfl ?_
  refine RunV.gq rfl (o_load_agg rfl tk24 ts24 rfl rfl rfl nL) rfl ?_
  refine RunV.gq rfl (o_call (no := 5) (nr := 1) rfl rfl rfl nC (by rfl) (by exact rright_is (rightM_of hR hr hR hr hE hEQ)) (by rfl) rfl rfl nV rfl) (by rfl) ?_
  refine RunV.q (o_pick_t rfl rfl) rfl ?_
  refine RunV.q (o_move rfl) rfl ?_
  refine RunV.gq rfl (o_load_agg rfl tk24 ts24 rfl rfl rfl nL) rfl ?_
  refine RunV.gw rfl (o_call (no := 5) (nr := 1) rfl rfl rfl nC (by rfl) (by exact trans_ok r r hr hr (evenL L r) hE false hR hR) (by rfl) rfl rfl nV nE) nH ?_
  refine RunV.gq rfl (o_load_agg rfl tk24 ts24 rfl rfl rfl nL) rfl ?_
  refine RunV.gq rfl (o_call (no := 6) (nr := 1) rfl rfl rfl nC (by rfl) (by exact rsame_is (z := true) (by rw [trL_length]; omega) (by rw [evenL_turned]; exact sameM_refl _ _ _)) (by rfl) rfl rfl nV rfl) (by rfl) ?_
  refine RunV.q (o_pick_t rfl rfl) rfl ?_
  refine RunV.q (o_move rfl) rfl ?_
  refine RunV.gq rfl (o_load_agg rfl tk24 ts24 rfl rfl rfl nL) rfl ?_
  refine RunV.gq rfl (o_load_agg rfl tk24 ts24 rfl rfl rfl nL) rfl ?_
  refine RunV.gq rfl (o_call (no := 6) (nr := 1) rfl rfl rfl nC (by rfl) (by exact rsame_is (z := true) (by rw [evenL_length]; omega) (by rw [evenL_again]; exact sameM_refl _ _ _)) (by rfl) rfl rfl nV rfl) (by rfl) ?_
  refine RunV.q (o_pick_t rfl rfl) rfl ?_
  refine RunV.q (o_assign rfl) rfl ?_
  refine And.intro (by kernel_rfl) ?_
  refine AW.ret ?_
  exact FinQ.ret [] [] (ress_tmp rfl ress_nil) rfl .nil (.cons rfl rfl nP .nil) nR

end Go.Proofs.Ytnkijhpikeokfaa

/- Sums: on no order; less itself noughts; with noughts as before. -/
namespace Go.Proofs.Ytnkijhpikeokfaa
open Go Go.Sym Go.IntWalk

theorem clampQ_inQ {x : Int} (h : inQ x) : clampQ x = x := by unfold inQ at h; unfold clampQ; omega
theorem both2_inQ {x y : Int} (hx : inQ x) (hy : inQ y) : both2 x y = false := by simp [both2, clampQ_inQ hx, clampQ_inQ hy]
theorem addQ_comm (x y : Int) : addQ x y = addQ y x := by unfold addQ; rw [Int.add_comm]
theorem both2_comm (x y : Int) : both2 x y = both2 y x := by unfold both2; rw [Bool.or_comm]
theorem addF_comm (x y : Int) : addF x y = addF y x := by unfold addF; rw [both2_comm, Int.add_comm]
theorem zipM_add_comm (X Y : List Int) (r c : Nat) : zipM addD X Y r c = zipM addD Y X r c := by
  unfold zipM; exact tab_congr fun i k _ _ => addQ_comm _ _
theorem anyT_congr {F G : Nat → Nat → Bool} {r c : Nat} (h : ∀ i k, i < r → k < c → F i k = G i k) : anyT F c (r * c) = anyT G c (r * c) := by
  unfold anyT
  apply Bool.eq_iff_iff.2
  simp only [List.any_eq_true, List.mem_range]
  constructor <;> rintro ⟨j, hj, hx⟩
  all_goals
    have hc : 0 < c := by rcases Nat.eq_zero_or_pos c with h0 | h0; · subst h0; simp at hj
                          exact h0
    have e := h _ _ ((Nat.div_lt_iff_lt_mul hc).2 hj) (Nat.mod_lt j hc)
    exact ⟨j, hj, by rw [← hx, e]⟩
theorem anyT_none {F : Nat → Nat → Bool} {r c : Nat} (h : ∀ i k, i < r → k < c → F i k = false) : anyT F c (r * c) = false := by
  rw [anyT_congr h]; simp [anyT]
theorem zipX_add_comm (X Y : List Int) (r c : Nat) : zipX addD X Y r c = zipX addD Y X r c := by
  unfold zipX; exact anyT_congr fun i k _ _ => addF_comm _ _
theorem zipM_length (D : Int → Int → Int × Bool) (X Y : List Int) (r c : Nat) : (zipM D X Y r c).length = r * c := by simp [zipM, tab_length]
theorem zipM_at {D : Int → Int → Int × Bool} {X Y : List Int} {r c i k : Nat} (hi : i < r) (hk : k < c) : (zipM D X Y r c).getD (i * c + k) 0 = (D (X.getD (i * c + k) 0) (Y.getD (i * c + k) 0)).1 := by
  unfold zipM; rw [tab_at hi hk]
theorem sub_self_noughts (X : List Int) (r c : Nat) : ∀ j, j < (zipM subD X X r c).length → (zipM subD X X r c).getD j 0 = 0 := by
  intro j hj
  rw [zipM_length] at hj
  unfold zipM
  rw [tab_getD hj]
  show subQ _ _ = 0
  unfold subQ clampQ; omega
theorem sub_self_even {X : List Int} (h : ∀ x ∈ X, inQ x) (r c : Nat) : zipX subD X X r c = false := by
  unfold zipX
  refine anyT_none fun i k hi hk => ?_
  show subF _ _ = false
  have h1 := getD_inQ h (i * c + k)
  simp only [subF, both2_inQ h1 h1, clampQ_inQ h1, Int.sub_self, Bool.false_or]
  decide
theorem addQ_zero {x : Int} (h : inQ x) : addQ x 0 = x := by
  have h0 : inQ 0 := by unfold inQ; omega
  rw [addQ, clampQ_inQ h, clampQ_inQ h0, Int.add_zero, clampQ_inQ h]
theorem addF_zero {x : Int} (h : inQ x) : addF x 0 = false := by
  have h0 : inQ 0 := by unfold inQ; omega
  simp [addF, both2_inQ h h0, clampQ_inQ h, clampQ_inQ h0]
theorem add_noughts {X : List Int} {r c : Nat} (hX : X.length = r * c) (h : ∀ x ∈ X, inQ x) : zipM addD X (zipM subD X X r c) r c = X := by
  have h1 : zipM addD X (zipM subD X X r c) r c = tab (fun i k => X.getD (i * c + k) 0) c (r * c) := by
    conv => lhs; unfold zipM
    refine tab_congr fun i k hi hk => ?_
    have := sub_self_noughts X r c (i * c + k) (by rw [zipM_length]; exact idx_lt hi hk)
    rw [show List.getD (tab (fun i j => (subD (X.getD (i * c + j) 0) (X.getD (i * c + j) 0)).fst) c (r * c)) (i * c + k) 0 = 0 from this]
    exact addQ_zero (getD_inQ h _)
  rw [h1, tab_self hX]
theorem add_noughts_even {X : List Int} {r c : Nat} (h : ∀ x ∈ X, inQ x) : zipX addD X (zipM subD X X r c) r c = false := by
  unfold zipX
  refine anyT_none fun i k hi hk => ?_
  rw [sub_self_noughts X r c (i * c + k) (by rw [zipM_length]; exact idx_lt hi hk)]
  exact addF_zero (getD_inQ h _)

set_option maxHeartbeats 1000000 in
theorem matSums_no1 (R C R2 C2 : Int) (A B : List Int) (hn : rightM R C A = false) : SoundC Try.prog 3 [.agg [.int .i64 R, .int .i64 C, .sl (.r 0) 0 A.length 1 false], .agg [.int .i64 R2, .int .i64 C2, .sl (.r 1) 0 B.length 1 false]] ⟨[ints A, ints B], []⟩ { val := .bool true } := by
  refine SoundC.of (N := 117) Try.func3 rfl rfl rfl rfl ?_
  refine AW.seq ?_
  refine AW.region (by kernel_rfl) ?_
  refine RunF.w (o_box (nm := 0) rfl rfl rfl) nH ?_
  refine RunF.w (o_box (nm := 1) rfl rfl rfl) nH ?_
  refine RunF.q (o_assign rfl) rfl ?_
  refine AW.seq ?_
  refine AW.region (by kernel_rfl) ?_
  refine RunF.q (o_call (no := 2) (nr := 2) rfl rfl rfl nC (by rfl) (by exact shown03_ok) (by rfl) rfl rfl nV rfl) (by rfl) ?_
  refine RunF.q (o_assign rfl) rfl ?_
  refine AW.seq ?_
  refine AW.seq ?_
  refine AW.region (by kernel_rfl) ?_
  refine RunF.q (o_load_agg rfl tk24 ts24 rfl rfl rfl nL) rfl ?_
  refine RunF.q (o_call (no := 2) (nr := 2) rfl rfl rfl nC (by rfl) (by exact rright_is hn) (by rfl) rfl rfl nV rfl) (by rfl) ?_
  refine RunF.q (o_not rfl) rfl ?_
  refine RunF.q (o_move rfl) rfl ?_
  refine RunF.gs (b := true) rfl rfl ?_
  refine RunF.gs (b := true) rfl rfl ?_
  refine RunF.gs (b := true) rfl rfl ?_
  refine RunF.q (o_pick_t rfl rfl) rfl ?_
  refine RunF.q (o_move rfl) rfl ?_
  refine RunF.gs (b := true) rfl rfl ?_
  refine RunF.gs (b := true) rfl rfl ?_
  refine RunF.gs (b := true) rfl rfl ?_
  refine RunF.gs (b := true) rfl rfl ?_
  refine RunF.gs (b := true) rfl rfl ?_
  refine RunF.q (o_pick_t rfl rfl) rfl ?_
  refine RunF.q (o_move rfl) rfl ?_
  refine RunF.gs (b := true) rfl rfl ?_
  refine RunF.gs (b := true) rfl rfl ?_
  refine RunF.gs (b := true) rfl rfl ?_
  refine RunF.gs (b := true) rfl rfl ?_
  refine RunF.gs (b := true) rfl rfl ?_
  refine RunF.q (o_pick_t rfl rfl) rfl ?_
  refine AW.cond rfl (fun hc0 => ?_) (fun hc0 => absurd hc0 (by simp))
  refine AW.seq ?_
  refine AW.region (by kernel_rfl) ?_
  refine RunF.q (o_move rfl) rfl ?_
  refine RunF.q (o_assign rfl) rfl ?_
  refine AW.ret ?_
  exact FinQ.ret [] [] (ress_tmp rfl ress_nil) rfl .nil (.cons rfl rfl nP (.cons rfl rfl nP .nil)) nR

set_option maxHeartbeats 1000000 in
theorem matSums_no2 (R C R2 C2 : Int) (A B : List Int) (hy : rightM R C A = true) (hn : rightM R2 C2 B = false) : SoundC Try.prog 3 [.agg [.int .i64 R, .int .i64 C, .sl (.r 0) 0 A.length 1 false], .agg [.int .i64 R2, .int .i64 C2, .sl (.r 1) 0 B.length 1 false]] ⟨[ints A, ints B], []⟩ { val := .bool true } := by
  refine SoundC.of (N := 117) Try.func3 rfl rfl rfl rfl ?_
  refine AW.seq ?_
  refine AW.region (by kernel_rfl) ?_
  refine RunF.w (o_box (nm := 0) rfl rfl rfl) nH ?_
  refine RunF.w (o_box (nm := 1) rfl rfl rfl) nH ?_
  refine RunF.q (o_assign rfl) rfl ?_
  refine AW.seq ?_
  refine AW.region (by kernel_rfl) ?_
  refine RunF.q (o_call (no := 2) (nr := 2) rfl rfl rfl nC (by rfl) (by exact shown03_ok) (by rfl) rfl rfl nV rfl) (by rfl) ?_
  refine RunF.q (o_assign rfl) rfl ?_
  refine AW.seq ?_
  refine AW.seq ?_
  refine AW.region (by kernel_rfl) ?_
  refine RunF.q (o_load_agg rfl tk24 ts24 rfl rfl rfl nL) rfl ?_
  refine RunF.q (o_call (no := 2) (nr := 2) rfl rfl rfl nC (by rfl) (by exact rright_is hy) (by rfl) rfl rfl nV rfl) (by rfl) ?_
  refine RunF.q (o_not rfl) rfl ?_
  refine RunF.q (o_move rfl) rfl ?_
  refine RunF.gq rfl (o_load_agg rfl tk24 ts24 rfl rfl rfl nL) rfl ?_
  refine RunF.gq rfl (o_call (no := 2) (nr := 2) rfl rfl rfl nC (by rfl) (by exact rright_is hn) (by rfl) rfl rfl nV rfl) (by rfl) ?_
  refine RunF.gq rfl (o_not rfl) rfl ?_
  refine RunF.q (o_pick_f rfl rfl) rfl ?_
  refine RunF.q (o_move rfl) rfl ?_
  refine RunF.gs (b := true) rfl rfl ?_
  refine RunF.gs (b := true) rfl rfl ?_
  refine RunF.gs (b := true) rfl rfl ?_
  refine RunF.gs (b := true) rfl rfl ?_
  refine RunF.gs (b := true) rfl rfl ?_
  refine RunF.q (o_pick_t rfl rfl) rfl ?_
  refine RunF.q (o_move rfl) rfl ?_
  refine RunF.gs (b := true) rfl rfl ?_
  refine RunF.gs (b := true) rfl rfl ?_
  refine RunF.gs (b := true) rfl rfl ?_
  refine RunF.gs (b := true) rfl rfl ?_
  refine RunF.gs (b := true) rfl rfl ?_
  refine RunF.q (o_pick_t rfl rfl) rfl ?_
  refine AW.cond rfl (fun hc0 => ?_) (fun hc0 => absurd hc0 (by simp))
  refine AW.seq ?_
  refine AW.region (by kernel_rfl) ?_
  refine RunF.q (o_move rfl) rfl ?_
  refine RunF.q (o_assign rfl) rfl ?_
  refine AW.ret ?_
  exact FinQ.ret [] [] (ress_tmp rfl ress_nil) rfl .nil (.cons rfl rfl nP (.cons rfl rfl nP .nil)) nR

set_option maxHeartbeats 1000000 in
theorem matSums_no3 (r c r2 c2 : Nat) (A B : List Int) (hy : rightM r c A = true) (hy2 : rightM r2 c2 B = true) (hne : ¬ (r = r2 ∧ c = c2)) : SoundC Try.prog 3 [.agg [.int .i64 r, .int .i64 c, .sl (.r 0) 0 A.length 1 false], .agg [.int .i64 r2, .int .i64 c2, .sl (.r 1) 0 B.length 1 false]] ⟨[ints A, ints B], []⟩ { val := .bool true } := by
  refine SoundC.of (N := 117) Try.func3 rfl rfl rfl rfl ?_
  refine AW.seq ?_
  refine AW.region (by kernel_rfl) ?_
  refine RunF.w (o_box (nm := 0) rfl rfl rfl) nH ?_
  refine RunF.w (o_box (nm := 1) rfl rfl rfl) nH ?_
  refine RunF.q (o_assign rfl) rfl ?_
  refine AW.seq ?_
  refine AW.region (by kernel_rfl) ?_
  refine RunF.q (o_call (no := 2) (nr := 2) rfl rfl rfl nC (by rfl) (by exact shown03_ok) (by rfl) rfl rfl nV rfl) (by rfl) ?_
  refine RunF.q (o_assign rfl) rfl ?_
  refine AW.seq ?_
  refine AW.seq ?_
  refine AW.region (by kernel_rfl) ?_
  refine RunF.q (o_load_agg rfl tk24 ts24 rfl rfl rfl nL) rfl ?_
  refine RunF.q (o_call (no := 2) (nr := 2) rfl rfl rfl nC (by rfl) (by exact rright_is hy) (by rfl) rfl rfl nV rfl) (by rfl) ?_
  refine RunF.q (o_not rfl) rfl ?_
  refine RunF.q (o_move rfl) rfl ?_
  refine RunF.gq rfl (o_load_agg rfl tk24 ts24 rfl rfl rfl nL) rfl ?_
  refine RunF.gq rfl (o_call (no := 2) (nr := 2) rfl rfl rfl nC (by rfl) (by exact rright_is hy2) (by rfl) rfl rfl nV rfl) (by rfl) ?_
  refine RunF.gq rfl (o_not rfl) rfl ?_
  refine RunF.q (o_pick_f rfl rfl) rfl ?_
  refine RunF.q (o_move rfl) rfl ?_
  refine RunF.gq rfl (o_fieldAddr rfl tk24 rfl ts3 rfl) rfl ?_
  refine RunF.gq rfl (o_load rfl tk3 ts3 rfl rfl rfl) rfl ?_
  refine RunF.gq rfl (o_fieldAddr rfl tk24 rfl ts3 rfl) rfl ?_
  refine RunF.gq rfl (o_load rfl tk3 ts3 rfl rfl rfl) rfl ?_
  refine RunF.gq rfl (o_neq rfl rfl) rfl ?_
  refine RunF.q (o_pick_f rfl rfl) rfl ?_
  refine RunF.br (o_move rfl) rfl (fun hb2_15 => ?_) (fun hb2_15 => ?_)
  · try simp only [decide_eq_true_eq, decide_eq_false_iff_not, bne_iff_ne, beq_iff_eq, bne_eq_false_iff_eq, beq_eq_false_iff_ne, ne_eq, Bool.not_eq_true', Bool.not_eq_false'] at hb2_15
    refine RunF.gs (b := true) rfl rfl ?_
    refine RunF.gs (b := true) rfl rfl ?_
    refine RunF.gs (b := true) rfl rfl ?_
    refine RunF.gs (b := true) rfl rfl ?_
    refine RunF.gs (b := true) rfl rfl ?_
    refine RunF.q (o_pick_t rfl rfl) rfl ?_
    refine AW.cond rfl (fun hc0 => ?_) (fun hc0 => absurd hc0 (by simp <;> omega))
    refine AW.seq ?_
    refine AW.region (by kernel_rfl) ?_
    refine RunF.q (o_move rfl) rfl ?_
    refine RunF.q (o_assign rfl) rfl ?_
    refine AW.ret ?_
    exact FinQ.ret [] [] (ress_tmp rfl ress_nil) rfl .nil (.cons rfl rfl nP (.cons rfl rfl nP .nil)) nR
  · try simp only [decide_eq_true_eq, decide_eq_false_iff_not, bne_iff_ne, beq_iff_eq, bne_eq_false_iff_eq, beq_eq_false_iff_ne, ne_eq, Bool.not_eq_true', Bool.not_eq_false'] at hb2_15
    refine RunF.gq rfl (o_fieldAddr rfl tk24 rfl ts3 rfl) rfl ?_
    refine RunF.gq rfl (o_load rfl tk3 ts3 rfl rfl rfl) rfl ?_
    refine RunF.gq rfl (o_fieldAddr rfl tk24 rfl ts3 rfl) rfl ?_
    refine RunF.gq rfl (o_load rfl tk3 ts3 rfl rfl rfl) rfl ?_
    refine RunF.gq rfl (o_neq rfl rfl) rfl ?_
    refine RunF.q (o_pick_f rfl rfl) rfl ?_
    refine AW.cond rfl (fun hc0 => ?_) (fun hc0 => absurd hc0 (by simp <;> omega))
    refine AW.seq ?_
    refine AW.region (by kernel_rfl) ?_
    refine RunF.q (o_move rfl) rfl ?_
    refine RunF.q (o_assign rfl) rfl ?_
    refine AW.ret ?_
    exact FinQ.ret [] [] (ress_tmp rfl ress_nil) rfl .nil (.cons rfl rfl nP (.cons rfl rfl nP .nil)) nR

set_option maxHeartbeats 1000000 in
theorem matSums_yes (r c : Nat) (hR : 0 < r) (hr : r ≤ 8) (hC : 0 < c) (hc : c ≤ 8) (A B : List Int) (hA : A.length = r * c) (hQ : ∀ x ∈ A, inQ x) (hB : B.length = r * c) (hQB : ∀ x ∈ B, inQ x) : SoundC Try.prog 3 [.agg [.int .i64 r, .int .i64 c, .sl (.r 0) 0 A.length 1 false], .agg [.int .i64 r, .int .i64 c, .sl (.r 1) 0 B.length 1 false]] ⟨[ints A, ints B], []⟩ { val := .bool true } := by
  have hsm := small_mul hr hc
  have hN := zipM_length subD A A r c
  have hS := zipM_length addD A B r c
  have hZ := sub_self_noughts A r c
  refine SoundC.of (N := 117) Try.func3 rfl rfl rfl rfl ?_
  refine AW.seq ?_
  refine AW.region (by kernel_rfl) ?_
  refine RunF.w (o_box (nm := 0) rfl rfl rfl) nH ?_
  refine RunF.w (o_box (nm := 1) rfl rfl rfl) nH ?_
  refine RunF.q (o_assign rfl) rfl ?_
  refine AW.seq ?_
  refine AW.region (by kernel_rfl) ?_
  refine RunF.q (o_call (no := 2) (nr := 2) rfl rfl rfl nC (by rfl) (by exact shown03_ok) (by rfl) rfl rfl nV rfl) (by rfl) ?_
  refine RunF.q (o_assign rfl) rfl ?_
  refine AW.seq ?_
  refine AW.seq ?_
  refine AW.region (by kernel_rfl) ?_
  refine RunF.q (o_load_agg rfl tk24 ts24 rfl rfl rfl nL) rfl ?_
  refine RunF.q (o_call (no := 2) (nr := 2) rfl rfl rfl nC (by rfl) (by exact rright_is (rightM_of hR hr hC hc hA hQ)) (by rfl) rfl rfl nV rfl) (by rfl) ?_
  refine RunF.q (o_not rfl) rfl ?_
  refine RunF.q (o_move rfl) rfl ?_
  refine RunF.gq rfl (o_load_agg rfl tk24 ts24 rfl rfl rfl nL) rfl ?_
  refine RunF.gq rfl (o_call (no := 2) (nr := 2) rfl rfl rfl nC (by rfl) (by exact rright_is (rightM_of hR hr hC hc hB hQB)) (by rfl) rfl rfl nV rfl) (by rfl) ?_
  refine RunF.gq rfl (o_not rfl) rfl ?_
  refine RunF.q (o_pick_f rfl rfl) rfl ?_
  refine RunF.q (o_move rfl) rfl ?_
  refine RunF.gq rfl (o_fieldAddr rfl tk24 rfl ts3 rfl) rfl ?_
  refine RunF.gq rfl (o_load rfl tk3 ts3 rfl rfl rfl) rfl ?_
  refine RunF.gq rfl (o_fieldAddr rfl tk24 rfl ts3 rfl) rfl ?_
  refine RunF.gq rfl (o_load rfl tk3 ts3 rfl rfl rfl) rfl ?_
  refine RunF.gq rfl (o_neq rfl rfl) rfl ?_
  refine RunF.q (o_pick_f rfl rfl) rfl ?_
  refine RunF.br (o_move rfl) rfl (fun hb2_15 => ?_) (fun hb2_15 => ?_)
  · try simp only [decide_eq_true_eq, decide_eq_false_iff_not, bne_iff_ne, beq_iff_eq, bne_eq_false_iff_eq, beq_eq_false_iff_ne, ne_eq, Bool.not_eq_true', Bool.not_eq_false'] at hb2_15
    exact absurd trivial hb2_15
  · try simp only [decide_eq_true_eq, decide_eq_false_iff_not, bne_iff_ne, beq_iff_eq, bne_eq_false_iff_eq, beq_eq_false_iff_ne, ne_eq, Bool.not_eq_true', Bool.not_eq_false'] at hb2_15
    refine RunF.gq rfl (o_fieldAddr rfl tk24 rfl ts3 rfl) rfl ?_
    refine RunF.gq rfl (o_load rfl tk3 ts3 rfl rfl rfl) rfl ?_
    refine RunF.gq rfl (o_fieldAddr rfl tk24 rfl ts3 rfl) rfl ?_
    refine RunF.gq rfl (o_load rfl tk3 ts3 rfl rfl rfl) rfl ?_
    refine RunF.gq rfl (o_neq rfl rfl) rfl ?_
    refine RunF.q (o_pick_f rfl rfl) rfl ?_
    refine AW.cond rfl (fun hc0 => absurd hc0 (by simp)) (fun hc0 => ?_)
    refine AW.skip ?_
    refine AW.seq ?_
    refine AW.region (by kernel_rfl) ?_
    refine RunF.q (o_load_agg rfl tk24 ts24 rfl rfl rfl nL) rfl ?_
    refine RunF.q (o_load_agg rfl tk24 ts24 rfl rfl rfl nL) rfl ?_
    refine RunF.w (o_call (no := 2) (nr := 2) rfl rfl rfl nC (by rfl) (by exact madd_ok r c hr hc hR hC A B hA hB false false) (by rfl) rfl rfl nV nE) nH ?_
    refine RunF.q (o_move rfl) rfl ?_
    refine RunF.q (o_extract rfl rfl) rfl ?_
    refine RunF.q (o_extract rfl rfl) rfl ?_
    refine RunF.q (o_extract rfl rfl) rfl ?_
    refine RunF.w (o_alloc (nm := 3) tz24 rfl) nH ?_
    refine RunF.wn (o_store rfl rfl rfl ts24 rfl rfl) nH ?_
    refine RunF.q (o_assign rfl) rfl ?_
    refine RunF.q (o_assign rfl) rfl ?_
    refine AW.seq ?_
    refine AW.region (by kernel_rfl) ?_
    refine RunF.q (o_load_agg rfl tk24 ts24 rfl rfl rfl nL) rfl ?_
    refine RunF.q (o_load_agg rfl tk24 ts24 rfl rfl rfl nL) rfl ?_
    refine RunF.w (o_call (no := 4) (nr := 2) rfl rfl rfl nC (by rfl) (by exact (by have h := madd_ok r c hr hc hR hC B A hB hA false false; rw [zipM_add_comm B A, zipX_add_comm B A] at h; exact h)) (by rfl) rfl rfl nV nE) nH ?_
    refine RunF.q (o_move rfl) rfl ?_
    refine RunF.q (o_extract rfl rfl) rfl ?_
    refine RunF.q (o_extract rfl rfl) rfl ?_
    refine RunF.q (o_extract rfl rfl) rfl ?_
    refine RunF.w (o_alloc (nm := 5) tz24 rfl) nH ?_
    refine RunF.wn (o_store rfl rfl rfl ts24 rfl rfl) nH ?_
    refine RunF.q (o_assign rfl) rfl ?_
    refine RunF.q (o_assign rfl) rfl ?_
    refine AW.seq ?_
    refine AW.region (by kernel_rfl) ?_
    refine RunF.q (o_load_agg rfl tk24 ts24 rfl rfl rfl nL) rfl ?_
    refine RunF.q (o_load_agg rfl tk24 ts24 rfl rfl rfl nL) rfl ?_
    refine RunF.w (o_call (no := 6) (nr := 2) rfl rfl rfl nC (by rfl) (by exact (by have h := msub_ok r c hr hc hR hC A A hA hA false false; rw [sub_self_even hQ] at h; exact h)) (by rfl) rfl rfl nV nE) nH ?_
    refine RunF.q (o_move rfl) rfl ?_
    refine RunF.q (o_extract rfl rfl) rfl ?_
    refine RunF.q (o_extract rfl rfl) rfl ?_
    refine RunF.q (o_extract rfl rfl) rfl ?_
    refine RunF.w (o_alloc (nm := 7) tz24 rfl) nH ?_
    refine RunF.wn (o_store rfl rfl rfl ts24 rfl rfl) nH ?_
    refine RunF.q (o_assign rfl) rfl ?_
    refine RunF.q (o_assign rfl) rfl ?_
    refine AW.seq ?_
    refine AW.region (by kernel_rfl) ?_
    refine RunF.q (o_load_agg rfl tk24 ts24 rfl rfl rfl nL) rfl ?_
    refine RunF.q (o_load_agg rfl tk24 ts24 rfl rfl rfl nL) rfl ?_
    refine RunF.w (o_call (no := 8) (nr := 2) rfl rfl rfl nC (by rfl) (by exact (by have h := madd_ok r c hr hc hR hC A (zipM subD A A r c) hA hN false false; rw [add_noughts hA hQ, add_noughts_even hQ] at h; exact h)) (by rfl) rfl rfl nV nE) nH ?_
    refine RunF.q (o_move rfl) rfl ?_
    refine RunF.q (o_extract rfl rfl) rfl ?_
    refine RunF.q (o_extract rfl rfl) rfl ?_
    refine RunF.q (o_extract rfl rfl) rfl ?_
    refine RunF.w (o_alloc (nm := 9) tz24 rfl) nH ?_
    refine RunF.wn (o_store rfl rfl rfl ts24 rfl rfl) nH ?_
    refine RunF.q (o_assign rfl) rfl ?_
    refine RunF.q (o_assign rfl) rfl ?_
    refine AW.seq ?_
    refine AW.seq ?_
    refine AW.region (by kernel_rfl) ?_
    refine RunF.q (o_assign rfl) rfl ?_
    refine AW.block ?_
    refine AW.loop (α := {i : Nat // i ≤ (zipM subD A A r c).length}) (fun x : {i : Nat // i ≤ (zipM subD A A r c).length} => ([(5, .bool true), (2, .ptr (.o 0) 0), (3, .ptr (.o 1) 0), (6, .ptr (.o 3) 0), (7, .bool (zipX addD A B r c)), (9, .ptr (.o 5) 0), (10, .bool (zipX addD A B r c)), (12, .ptr (.o 7) 0), (13, .bool false), (15, .ptr (.o 9) 0), (16, .bool false), (18, .int .i64 x.1)], ⟨[ints A, ints B], [some [.int .i64 r, .int .i64 c, .sl (.r 0) 0 A.length 1 false], some [.int .i64 r, .int .i64 c, .sl (.r 1) 0 B.length 1 false], some (ints (zipM addD A B r c)), some [.int .i64 r, .int .i64 c, .sl (.o 2) 0 (zipM addD A B r c).length 1 false], some (ints (zipM addD A B r c)), some [.int .i64 r, .int .i64 c, .sl (.o 4) 0 (zipM addD A B r c).length 1 false], some (ints (zipM subD A A r c)), some [.int .i64 r, .int .i64 c, .sl (.o 6) 0 (zipM subD A A r c).length 1 false], some (ints A), some [.int .i64 r, .int .i64 c, .sl (.o 8) 0 A.length 1 false]]⟩)) (fun x => (zipM subD A A r c).length - x.1) (fun x => ?_) ⟨0, by omega⟩ ?_
    · obtain ⟨i, hx⟩ := x
      try dsimp only at hx
      try dsimp only
      refine AW.seq ?_
      refine AW.seq ?_
      refine AW.region (by kernel_rfl) ?_
      refine RunF.q (o_move rfl) rfl ?_
      refine RunF.q (o_fieldAddr rfl tk24 rfl ts22 rfl) rfl ?_
      refine RunF.q (o_load rfl tk22 ts22 rfl rfl rfl) rfl ?_
      first | refine RunF.q (o_len tk22 rfl) rfl ?_ | refine RunF.q (o_len_nil tk22 rfl) rfl ?_
      refine RunF.q (o_lss rfl rfl) rfl ?_
      refine AW.cond rfl (fun hc1 => ?_) (fun hc1 => ?_)
      · try simp only [decide_eq_true_eq, decide_eq_false_iff_not, bne_iff_ne, beq_iff_eq, bne_eq_false_iff_eq, beq_eq_false_iff_ne, ne_eq, Bool.not_eq_true', Bool.not_eq_false'] at hc1
        refine AW.skip ?_
        refine AW.seq ?_
        refine AW.block ?_
        refine AW.seq ?_
        refine AW.region (by kernel_rfl) ?_
        refine RunF.q (o_fieldAddr rfl tk24 rfl ts22 rfl) rfl ?_
        refine RunF.q (o_load rfl tk22 ts22 rfl rfl rfl) rfl ?_
        refine RunF.q (o_move rfl) rfl ?_
        refine RunF.q (o_indexAddr (m := i) tk22 ts30 rfl rfl (by omega) (by omega)) rfl ?_
        refine RunF.q (o_load rfl tk30 ts30 rfl rfl (ints_getD (zipM subD A A r c) i (by omega))) rfl ?_
        refine RunF.q (o_neq rfl rfl) rfl ?_
        refine AW.cond rfl (fun hc2 => absurd hc2 (by rw [hZ i (by omega)]; simp)) (fun hc2 => ?_)
        refine AW.skip ?_
        refine AW.region (by kernel_rfl) ?_
        refine RunF.q (o_move rfl) rfl ?_
        refine RunF.q (o_add rfl rfl (by first | exact i64_in _ (by omega) | rfl)) rfl ?_
        refine RunF.q (o_assign rfl) rfl ?_
        exact ⟨⟨i + 1, by omega⟩, Wk.same rfl (.cons rfl (.cons rfl (.cons rfl (.cons rfl (.cons rfl (.cons rfl (.cons rfl (.cons rfl (.cons rfl (.cons rfl (.cons rfl (.cons rfl .nil)))))))))))), by dsimp only; omega⟩
      · try simp only [decide_eq_true_eq, decide_eq_false_iff_not, bne_iff_ne, beq_iff_eq, bne_eq_false_iff_eq, beq_eq_false_iff_ne, ne_eq, Bool.not_eq_true', Bool.not_eq_false'] at hc1
        refine AW.exit ?_
        refine AW.seq ?_
        refine AW.region (by kernel_rfl) ?_
        refine RunF.q (o_move rfl) rfl ?_
        refine RunF.q (o_move rfl) rfl ?_
        refine RunF.gq rfl (o_load_agg rfl tk24 ts24 rfl rfl rfl nL) rfl ?_
        refine RunF.gq rfl (o_load_agg rfl tk24 ts24 rfl rfl rfl nL) rfl ?_
        refine RunF.gq rfl (o_call (no := 10) (nr := 2) rfl rfl rfl nC (by rfl) (by exact rsame_is (z := true) (by omega) (sameM_refl _ _ _)) (by rfl) rfl rfl nV rfl) (by rfl) ?_
        refine RunF.q (o_pick_t rfl rfl) rfl ?_
        refine RunF.q (o_move rfl) rfl ?_
        refine RunF.gq rfl (o_move rfl) rfl ?_
        refine RunF.gq rfl (o_move rfl) rfl ?_
        refine RunF.gq rfl (o_eqb tk4 rfl rfl) rfl ?_
        refine RunF.q (o_pick_t rfl rfl) rfl ?_
        refine RunF.br (o_move rfl) rfl (fun hb13_11 => ?_) (fun hb13_11 => ?_)
        · try simp only [decide_eq_true_eq, decide_eq_false_iff_not, bne_iff_ne, beq_iff_eq, bne_eq_false_iff_eq, beq_eq_false_iff_ne, ne_eq, Bool.not_eq_true', Bool.not_eq_false'] at hb13_11
          refine RunF.gq rfl (o_move rfl) rfl ?_
          refine RunF.gq rfl (o_not rfl) rfl ?_
          refine RunF.q (o_pick_t rfl rfl) rfl ?_
          refine RunF.q (o_move rfl) rfl ?_
          refine RunF.gq rfl (o_move rfl) rfl ?_
          refine RunF.gq rfl (o_not rfl) rfl ?_
          refine RunF.q (o_pick_t rfl rfl) rfl ?_
          refine RunF.q (o_move rfl) rfl ?_
          refine RunF.gq rfl (o_load_agg rfl tk24 ts24 rfl rfl rfl nL) rfl ?_
          refine RunF.gq rfl (o_load_agg rfl tk24 ts24 rfl rfl rfl nL) rfl ?_
          refine RunF.gq rfl (o_call (no := 10) (nr := 2) rfl rfl rfl nC (by rfl) (by exact rsame_is (z := true) (by omega) (sameM_refl _ _ _)) (by rfl) rfl rfl nV rfl) (by rfl) ?_
          refine RunF.q (o_pick_t rfl rfl) rfl ?_
          refine RunF.q (o_move rfl) rfl ?_
          refine RunF.gq rfl (o_fieldAddr rfl tk24 rfl ts22 rfl) rfl ?_
          refine RunF.gq rfl (o_load rfl tk22 ts22 rfl rfl rfl) rfl ?_
          first | refine RunF.gq rfl (o_len tk22 rfl) rfl ?_ | refine RunF.gq rfl (o_len_nil tk22 rfl) rfl ?_
          refine RunF.gq rfl (o_fieldAddr rfl tk24 rfl ts22 rfl) rfl ?_
          refine RunF.gq rfl (o_load rfl tk22 ts22 rfl rfl rfl) rfl ?_
          first | refine RunF.gq rfl (o_len tk22 rfl) rfl ?_ | refine RunF.gq rfl (o_len_nil tk22 rfl) rfl ?_
          refine RunF.gq rfl (o_eql rfl rfl) rfl ?_
          refine RunF.q (o_pick_t rfl rfl) rfl ?_
          refine RunF.q (o_assign rfl) rfl ?_
          refine AW.ret ?_
          exact FinQ.ret [] [] (ress_tmp rfl ress_nil) rfl .nil (.cons rfl rfl nP (.cons rfl rfl nP .nil)) (by rw [show (((zipM subD A A r c).length : Int) == (A.length : Int)) = true from by rw [hN, hA]; simp]; exact nR)
        · try simp only [decide_eq_true_eq, decide_eq_false_iff_not, bne_iff_ne, beq_iff_eq, bne_eq_false_iff_eq, beq_eq_false_iff_ne, ne_eq, Bool.not_eq_true', Bool.not_eq_false'] at hb13_11
          exact absurd trivial hb13_11
    · exact Wk.same rfl (.cons rfl (.cons rfl (.cons rfl (.cons rfl (.cons rfl (.cons rfl (.cons rfl (.cons rfl (.cons rfl (.cons rfl (.cons rfl (.cons rfl .nil))))))))))))

end Go.Proofs.Ytnkijhpikeokfaa
