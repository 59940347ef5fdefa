/- Rows of numbers: whether two are the same, whether one holds something; which matrices are right, and the same. -/
import Derived.Test.YtnkijhpikeokfaaF2
set_option linter.unusedSimpArgs false
set_option linter.unusedVariables false
namespace Go.Proofs.Ytnkijhpikeokfaa
open Go Go.Sym Go.IntWalk

def inQ (x : Int) : Prop := -70368744177664 ≤ x ∧ x ≤ 70368744177663
instance : DecidablePred inQ := fun x => by unfold inQ; infer_instance

theorem eq_of_getD {A B : List Int} (h1 : A.length = B.length) (h2 : ∀ j, j < A.length → A.getD j 0 = B.getD j 0) : A = B := by
  apply List.ext_getElem h1
  intro i hi hi'
  have := h2 i hi
  simpa [List.getD_eq_getElem?_getD, hi, hi'] using this
theorem upto_succ {p : Nat → Prop} {i : Nat} (h : ∀ j, j < i → p j) (hi : p i) : ∀ j, j < i + 1 → p j := by
  intro j hj
  rcases Nat.lt_succ_iff_lt_or_eq.mp hj with h1 | rfl
  · exact h j h1
  · exact hi

def findI (p : Int → Bool) (L : List Int) : Int :=
  match L.findIdx? p with
  | some i => i
  | none => -1
theorem findI_at {p : Int → Bool} {L : List Int} {i : Nat} (hi : i < L.length) (hb : ∀ j, j < i → p (L.getD j 0) = false) (h : p (L.getD i 0) = true) : findI p L = i := by
  have : L.findIdx? p = some i := by
    rw [List.findIdx?_eq_some_iff_getElem]
    refine ⟨hi, by simpa [List.getD_eq_getElem?_getD, hi] using h, fun j hj => ?_⟩
    have hj' : j < L.length := by omega
    simpa [List.getD_eq_getElem?_getD, hj'] using hb j hj
  simp only [findI, this]
theorem findI_none {p : Int → Bool} {L : List Int} (hb : ∀ j, j < L.length → p (L.getD j 0) = false) : findI p L = -1 := by
  have : L.findIdx? p = none := by
    rw [List.findIdx?_eq_none_iff]
    intro x hx
    obtain ⟨j, hj, rfl⟩ := List.getElem_of_mem hx
    simpa [List.getD_eq_getElem?_getD, hj] using hb j hj
  simp only [findI, this]
theorem findI_any (p : Int → Bool) (L : List Int) : decide (findI p L ≥ 0) = L.any p := by
  unfold findI
  cases h : L.findIdx? p with
  | none =>
    rw [List.findIdx?_eq_none_iff] at h
    have : L.any p = false := by rw [List.any_eq_false]; intro x hx; simpa using h x hx
    simp [this]
  | some i =>
    rw [List.findIdx?_eq_some_iff_getElem] at h
    obtain ⟨h1, h2, _⟩ := h
    have : L.any p = true := by rw [List.any_eq_true]; exact ⟨_, List.getElem_mem h1, h2⟩
    simp only [this, decide_eq_true_eq]
    omega

def rightM (R C : Int) (L : List Int) : Bool := decide (1 ≤ R ∧ R ≤ 8 ∧ 1 ≤ C ∧ C ≤ 8 ∧ (L.length : Int) = R * C ∧ ∀ x ∈ L, inQ x)
def oddQ (x : Int) : Bool := decide (x < -70368744177664) || decide (x > 70368744177663)
theorem oddQ_in (x : Int) : oddQ x = false ↔ inQ x := by simp only [oddQ, inQ, Bool.or_eq_false_iff, decide_eq_false_iff_not]; omega
theorem any_oddQ (L : List Int) : L.any oddQ = false ↔ ∀ x ∈ L, inQ x := by
  rw [List.any_eq_false]
  constructor
  · intro h x hx; exact (oddQ_in x).1 (by simpa using h x hx)
  · intro h x hx; simp [(oddQ_in x).2 (h x hx)]
theorem all_getD {p : Int → Prop} {L : List Int} (h : ∀ j, j < L.length → p (L.getD j 0)) : ∀ x ∈ L, p x := by
  intro x hx
  obtain ⟨j, hj, rfl⟩ := List.getElem_of_mem hx
  simpa [List.getD_eq_getElem?_getD, hj] using h j hj

set_option maxHeartbeats 1000000 in
theorem equalQ_ok (A B : List Int) (fa fb : Bool) (hA : A.length ≤ 1000000) : SoundC Try.prog 125 [.sl (.r 0) 0 A.length 1 fa, .sl (.r 1) 0 B.length 1 fb] ⟨[ints A, ints B], []⟩ { val := .bool (decide (A = B)) } := by
  refine SoundC.of (N := 26) Try.func125 rfl rfl rfl rfl ?_
  refine AW.seq ?_
  refine AW.region (by kernel_rfl) ?_
  refine RunF.q (o_assign rfl) rfl ?_
  refine AW.seq ?_
  refine AW.seq ?_
  refine AW.region (by kernel_rfl) ?_
  refine RunF.q (o_move rfl) rfl ?_
  first | refine RunF.q (o_len tk22 rfl) rfl ?_ | refine RunF.q (o_len_nil tk22 rfl) rfl ?_
  refine RunF.q (o_move rfl) rfl ?_
  first | refine RunF.q (o_len tk22 rfl) rfl ?_ | refine RunF.q (o_len_nil tk22 rfl) rfl ?_
  refine RunF.q (o_neq rfl rfl) rfl ?_
  refine AW.cond rfl (fun hc0 => ?_) (fun hc0 => ?_)
  · try simp only [decide_eq_true_eq, decide_eq_false_iff_not, bne_iff_ne, beq_iff_eq, bne_eq_false_iff_eq, beq_eq_false_iff_ne, ne_eq, Bool.not_eq_true', Bool.not_eq_false'] at hc0
    refine AW.seq ?_
    refine AW.region (by kernel_rfl) ?_
    refine RunF.q (o_assign rfl) rfl ?_
    refine AW.ret ?_
    exact FinQ.ret [] [] (ress_tmp rfl ress_nil) rfl .nil (.cons rfl rfl (by first | (apply PRN.flat; rfl) | (apply PRN.flat; simp; done) | (repeat' first | exact PRN.nil | apply PRN.cons | exact RN.self rfl | exact RN.top | exact RN.ptr rfl | exact RN.sl rfl | exact RN.slf rfl | apply RN.agg | apply RN.fn | exact RNs.nil | apply RNs.cons)) (.cons rfl rfl (by first | (apply PRN.flat; rfl) | (apply PRN.flat; simp; done) | (repeat' first | exact PRN.nil | apply PRN.cons | exact RN.self rfl | exact RN.top | exact RN.ptr rfl | exact RN.sl rfl | exact RN.slf rfl | apply RN.agg | apply RN.fn | exact RNs.nil | apply RNs.cons)) .nil)) (by rw [show decide (A = B) = false from decide_eq_false (fun h => hc0 (by rw [h]))]; exact (by repeat' first | exact RN.self rfl | exact RN.top | exact RN.ptr rfl | exact RN.sl rfl | exact RN.slf rfl | apply RN.agg | apply RN.tuple | apply RN.fn | exact RNs.nil | apply RNs.cons | (apply RNs.flat; simp; done)))
  · try simp only [decide_eq_true_eq, decide_eq_false_iff_not, bne_iff_ne, beq_iff_eq, bne_eq_false_iff_eq, beq_eq_false_iff_ne, ne_eq, Bool.not_eq_true', Bool.not_eq_false'] at hc0
    refine AW.skip ?_
    refine AW.seq ?_
    refine AW.seq ?_
    refine AW.region (by kernel_rfl) ?_
    refine RunF.q (o_move rfl) rfl ?_
    first | refine RunF.q (o_len tk22 rfl) rfl ?_ | refine RunF.q (o_len_nil tk22 rfl) rfl ?_
    refine RunF.q (o_move rfl) rfl ?_
    refine AW.block ?_
    refine AW.loop (α := {i : Nat // i ≤ A.length ∧ ∀ j, j < i → A.getD j 0 = B.getD j 0}) (fun x : {i : Nat // i ≤ A.length ∧ ∀ j, j < i → A.getD j 0 = B.getD j 0} => ([(0, .sl (.r 0) 0 A.length 1 fa), (1, .sl (.r 1) 0 B.length 1 fb), (12, .int .i64 A.length), (13, .int .i64 x.1)], ⟨[ints A, ints B], []⟩)) (fun x => A.length - x.1) (fun x => ?_) ⟨0, by omega, fun j hj => absurd hj (by omega)⟩ ?_
    · obtain ⟨i, hx, hxs⟩ := x
      try dsimp only at hx hxs
      try dsimp only
      refine AW.seq ?_
      refine AW.region (by kernel_rfl) ?_
      refine RunF.q (o_lss rfl rfl) rfl ?_
      refine AW.seq ?_
      refine AW.cond rfl (fun hc1 => ?_) (fun hc1 => ?_)
      · try simp only [decide_eq_true_eq, decide_eq_false_iff_not, bne_iff_ne, beq_iff_eq, bne_eq_false_iff_eq, beq_eq_false_iff_ne, ne_eq, Bool.not_eq_true', Bool.not_eq_false'] at hc1
        refine AW.skip ?_
        refine AW.seq ?_
        refine AW.block ?_
        refine AW.seq ?_
        refine AW.region (by kernel_rfl) ?_
        refine RunF.q (o_move rfl) rfl ?_
        refine RunF.q (o_assign rfl) rfl ?_
        refine AW.seq ?_
        refine AW.draws (by kernel_rfl) (by kernel_rfl) ?_
        refine RunV.q (o_move rfl) rfl ?_
        refine RunV.q (o_move rfl) rfl ?_
        refine RunV.q (o_indexAddr (m := i) tk22 ts30 rfl rfl (by omega) (by omega)) rfl ?_
        refine RunV.q (o_load rfl tk30 ts30 rfl rfl (ints_getD A i (by omega))) rfl ?_
        refine RunV.q (o_move rfl) rfl ?_
        refine RunV.q (o_move rfl) rfl ?_
        refine RunV.q (o_indexAddr (m := i) tk22 ts30 rfl rfl (by omega) (by omega)) rfl ?_
        refine RunV.q (o_load rfl tk30 ts30 rfl rfl (ints_getD B i (by omega))) rfl ?_
        refine RunV.q (o_neq rfl rfl) rfl ?_
        refine And.intro (by kernel_rfl) ?_
        refine AW.cond rfl (fun hc2 => ?_) (fun hc2 => ?_)
        · try simp only [decide_eq_true_eq, decide_eq_false_iff_not, bne_iff_ne, beq_iff_eq, bne_eq_false_iff_eq, beq_eq_false_iff_ne, ne_eq, Bool.not_eq_true', Bool.not_eq_false'] at hc2
          refine AW.seq ?_
          refine AW.region (by kernel_rfl) ?_
          refine RunF.q (o_assign rfl) rfl ?_
          refine AW.ret ?_
          exact FinQ.ret [] [] (ress_tmp rfl ress_nil) rfl .nil (.cons rfl rfl (by first | (apply PRN.flat; rfl) | (apply PRN.flat; simp; done) | (repeat' first | exact PRN.nil | apply PRN.cons | exact RN.self rfl | exact RN.top | exact RN.ptr rfl | exact RN.sl rfl | exact RN.slf rfl | apply RN.agg | apply RN.fn | exact RNs.nil | apply RNs.cons)) (.cons rfl rfl (by first | (apply PRN.flat; rfl) | (apply PRN.flat; simp; done) | (repeat' first | exact PRN.nil | apply PRN.cons | exact RN.self rfl | exact RN.top | exact RN.ptr rfl | exact RN.sl rfl | exact RN.slf rfl | apply RN.agg | apply RN.fn | exact RNs.nil | apply RNs.cons)) .nil)) (by rw [show decide (A = B) = false from decide_eq_false (fun h => hc2 (by rw [h]))]; exact (by repeat' first | exact RN.self rfl | exact RN.top | exact RN.ptr rfl | exact RN.sl rfl | exact RN.slf rfl | apply RN.agg | apply RN.tuple | apply RN.fn | exact RNs.nil | apply RNs.cons | (apply RNs.flat; simp; done)))
        · try simp only [decide_eq_true_eq, decide_eq_false_iff_not, bne_iff_ne, beq_iff_eq, bne_eq_false_iff_eq, beq_eq_false_iff_ne, ne_eq, Bool.not_eq_true', Bool.not_eq_false'] at hc2
          refine AW.skip ?_
          refine AW.region (by kernel_rfl) ?_
          refine RunF.q (o_add rfl rfl (by first | exact i64_in _ (by omega) | rfl)) rfl ?_
          refine RunF.q (o_move rfl) rfl ?_
          exact ⟨⟨i + 1, by omega, upto_succ hxs hc2⟩, Wk.same rfl (.cons rfl (.cons rfl (.cons rfl (.cons rfl .nil)))), by dsimp only; omega⟩
      · try simp only [decide_eq_true_eq, decide_eq_false_iff_not, bne_iff_ne, beq_iff_eq, bne_eq_false_iff_eq, beq_eq_false_iff_ne, ne_eq, Bool.not_eq_true', Bool.not_eq_false'] at hc1
        refine AW.exit ?_
        refine AW.seq ?_
        refine AW.region (by kernel_rfl) ?_
        refine RunF.q (o_assign rfl) rfl ?_
        refine AW.ret ?_
        exact FinQ.ret [] [] (ress_tmp rfl ress_nil) rfl .nil (.cons rfl rfl (by first | (apply PRN.flat; rfl) | (apply PRN.flat; simp; done) | (repeat' first | exact PRN.nil | apply PRN.cons | exact RN.self rfl | exact RN.top | exact RN.ptr rfl | exact RN.sl rfl | exact RN.slf rfl | apply RN.agg | apply RN.fn | exact RNs.nil | apply RNs.cons)) (.cons rfl rfl (by first | (apply PRN.flat; rfl) | (apply PRN.flat; simp; done) | (repeat' first | exact PRN.nil | apply PRN.cons | exact RN.self rfl | exact RN.top | exact RN.ptr rfl | exact RN.sl rfl | exact RN.slf rfl | apply RN.agg | apply RN.fn | exact RNs.nil | apply RNs.cons)) .nil)) (by rw [show decide (A = B) = true from decide_eq_true (eq_of_getD (by omega) (fun j hj => hxs j (by omega)))]; exact (by repeat' first | exact RN.self rfl | exact RN.top | exact RN.ptr rfl | exact RN.sl rfl | exact RN.slf rfl | apply RN.agg | apply RN.tuple | apply RN.fn | exact RNs.nil | apply RNs.cons | (apply RNs.flat; simp; done)))
    · exact Wk.same rfl (.cons rfl (.cons rfl (.cons rfl (.cons rfl .nil))))

set_option maxHeartbeats 1000000 in
theorem rin_ok (x : Int) : SoundC Try.prog 70 [.int .i64 x] ⟨[], []⟩ { val := .bool (decide (inQ x)) } := by
  refine SoundC.of (N := 9) Try.func70 rfl rfl rfl rfl ?_
  refine AW.seq ?_
  refine AW.region (by kernel_rfl) ?_
  refine RunF.q (o_assign rfl) rfl ?_
  refine AW.seq ?_
  refine AW.region (by kernel_rfl) ?_
  refine RunF.q (o_move rfl) rfl ?_
  refine RunF.q (o_geq rfl rfl) rfl ?_
  refine RunF.br (o_move rfl) rfl (fun hb1_2 => ?_) (fun hb1_2 => ?_)
  · try simp only [decide_eq_true_eq, decide_eq_false_iff_not, bne_iff_ne, beq_iff_eq, bne_eq_false_iff_eq, beq_eq_false_iff_ne, ne_eq, Bool.not_eq_true', Bool.not_eq_false'] at hb1_2
    refine RunF.gq rfl (o_move rfl) rfl ?_
    refine RunF.gq rfl (o_leq rfl rfl) rfl ?_
    refine RunF.q (o_pick_t rfl rfl) rfl ?_
    refine RunF.q (o_assign rfl) rfl ?_
    refine AW.ret ?_
    first | exact FinQ.ret [] [] (ress_tmp rfl ress_nil) rfl .nil .nil (by rw [show decide (inQ x) = decide (x ≤ 70368744177663) from decide_eq_decide.2 (by unfold inQ; omega)]; exact (by repeat' first | exact RN.self rfl | exact RN.top | exact RN.ptr rfl | exact RN.sl rfl | exact RN.slf rfl | apply RN.agg | apply RN.tuple | apply RN.fn | exact RNs.nil | apply RNs.cons | (apply RNs.flat; simp; done))) | exact FinQ.ret [] [] (ress_tmp rfl ress_nil) rfl .nil .nil (by rw [show decide (inQ x) = false from decide_eq_false (by unfold inQ; omega)]; exact (by repeat' first | exact RN.self rfl | exact RN.top | exact RN.ptr rfl | exact RN.sl rfl | exact RN.slf rfl | apply RN.agg | apply RN.tuple | apply RN.fn | exact RNs.nil | apply RNs.cons | (apply RNs.flat; simp; done)))
  · try simp only [decide_eq_true_eq, decide_eq_false_iff_not, bne_iff_ne, beq_iff_eq, bne_eq_false_iff_eq, beq_eq_false_iff_ne, ne_eq, Bool.not_eq_true', Bool.not_eq_false'] at hb1_2
    refine RunF.gs (b := false) rfl rfl ?_
    refine RunF.gs (b := false) rfl rfl ?_
    refine RunF.q (o_pick_f rfl rfl) rfl ?_
    refine RunF.q (o_assign rfl) rfl ?_
    refine AW.ret ?_
    first | exact FinQ.ret [] [] (ress_tmp rfl ress_nil) rfl .nil .nil (by rw [show decide (inQ x) = decide (x ≤ 70368744177663) from decide_eq_decide.2 (by unfold inQ; omega)]; exact (by repeat' first | exact RN.self rfl | exact RN.top | exact RN.ptr rfl | exact RN.sl rfl | exact RN.slf rfl | apply RN.agg | apply RN.tuple | apply RN.fn | exact RNs.nil | apply RNs.cons | (apply RNs.flat; simp; done))) | exact FinQ.ret [] [] (ress_tmp rfl ress_nil) rfl .nil .nil (by rw [show decide (inQ x) = false from decide_eq_false (by unfold inQ; omega)]; exact (by repeat' first | exact RN.self rfl | exact RN.top | exact RN.ptr rfl | exact RN.sl rfl | exact RN.slf rfl | apply RN.agg | apply RN.tuple | apply RN.fn | exact RNs.nil | apply RNs.cons | (apply RNs.flat; simp; done)))

set_option maxHeartbeats 1000000 in
theorem rodd_ok (x : Int) : SoundC Try.prog 82 [.int .i64 x] ⟨[], []⟩ { val := .bool (oddQ x) } := by
  refine SoundC.of (N := 9) Try.func82 rfl rfl rfl rfl ?_
  refine AW.seq ?_
  refine AW.region (by kernel_rfl) ?_
  refine RunF.q (o_assign rfl) rfl ?_
  refine AW.seq ?_
  refine AW.region (by kernel_rfl) ?_
  refine RunF.q (o_move rfl) rfl ?_
  refine RunF.q (o_lss rfl rfl) rfl ?_
  refine RunF.br (o_move rfl) rfl (fun hb1_2 => ?_) (fun hb1_2 => ?_)
  · try simp only [decide_eq_true_eq, decide_eq_false_iff_not, bne_iff_ne, beq_iff_eq, bne_eq_false_iff_eq, beq_eq_false_iff_ne, ne_eq, Bool.not_eq_true', Bool.not_eq_false'] at hb1_2
    refine RunF.gs (b := true) rfl rfl ?_
    refine RunF.gs (b := true) rfl rfl ?_
    refine RunF.q (o_pick_t rfl rfl) rfl ?_
    refine RunF.q (o_assign rfl) rfl ?_
    refine AW.ret ?_
    first | exact FinQ.ret [] [] (ress_tmp rfl ress_nil) rfl .nil .nil (by rw [show oddQ x = decide (x > 70368744177663) from by unfold oddQ; simp; omega]; exact (by repeat' first | exact RN.self rfl | exact RN.top | exact RN.ptr rfl | exact RN.sl rfl | exact RN.slf rfl | apply RN.agg | apply RN.tuple | apply RN.fn | exact RNs.nil | apply RNs.cons | (apply RNs.flat; simp; done))) | exact FinQ.ret [] [] (ress_tmp rfl ress_nil) rfl .nil .nil (by rw [show oddQ x = true from by unfold oddQ; simp; omega]; exact (by repeat' first | exact RN.self rfl | exact RN.top | exact RN.ptr rfl | exact RN.sl rfl | exact RN.slf rfl | apply RN.agg | apply RN.tuple | apply RN.fn | exact RNs.nil | apply RNs.cons | (apply RNs.flat; simp; done)))
  · try simp only [decide_eq_true_eq, decide_eq_false_iff_not, bne_iff_ne, beq_iff_eq, bne_eq_false_iff_eq, beq_eq_false_iff_ne, ne_eq, Bool.not_eq_true', Bool.not_eq_false'] at hb1_2
    refine RunF.gq rfl (o_move rfl) rfl ?_
    refine RunF.gq rfl (o_gtr rfl rfl) rfl ?_
    refine RunF.q (o_pick_f rfl rfl) rfl ?_
    refine RunF.q (o_assign rfl) rfl ?_
    refine AW.ret ?_
    first | exact FinQ.ret [] [] (ress_tmp rfl ress_nil) rfl .nil .nil (by rw [show oddQ x = decide (x > 70368744177663) from by unfold oddQ; simp; omega]; exact (by repeat' first | exact RN.self rfl | exact RN.top | exact RN.ptr rfl | exact RN.sl rfl | exact RN.slf rfl | apply RN.agg | apply RN.tuple | apply RN.fn | exact RNs.nil | apply RNs.cons | (apply RNs.flat; simp; done))) | exact FinQ.ret [] [] (ress_tmp rfl ress_nil) rfl .nil .nil (by rw [show oddQ x = true from by unfold oddQ; simp; omega]; exact (by repeat' first | exact RN.self rfl | exact RN.top | exact RN.ptr rfl | exact RN.sl rfl | exact RN.slf rfl | apply RN.agg | apply RN.tuple | apply RN.fn | exact RNs.nil | apply RNs.cons | (apply RNs.flat; simp; done)))

set_option maxHeartbeats 1000000 in
theorem indexQ_ok (L : List Int) (f : Bool) (hL : L.length ≤ 1000000) (p : Int → Bool) (kd : Nat) (hp : ∀ x ∈ L, SoundC Try.prog kd [.int .i64 x] ⟨[], []⟩ { val := .bool (p x) }) : SoundC Try.prog 121 [.sl (.r 0) 0 L.length 1 f, .func kd [] []] ⟨[ints L], []⟩ { val := .int .i64 (findI p L) } := by
  refine SoundC.of (N := 19) Try.func121 rfl rfl rfl rfl ?_
  refine AW.seq ?_
  refine AW.region (by kernel_rfl) ?_
  refine RunF.q (o_assign rfl) rfl ?_
  refine AW.seq ?_
  refine AW.seq ?_
  refine AW.region (by kernel_rfl) ?_
  refine RunF.q (o_move rfl) rfl ?_
  first | refine RunF.q (o_len tk22 rfl) rfl ?_ | refine RunF.q (o_len_nil tk22 rfl) rfl ?_
  refine RunF.q (o_move rfl) rfl ?_
  refine AW.block ?_
  refine AW.loop (α := {i : Nat // i ≤ L.length ∧ ∀ j, j < i → p (L.getD j 0) = false}) (fun x : {i : Nat // i ≤ L.length ∧ ∀ j, j < i → p (L.getD j 0) = false} => ([(0, .sl (.r 0) 0 L.length 1 f), (1, .func kd [] []), (7, .int .i64 L.length), (8, .int .i64 x.1)], ⟨[ints L], []⟩)) (fun x => L.length - x.1) (fun x => ?_) ⟨0, by omega, fun j hj => absurd hj (by omega)⟩ ?_
  · obtain ⟨i, hx, hxs⟩ := x
    try dsimp only at hx hxs
    try dsimp only
    refine AW.seq ?_
    refine AW.region (by kernel_rfl) ?_
    refine RunF.q (o_lss rfl rfl) rfl ?_
    refine AW.seq ?_
    refine AW.cond rfl (fun hc0 => ?_) (fun hc0 => ?_)
    · try simp only [decide_eq_true_eq, decide_eq_false_iff_not, bne_iff_ne, beq_iff_eq, bne_eq_false_iff_eq, beq_eq_false_iff_ne, ne_eq, Bool.not_eq_true', Bool.not_eq_false'] at hc0
      refine AW.skip ?_
      refine AW.seq ?_
      refine AW.block ?_
      refine AW.seq ?_
      refine AW.region (by kernel_rfl) ?_
      refine RunF.q (o_move rfl) rfl ?_
      refine RunF.q (o_assign rfl) rfl ?_
      refine AW.seq ?_
      refine AW.region (by kernel_rfl) ?_
      refine RunF.q (o_move rfl) rfl ?_
      refine RunF.q (o_move rfl) rfl ?_
      refine RunF.q (o_move rfl) rfl ?_
      refine RunF.q (o_indexAddr (m := i) tk22 ts30 rfl rfl (by omega) (by omega)) rfl ?_
      refine RunF.q (o_load rfl tk30 ts30 rfl rfl (ints_getD L i (by omega))) rfl ?_
      refine RunF.q (o_call (no := 0) (nr := 1) rfl rfl rfl (by (repeat' first | exact cl_nil | exact cL_flat rfl | exact cL_flat (ints_flat _) | apply cL_vs | apply cl_cons | exact cv_flat rfl | apply cv_agg | apply cv_ptr_o | apply cv_sl_o rfl | apply cv_func | exact cO_old rfl | (apply cO_new; (focus rfl); (focus rfl)) | (apply cv_sl_r; (focus rfl); (focus rfl); (focus (simp; done)); (focus (first | exact ints_all _ | rfl))) | (apply cv_ptr_r rfl ?_ rfl rfl) | (simp only [List.nil_append, List.cons_append, List.length_cons, List.length_nil, Nat.zero_add, Nat.reduceAdd, List.set_cons_zero, List.set_cons_succ]; rfl) | rfl)) (by rfl) (by exact hp _ (getD_mem (by omega))) (by rfl) rfl rfl (by first | exact reV_bare _ _ rfl | (simp only [reV, reVs, List.all_cons, List.all_nil, AV.flat, Bool.and_true, Bool.true_and, Bool.false_and, Bool.and_false, Bool.false_eq_true, reduceIte, CS.de, List.getElem?_cons_zero, List.getElem?_cons_succ, List.getElem?_nil, List.length_cons, List.length_nil, Nat.reduceSub, Nat.reduceAdd, Nat.zero_add, Nat.add_zero, Nat.sub_self]; rfl)) rfl) (by rfl) ?_
      refine AW.cond rfl (fun hc1 => ?_) (fun hc1 => ?_)
      · try simp only [decide_eq_true_eq, decide_eq_false_iff_not, bne_iff_ne, beq_iff_eq, bne_eq_false_iff_eq, beq_eq_false_iff_ne, ne_eq, Bool.not_eq_true', Bool.not_eq_false'] at hc1
        refine AW.seq ?_
        refine AW.region (by kernel_rfl) ?_
        refine RunF.q (o_move rfl) rfl ?_
        refine RunF.q (o_assign rfl) rfl ?_
        refine AW.ret ?_
        exact FinQ.ret [] [] (ress_tmp rfl ress_nil) rfl .nil (.cons rfl rfl (by first | (apply PRN.flat; rfl) | (apply PRN.flat; simp; done) | (repeat' first | exact PRN.nil | apply PRN.cons | exact RN.self rfl | exact RN.top | exact RN.ptr rfl | exact RN.sl rfl | exact RN.slf rfl | apply RN.agg | apply RN.fn | exact RNs.nil | apply RNs.cons)) .nil) (by rw [show findI p L = i from findI_at (by omega) hxs hc1]; exact (by repeat' first | exact RN.self rfl | exact RN.top | exact RN.ptr rfl | exact RN.sl rfl | exact RN.slf rfl | apply RN.agg | apply RN.tuple | apply RN.fn | exact RNs.nil | apply RNs.cons | (apply RNs.flat; simp; done)))
      · try simp only [decide_eq_true_eq, decide_eq_false_iff_not, bne_iff_ne, beq_iff_eq, bne_eq_false_iff_eq, beq_eq_false_iff_ne, ne_eq, Bool.not_eq_true', Bool.not_eq_false'] at hc1
        refine AW.skip ?_
        refine AW.region (by kernel_rfl) ?_
        refine RunF.q (o_add rfl rfl (by first | exact i64_in _ (by omega) | rfl)) rfl ?_
        refine RunF.q (o_move rfl) rfl ?_
        exact ⟨⟨i + 1, by omega, upto_succ hxs hc1⟩, Wk.same rfl (.cons rfl (.cons rfl (.cons rfl (.cons rfl .nil)))), by dsimp only; omega⟩
    · try simp only [decide_eq_true_eq, decide_eq_false_iff_not, bne_iff_ne, beq_iff_eq, bne_eq_false_iff_eq, beq_eq_false_iff_ne, ne_eq, Bool.not_eq_true', Bool.not_eq_false'] at hc0
      refine AW.exit ?_
      refine AW.seq ?_
      refine AW.region (by kernel_rfl) ?_
      refine RunF.q (o_assign rfl) rfl ?_
      refine AW.ret ?_
      exact FinQ.ret [] [] (ress_tmp rfl ress_nil) rfl .nil (.cons rfl rfl (by first | (apply PRN.flat; rfl) | (apply PRN.flat; simp; done) | (repeat' first | exact PRN.nil | apply PRN.cons | exact RN.self rfl | exact RN.top | exact RN.ptr rfl | exact RN.sl rfl | exact RN.slf rfl | apply RN.agg | apply RN.fn | exact RNs.nil | apply RNs.cons)) .nil) (by rw [show findI p L = -1 from findI_none (fun j hj => hxs j (by omega))]; exact (by repeat' first | exact RN.self rfl | exact RN.top | exact RN.ptr rfl | exact RN.sl rfl | exact RN.slf rfl | apply RN.agg | apply RN.tuple | apply RN.fn | exact RNs.nil | apply RNs.cons | (apply RNs.flat; simp; done)))
  · exact Wk.same rfl (.cons rfl (.cons rfl (.cons rfl (.cons rfl .nil))))

set_option maxHeartbeats 1000000 in
theorem indexQ_nil (kd : Nat) : SoundC Try.prog 121 [.nilsl, .func kd [] []] ⟨[], []⟩ { val := .int .i64 (-1) } := by
  refine SoundC.of (N := 19) Try.func121 rfl rfl rfl rfl ?_
  refine AW.seq ?_
  refine AW.region (by kernel_rfl) ?_
  refine RunF.q (o_assign rfl) rfl ?_
  refine AW.seq ?_
  refine AW.seq ?_
  refine AW.region (by kernel_rfl) ?_
  refine RunF.q (o_move rfl) rfl ?_
  first | refine RunF.q (o_len tk22 rfl) rfl ?_ | refine RunF.q (o_len_nil tk22 rfl) rfl ?_
  refine RunF.q (o_move rfl) rfl ?_
  refine AW.block ?_
  refine AW.loop (α := Unit) (fun x : Unit => ([(7, .int .i64 0), (8, .int .i64 0)], ⟨[], []⟩)) (fun x => 0) (fun x => ?_) () ?_
  · skip
    refine AW.seq ?_
    refine AW.region (by kernel_rfl) ?_
    refine RunF.q (o_lss rfl rfl) rfl ?_
    refine AW.seq ?_
    refine AW.cond rfl (fun hc0 => absurd hc0 (by simp)) (fun hc0 => ?_)
    refine AW.exit ?_
    refine AW.seq ?_
    refine AW.region (by kernel_rfl) ?_
    refine RunF.q (o_assign rfl) rfl ?_
    refine AW.ret ?_
    exact FinQ.ret [] [] (ress_tmp rfl ress_nil) rfl .nil .nil (by repeat' first | exact RN.self rfl | exact RN.top | exact RN.ptr rfl | exact RN.sl rfl | exact RN.slf rfl | apply RN.agg | apply RN.tuple | apply RN.fn | exact RNs.nil | apply RNs.cons | (apply RNs.flat; simp; done))
  · exact Wk.same rfl (.cons rfl (.cons rfl .nil))

set_option maxHeartbeats 1000000 in
theorem containsQ_ok (L : List Int) (f : Bool) (hL : L.length ≤ 1000000) (p : Int → Bool) (kd : Nat) (hp : ∀ x ∈ L, SoundC Try.prog kd [.int .i64 x] ⟨[], []⟩ { val := .bool (p x) }) : SoundC Try.prog 83 [.sl (.r 0) 0 L.length 1 f, .func kd [] []] ⟨[ints L], []⟩ { val := .bool (L.any p) } := by
  refine SoundC.of (N := 9) Try.func83 rfl rfl rfl rfl ?_
  refine AW.seq ?_
  refine AW.region (by kernel_rfl) ?_
  refine RunF.q (o_assign rfl) rfl ?_
  refine AW.seq ?_
  refine AW.region (by kernel_rfl) ?_
  refine RunF.q (o_move rfl) rfl ?_
  refine RunF.q (o_move rfl) rfl ?_
  refine RunF.q (o_call (no := 0) (nr := 1) rfl rfl rfl (by (repeat' first | exact cl_nil | exact cL_flat rfl | exact cL_flat (ints_flat _) | apply cL_vs | apply cl_cons | exact cv_flat rfl | apply cv_agg | apply cv_ptr_o | apply cv_sl_o rfl | apply cv_func | exact cO_old rfl | (apply cO_new; (focus rfl); (focus rfl)) | (apply cv_sl_r; (focus rfl); (focus rfl); (focus (simp; done)); (focus (first | exact ints_all _ | rfl))) | (apply cv_ptr_r rfl ?_ rfl rfl) | (simp only [List.nil_append, List.cons_append, List.length_cons, List.length_nil, Nat.zero_add, Nat.reduceAdd, List.set_cons_zero, List.set_cons_succ]; rfl) | rfl)) (by rfl) (by exact indexQ_ok L f hL p kd hp) (by rfl) rfl rfl (by first | exact reV_bare _ _ rfl | (simp only [reV, reVs, List.all_cons, List.all_nil, AV.flat, Bool.and_true, Bool.true_and, Bool.false_and, Bool.and_false, Bool.false_eq_true, reduceIte, CS.de, List.getElem?_cons_zero, List.getElem?_cons_succ, List.getElem?_nil, List.length_cons, List.length_nil, Nat.reduceSub, Nat.reduceAdd, Nat.zero_add, Nat.add_zero, Nat.sub_self]; rfl)) rfl) (by rfl) ?_
  refine RunF.q (o_geq rfl rfl) rfl ?_
  refine RunF.q (o_assign rfl) rfl ?_
  refine AW.ret ?_
  exact FinQ.ret [] [] (ress_tmp rfl ress_nil) rfl .nil (.cons rfl rfl (by first | (apply PRN.flat; rfl) | (apply PRN.flat; simp; done) | (repeat' first | exact PRN.nil | apply PRN.cons | exact RN.self rfl | exact RN.top | exact RN.ptr rfl | exact RN.sl rfl | exact RN.slf rfl | apply RN.agg | apply RN.fn | exact RNs.nil | apply RNs.cons)) .nil) (by rw [← findI_any]; exact (by repeat' first | exact RN.self rfl | exact RN.top | exact RN.ptr rfl | exact RN.sl rfl | exact RN.slf rfl | apply RN.agg | apply RN.tuple | apply RN.fn | exact RNs.nil | apply RNs.cons | (apply RNs.flat; simp; done)))

set_option maxHeartbeats 1000000 in
theorem containsQ_nil (kd : Nat) : SoundC Try.prog 83 [.nilsl, .func kd [] []] ⟨[], []⟩ { val := .bool false } := by
  refine SoundC.of (N := 9) Try.func83 rfl rfl rfl rfl ?_
  refine AW.seq ?_
  refine AW.region (by kernel_rfl) ?_
  refine RunF.q (o_assign rfl) rfl ?_
  refine AW.seq ?_
  refine AW.region (by kernel_rfl) ?_
  refine RunF.q (o_move rfl) rfl ?_
  refine RunF.q (o_move rfl) rfl ?_
  refine RunF.q (o_call (no := 0) (nr := 0) rfl rfl rfl (by (repeat' first | exact cl_nil | exact cL_flat rfl | exact cL_flat (ints_flat _) | apply cL_vs | apply cl_cons | exact cv_flat rfl | apply cv_agg | apply cv_ptr_o | apply cv_sl_o rfl | apply cv_func | exact cO_old rfl | (apply cO_new; (focus rfl); (focus rfl)) | (apply cv_sl_r; (focus rfl); (focus rfl); (focus (simp; done)); (focus (first | exact ints_all _ | rfl))) | (apply cv_ptr_r rfl ?_ rfl rfl) | (simp only [List.nil_append, List.cons_append, List.length_cons, List.length_nil, Nat.zero_add, Nat.reduceAdd, List.set_cons_zero, List.set_cons_succ]; rfl) | rfl)) (by rfl) (by exact indexQ_nil kd) (by rfl) rfl rfl (by first | exact reV_bare _ _ rfl | (simp only [reV, reVs, List.all_cons, List.all_nil, AV.flat, Bool.and_true, Bool.true_and, Bool.false_and, Bool.and_false, Bool.false_eq_true, reduceIte, CS.de, List.getElem?_cons_zero, List.getElem?_cons_succ, List.getElem?_nil, List.length_cons, List.length_nil, Nat.reduceSub, Nat.reduceAdd, Nat.zero_add, Nat.add_zero, Nat.sub_self]; rfl)) rfl) (by rfl) ?_
  refine RunF.q (o_geq rfl rfl) rfl ?_
  refine RunF.q (o_assign rfl) rfl ?_
  refine AW.ret ?_
  exact FinQ.ret [] [] (ress_tmp rfl ress_nil) rfl .nil .nil (by repeat' first | exact RN.self rfl | exact RN.top | exact RN.ptr rfl | exact RN.sl rfl | exact RN.slf rfl | apply RN.agg | apply RN.tuple | apply RN.fn | exact RNs.nil | apply RNs.cons | (apply RNs.flat; simp; done))

set_option maxHeartbeats 1000000 in
theorem rright_ok (R C : Int) (L : List Int) (f : Bool) : SoundC Try.prog 25 [.agg [.int .i64 R, .int .i64 C, .sl (.r 0) 0 L.length 1 f]] ⟨[ints L], []⟩ { val := .bool (rightM R C L) } := by
  refine SoundC.of (N := 49) Try.func25 rfl rfl rfl rfl ?_
  refine AW.seq ?_
  refine AW.region (by kernel_rfl) ?_
  refine RunF.w (o_box (nm := 0) rfl rfl rfl) (by simp only [H.app, appO, patchAll, patch, List.map_cons, List.map_nil, List.append_nil, List.nil_append, List.cons_append, List.set_cons_zero, List.set_cons_succ, Option.map_some, Option.map_none, List.contains_cons, List.contains_nil, Nat.reduceAdd, Nat.reduceEqDiff, Nat.reduceBEq, Bool.or_false, Bool.false_eq_true, reduceIte, Nat.zero_add]; rfl) ?_
  refine RunF.q (o_assign rfl) rfl ?_
  refine AW.seq ?_
  refine AW.seq ?_
  refine AW.region (by kernel_rfl) ?_
  refine RunF.q (o_fieldAddr rfl tk24 rfl ts3 rfl) rfl ?_
  refine RunF.q (o_load rfl tk3 ts3 rfl rfl rfl) rfl ?_
  refine RunF.q (o_lss rfl rfl) rfl ?_
  refine RunF.br (o_move rfl) rfl (fun hb1_3 => ?_) (fun hb1_3 => ?_)
  · try simp only [decide_eq_true_eq, decide_eq_false_iff_not, bne_iff_ne, beq_iff_eq, bne_eq_false_iff_eq, beq_eq_false_iff_ne, ne_eq, Bool.not_eq_true', Bool.not_eq_false'] at hb1_3
    refine RunF.gs (b := true) rfl rfl ?_
    refine RunF.gs (b := true) rfl rfl ?_
    refine RunF.gs (b := true) rfl rfl ?_
    refine RunF.q (o_pick_t rfl rfl) rfl ?_
    refine RunF.q (o_move rfl) rfl ?_
    refine RunF.gs (b := true) rfl rfl ?_
    refine RunF.gs (b := true) rfl rfl ?_
    refine RunF.gs (b := true) rfl rfl ?_
    refine RunF.q (o_pick_t rfl rfl) rfl ?_
    refine RunF.q (o_move rfl) rfl ?_
    refine RunF.gs (b := true) rfl rfl ?_
    refine RunF.gs (b := true) rfl rfl ?_
    refine RunF.gs (b := true) rfl rfl ?_
    refine RunF.q (o_pick_t rfl rfl) rfl ?_
    refine RunF.q (o_move rfl) rfl ?_
    refine RunF.gs (b := true) rfl rfl ?_
    refine RunF.gs (b := true) rfl rfl ?_
    refine RunF.gs (b := true) rfl rfl ?_
    refine RunF.gs (b := true) rfl rfl ?_
    refine RunF.gs (b := true) rfl rfl ?_
    refine RunF.gs (b := true) rfl rfl ?_
    refine RunF.gs (b := true) rfl rfl ?_
    refine RunF.gs (b := true) rfl rfl ?_
    refine RunF.gs (b := true) rfl rfl ?_
    refine RunF.q (o_pick_t rfl rfl) rfl ?_
    refine AW.cond rfl (fun hc0 => ?_) (fun hc0 => absurd hc0 (by simp))
    refine AW.seq ?_
    refine AW.region (by kernel_rfl) ?_
    refine RunF.q (o_assign rfl) rfl ?_
    refine AW.ret ?_
    first | (exact absurd rfl (by simp)) | exact FinQ.ret [] [] (ress_tmp rfl ress_nil) rfl .nil (.cons rfl rfl (by first | (apply PRN.flat; rfl) | (apply PRN.flat; simp; done) | (repeat' first | exact PRN.nil | apply PRN.cons | exact RN.self rfl | exact RN.top | exact RN.ptr rfl | exact RN.sl rfl | exact RN.slf rfl | apply RN.agg | apply RN.fn | exact RNs.nil | apply RNs.cons)) .nil) (by rw [show rightM R C L = false from decide_eq_false (by rintro ⟨h1, h2, h3, h4, h5, _⟩; (try simp only [List.length_nil, Int.natCast_zero] at *); omega)]; exact (by repeat' first | exact RN.self rfl | exact RN.top | exact RN.ptr rfl | exact RN.sl rfl | exact RN.slf rfl | apply RN.agg | apply RN.tuple | apply RN.fn | exact RNs.nil | apply RNs.cons | (apply RNs.flat; simp; done)))
  · try simp only [decide_eq_true_eq, decide_eq_false_iff_not, bne_iff_ne, beq_iff_eq, bne_eq_false_iff_eq, beq_eq_false_iff_ne, ne_eq, Bool.not_eq_true', Bool.not_eq_false'] at hb1_3
    refine RunF.gq rfl (o_fieldAddr rfl tk24 rfl ts3 rfl) rfl ?_
    refine RunF.gq rfl (o_load rfl tk3 ts3 rfl rfl rfl) rfl ?_
    refine RunF.gq rfl (o_gtr rfl rfl) rfl ?_
    refine RunF.q (o_pick_f rfl rfl) rfl ?_
    refine RunF.br (o_move rfl) rfl (fun hb1_8 => ?_) (fun hb1_8 => ?_)
    · try simp only [decide_eq_true_eq, decide_eq_false_iff_not, bne_iff_ne, beq_iff_eq, bne_eq_false_iff_eq, beq_eq_false_iff_ne, ne_eq, Bool.not_eq_true', Bool.not_eq_false'] at hb1_8
      refine RunF.gs (b := true) rfl rfl ?_
      refine RunF.gs (b := true) rfl rfl ?_
      refine RunF.gs (b := true) rfl rfl ?_
      refine RunF.q (o_pick_t rfl rfl) rfl ?_
      refine RunF.q (o_move rfl) rfl ?_
      refine RunF.gs (b := true) rfl rfl ?_
      refine RunF.gs (b := true) rfl rfl ?_
      refine RunF.gs (b := true) rfl rfl ?_
      refine RunF.q (o_pick_t rfl rfl) rfl ?_
      refine RunF.q (o_move rfl) rfl ?_
      refine RunF.gs (b := true) rfl rfl ?_
      refine RunF.gs (b := true) rfl rfl ?_
      refine RunF.gs (b := true) rfl rfl ?_
      refine RunF.gs (b := true) rfl rfl ?_
      refine RunF.gs (b := true) rfl rfl ?_
      refine RunF.gs (b := true) rfl rfl ?_
      refine RunF.gs (b := true) rfl rfl ?_
      refine RunF.gs (b := true) rfl rfl ?_
      refine RunF.gs (b := true) rfl rfl ?_
      refine RunF.q (o_pick_t rfl rfl) rfl ?_
      refine AW.cond rfl (fun hc0 => ?_) (fun hc0 => absurd hc0 (by simp))
      refine AW.seq ?_
      refine AW.region (by kernel_rfl) ?_
      refine RunF.q (o_assign rfl) rfl ?_
      refine AW.ret ?_
      first | (exact absurd rfl (by simp)) | exact FinQ.ret [] [] (ress_tmp rfl ress_nil) rfl .nil (.cons rfl rfl (by first | (apply PRN.flat; rfl) | (apply PRN.flat; simp; done) | (repeat' first | exact PRN.nil | apply PRN.cons | exact RN.self rfl | exact RN.top | exact RN.ptr rfl | exact RN.sl rfl | exact RN.slf rfl | apply RN.agg | apply RN.fn | exact RNs.nil | apply RNs.cons)) .nil) (by rw [show rightM R C L = false from decide_eq_false (by rintro ⟨h1, h2, h3, h4, h5, _⟩; (try simp only [List.length_nil, Int.natCast_zero] at *); omega)]; exact (by repeat' first | exact RN.self rfl | exact RN.top | exact RN.ptr rfl | exact RN.sl rfl | exact RN.slf rfl | apply RN.agg | apply RN.tuple | apply RN.fn | exact RNs.nil | apply RNs.cons | (apply RNs.flat; simp; done)))
    · try simp only [decide_eq_true_eq, decide_eq_false_iff_not, bne_iff_ne, beq_iff_eq, bne_eq_false_iff_eq, beq_eq_false_iff_ne, ne_eq, Bool.not_eq_true', Bool.not_eq_false'] at hb1_8
      refine RunF.gq rfl (o_fieldAddr rfl tk24 rfl ts3 rfl) rfl ?_
      refine RunF.gq rfl (o_load rfl tk3 ts3 rfl rfl rfl) rfl ?_
      refine RunF.gq rfl (o_lss rfl rfl) rfl ?_
      refine RunF.q (o_pick_f rfl rfl) rfl ?_
      refine RunF.br (o_move rfl) rfl (fun hb1_13 => ?_) (fun hb1_13 => ?_)
      · try simp only [decide_eq_true_eq, decide_eq_false_iff_not, bne_iff_ne, beq_iff_eq, bne_eq_false_iff_eq, beq_eq_false_iff_ne, ne_eq, Bool.not_eq_true', Bool.not_eq_false'] at hb1_13
        refine RunF.gs (b := true) rfl rfl ?_
        refine RunF.gs (b := true) rfl rfl ?_
        refine RunF.gs (b := true) rfl rfl ?_
        refine RunF.q (o_pick_t rfl rfl) rfl ?_
        refine RunF.q (o_move rfl) rfl ?_
        refine RunF.gs (b := true) rfl rfl ?_
        refine RunF.gs (b := true) rfl rfl ?_
        refine RunF.gs (b := true) rfl rfl ?_
        refine RunF.gs (b := true) rfl rfl ?_
        refine RunF.gs (b := true) rfl rfl ?_
        refine RunF.gs (b := true) rfl rfl ?_
        refine RunF.gs (b := true) rfl rfl ?_
        refine RunF.gs (b := true) rfl rfl ?_
        refine RunF.gs (b := true) rfl rfl ?_
        refine RunF.q (o_pick_t rfl rfl) rfl ?_
        refine AW.cond rfl (fun hc0 => ?_) (fun hc0 => absurd hc0 (by simp))
        refine AW.seq ?_
        refine AW.region (by kernel_rfl) ?_
        refine RunF.q (o_assign rfl) rfl ?_
        refine AW.ret ?_
        first | (exact absurd rfl (by simp)) | exact FinQ.ret [] [] (ress_tmp rfl ress_nil) rfl .nil (.cons rfl rfl (by first | (apply PRN.flat; rfl) | (apply PRN.flat; simp; done) | (repeat' first | exact PRN.nil | apply PRN.cons | exact RN.self rfl | exact RN.top | exact RN.ptr rfl | exact RN.sl rfl | exact RN.slf rfl | apply RN.agg | apply RN.fn | exact RNs.nil | apply RNs.cons)) .nil) (by rw [show rightM R C L = false from decide_eq_false (by rintro ⟨h1, h2, h3, h4, h5, _⟩; (try simp only [List.length_nil, Int.natCast_zero] at *); omega)]; exact (by repeat' first | exact RN.self rfl | exact RN.top | exact RN.ptr rfl | exact RN.sl rfl | exact RN.slf rfl | apply RN.agg | apply RN.tuple | apply RN.fn | exact RNs.nil | apply RNs.cons | (apply RNs.flat; simp; done)))
      · try simp only [decide_eq_true_eq, decide_eq_false_iff_not, bne_iff_ne, beq_iff_eq, bne_eq_false_iff_eq, beq_eq_false_iff_ne, ne_eq, Bool.not_eq_true', Bool.not_eq_false'] at hb1_13
        refine RunF.gq rfl (o_fieldAddr rfl tk24 rfl ts3 rfl) rfl ?_
        refine RunF.gq rfl (o_load rfl tk3 ts3 rfl rfl rfl) rfl ?_
        refine RunF.gq rfl (o_gtr rfl rfl) rfl ?_
        refine RunF.q (o_pick_f rfl rfl) rfl ?_
        refine RunF.br (o_move rfl) rfl (fun hb1_18 => ?_) (fun hb1_18 => ?_)
        · try simp only [decide_eq_true_eq, decide_eq_false_iff_not, bne_iff_ne, beq_iff_eq, bne_eq_false_iff_eq, beq_eq_false_iff_ne, ne_eq, Bool.not_eq_true', Bool.not_eq_false'] at hb1_18
          refine RunF.gs (b := true) rfl rfl ?_
          refine RunF.gs (b := true) rfl rfl ?_
          refine RunF.gs (b := true) rfl rfl ?_
          refine RunF.gs (b := true) rfl rfl ?_
          refine RunF.gs (b := true) rfl rfl ?_
          refine RunF.gs (b := true) rfl rfl ?_
          refine RunF.gs (b := true) rfl rfl ?_
          refine RunF.gs (b := true) rfl rfl ?_
          refine RunF.gs (b := true) rfl rfl ?_
          refine RunF.q (o_pick_t rfl rfl) rfl ?_
          refine AW.cond rfl (fun hc0 => ?_) (fun hc0 => absurd hc0 (by simp))
          refine AW.seq ?_
          refine AW.region (by kernel_rfl) ?_
          refine RunF.q (o_assign rfl) rfl ?_
          refine AW.ret ?_
          first | (exact absurd rfl (by simp)) | exact FinQ.ret [] [] (ress_tmp rfl ress_nil) rfl .nil (.cons rfl rfl (by first | (apply PRN.flat; rfl) | (apply PRN.flat; simp; done) | (repeat' first | exact PRN.nil | apply PRN.cons | exact RN.self rfl | exact RN.top | exact RN.ptr rfl | exact RN.sl rfl | exact RN.slf rfl | apply RN.agg | apply RN.fn | exact RNs.nil | apply RNs.cons)) .nil) (by rw [show rightM R C L = false from decide_eq_false (by rintro ⟨h1, h2, h3, h4, h5, _⟩; (try simp only [List.length_nil, Int.natCast_zero] at *); omega)]; exact (by repeat' first | exact RN.self rfl | exact RN.top | exact RN.ptr rfl | exact RN.sl rfl | exact RN.slf rfl | apply RN.agg | apply RN.tuple | apply RN.fn | exact RNs.nil | apply RNs.cons | (apply RNs.flat; simp; done)))
        · try simp only [decide_eq_true_eq, decide_eq_false_iff_not, bne_iff_ne, beq_iff_eq, bne_eq_false_iff_eq, beq_eq_false_iff_ne, ne_eq, Bool.not_eq_true', Bool.not_eq_false'] at hb1_18
          have hRC := Int.mul_le_mul (show R ≤ 8 by omega) (show C ≤ 8 by omega) (by omega) (by omega)
          have hRC1 : 1 ≤ R * C := by have := Int.mul_le_mul (show (1 : Int) ≤ R by omega) (show (1 : Int) ≤ C by omega) (by omega) (by omega); omega
          refine RunF.gq rfl (o_fieldAddr rfl tk24 rfl ts22 rfl) rfl ?_
          refine RunF.gq rfl (o_load rfl tk22 ts22 rfl rfl rfl) rfl ?_
          first | refine RunF.gq rfl (o_len tk22 rfl) rfl ?_ | refine RunF.gq rfl (o_len_nil tk22 rfl) rfl ?_
          refine RunF.gq rfl (o_fieldAddr rfl tk24 rfl ts3 rfl) rfl ?_
          refine RunF.gq rfl (o_load rfl tk3 ts3 rfl rfl rfl) rfl ?_
          refine RunF.gq rfl (o_fieldAddr rfl tk24 rfl ts3 rfl) rfl ?_
          refine RunF.gq rfl (o_load rfl tk3 ts3 rfl rfl rfl) rfl ?_
          refine RunF.gq rfl (o_mul rfl rfl (by first | exact i64_in _ (by omega) | rfl)) rfl ?_
          refine RunF.gq rfl (o_neq rfl rfl) rfl ?_
          refine RunF.q (o_pick_f rfl rfl) rfl ?_
          refine AW.cond rfl (fun hc0 => ?_) (fun hc0 => ?_)
          · try simp only [decide_eq_true_eq, decide_eq_false_iff_not, bne_iff_ne, beq_iff_eq, bne_eq_false_iff_eq, beq_eq_false_iff_ne, ne_eq, Bool.not_eq_true', Bool.not_eq_false'] at hc0
            refine AW.seq ?_
            refine AW.region (by kernel_rfl) ?_
            refine RunF.q (o_assign rfl) rfl ?_
            refine AW.ret ?_
            first | (exact absurd rfl (by simp)) | exact FinQ.ret [] [] (ress_tmp rfl ress_nil) rfl .nil (.cons rfl rfl (by first | (apply PRN.flat; rfl) | (apply PRN.flat; simp; done) | (repeat' first | exact PRN.nil | apply PRN.cons | exact RN.self rfl | exact RN.top | exact RN.ptr rfl | exact RN.sl rfl | exact RN.slf rfl | apply RN.agg | apply RN.fn | exact RNs.nil | apply RNs.cons)) .nil) (by rw [show rightM R C L = false from decide_eq_false (by rintro ⟨h1, h2, h3, h4, h5, _⟩; (try simp only [List.length_nil, Int.natCast_zero] at *); omega)]; exact (by repeat' first | exact RN.self rfl | exact RN.top | exact RN.ptr rfl | exact RN.sl rfl | exact RN.slf rfl | apply RN.agg | apply RN.tuple | apply RN.fn | exact RNs.nil | apply RNs.cons | (apply RNs.flat; simp; done)))
          · try simp only [decide_eq_true_eq, decide_eq_false_iff_not, bne_iff_ne, beq_iff_eq, bne_eq_false_iff_eq, beq_eq_false_iff_ne, ne_eq, Bool.not_eq_true', Bool.not_eq_false'] at hc0
            refine AW.skip ?_
            refine AW.seq ?_
            refine AW.seq ?_
            refine AW.region (by kernel_rfl) ?_
            refine RunF.q (o_assign rfl) rfl ?_
            refine AW.block ?_
            refine AW.loop (α := {i : Nat // i ≤ L.length ∧ ∀ j, j < i → inQ (L.getD j 0)}) (fun x : {i : Nat // i ≤ L.length ∧ ∀ j, j < i → inQ (L.getD j 0)} => ([(1, .ptr (.o 0) 0), (3, .int .i64 x.1)], ⟨[ints L], [some [.int .i64 R, .int .i64 C, .sl (.r 0) 0 L.length 1 f]]⟩)) (fun x => L.length - x.1) (fun x => ?_) ⟨0, by omega, fun j hj => absurd hj (by omega)⟩ ?_
            · obtain ⟨i, hx, hxs⟩ := x
              try dsimp only at hx hxs
              try dsimp only
              refine AW.seq ?_
              refine AW.seq ?_
              refine AW.region (by kernel_rfl) ?_
              refine RunF.q (o_move rfl) rfl ?_
              refine RunF.q (o_fieldAddr rfl tk24 rfl ts22 rfl) rfl ?_
              refine RunF.q (o_load rfl tk22 ts22 rfl rfl rfl) rfl ?_
              first | refine RunF.q (o_len tk22 rfl) rfl ?_ | refine RunF.q (o_len_nil tk22 rfl) rfl ?_
              refine RunF.q (o_lss rfl rfl) rfl ?_
              refine AW.cond rfl (fun hc1 => ?_) (fun hc1 => ?_)
              · try simp only [decide_eq_true_eq, decide_eq_false_iff_not, bne_iff_ne, beq_iff_eq, bne_eq_false_iff_eq, beq_eq_false_iff_ne, ne_eq, Bool.not_eq_true', Bool.not_eq_false'] at hc1
                refine AW.skip ?_
                refine AW.seq ?_
                refine AW.block ?_
                refine AW.seq ?_
                refine AW.region (by kernel_rfl) ?_
                refine RunF.q (o_fieldAddr rfl tk24 rfl ts22 rfl) rfl ?_
                refine RunF.q (o_load rfl tk22 ts22 rfl rfl rfl) rfl ?_
                refine RunF.q (o_move rfl) rfl ?_
                refine RunF.q (o_indexAddr (m := i) tk22 ts30 rfl rfl (by omega) (by omega)) rfl ?_
                refine RunF.q (o_load rfl tk30 ts30 rfl rfl (ints_getD L i (by omega))) rfl ?_
                refine RunF.q (o_call (no := 1) (nr := 1) rfl rfl rfl (by (repeat' first | exact cl_nil | exact cL_flat rfl | exact cL_flat (ints_flat _) | apply cL_vs | apply cl_cons | exact cv_flat rfl | apply cv_agg | apply cv_ptr_o | apply cv_sl_o rfl | apply cv_func | exact cO_old rfl | (apply cO_new; (focus rfl); (focus rfl)) | (apply cv_sl_r; (focus rfl); (focus rfl); (focus (simp; done)); (focus (first | exact ints_all _ | rfl))) | (apply cv_ptr_r rfl ?_ rfl rfl) | (simp only [List.nil_append, List.cons_append, List.length_cons, List.length_nil, Nat.zero_add, Nat.reduceAdd, List.set_cons_zero, List.set_cons_succ]; rfl) | rfl)) (by rfl) (by exact rin_ok _) (by rfl) rfl rfl (by first | exact reV_bare _ _ rfl | (simp only [reV, reVs, List.all_cons, List.all_nil, AV.flat, Bool.and_true, Bool.true_and, Bool.false_and, Bool.and_false, Bool.false_eq_true, reduceIte, CS.de, List.getElem?_cons_zero, List.getElem?_cons_succ, List.getElem?_nil, List.length_cons, List.length_nil, Nat.reduceSub, Nat.reduceAdd, Nat.zero_add, Nat.add_zero, Nat.sub_self]; rfl)) rfl) (by rfl) ?_
                refine RunF.q (o_assign rfl) rfl ?_
                refine AW.seq ?_
                refine AW.region (by kernel_rfl) ?_
                refine RunF.q (o_move rfl) rfl ?_
                refine RunF.q (o_not rfl) rfl ?_
                refine AW.cond rfl (fun hc2 => ?_) (fun hc2 => ?_)
                · try simp only [decide_eq_true_eq, decide_eq_false_iff_not, bne_iff_ne, beq_iff_eq, bne_eq_false_iff_eq, beq_eq_false_iff_ne, ne_eq, Bool.not_eq_true', Bool.not_eq_false'] at hc2
                  refine AW.seq ?_
                  refine AW.region (by kernel_rfl) ?_
                  refine RunF.q (o_assign rfl) rfl ?_
                  refine AW.ret ?_
                  exact FinQ.ret [] [] (ress_tmp rfl ress_nil) rfl .nil (.cons rfl rfl (by first | (apply PRN.flat; rfl) | (apply PRN.flat; simp; done) | (repeat' first | exact PRN.nil | apply PRN.cons | exact RN.self rfl | exact RN.top | exact RN.ptr rfl | exact RN.sl rfl | exact RN.slf rfl | apply RN.agg | apply RN.fn | exact RNs.nil | apply RNs.cons)) .nil) (by rw [show rightM R C L = false from decide_eq_false (fun h => absurd (h.2.2.2.2.2 _ (getD_mem (show i < L.length by omega))) (by simpa using hc2))]; exact (by repeat' first | exact RN.self rfl | exact RN.top | exact RN.ptr rfl | exact RN.sl rfl | exact RN.slf rfl | apply RN.agg | apply RN.tuple | apply RN.fn | exact RNs.nil | apply RNs.cons | (apply RNs.flat; simp; done)))
                · try simp only [decide_eq_true_eq, decide_eq_false_iff_not, bne_iff_ne, beq_iff_eq, bne_eq_false_iff_eq, beq_eq_false_iff_ne, ne_eq, Bool.not_eq_true', Bool.not_eq_false'] at hc2
                  refine AW.skip ?_
                  refine AW.region (by kernel_rfl) ?_
                  refine RunF.q (o_move rfl) rfl ?_
                  refine RunF.q (o_add rfl rfl (by first | exact i64_in _ (by omega) | rfl)) rfl ?_
                  refine RunF.q (o_assign rfl) rfl ?_
                  exact ⟨⟨i + 1, by omega, upto_succ hxs (by simpa using hc2)⟩, Wk.same rfl (.cons rfl (.cons rfl .nil)), by dsimp only; omega⟩
              · try simp only [decide_eq_true_eq, decide_eq_false_iff_not, bne_iff_ne, beq_iff_eq, bne_eq_false_iff_eq, beq_eq_false_iff_ne, ne_eq, Bool.not_eq_true', Bool.not_eq_false'] at hc1
                refine AW.exit ?_
                refine AW.seq ?_
                refine AW.region (by kernel_rfl) ?_
                refine RunF.q (o_assign rfl) rfl ?_
                refine AW.ret ?_
                exact FinQ.ret [] [] (ress_tmp rfl ress_nil) rfl .nil (.cons rfl rfl (by first | (apply PRN.flat; rfl) | (apply PRN.flat; simp; done) | (repeat' first | exact PRN.nil | apply PRN.cons | exact RN.self rfl | exact RN.top | exact RN.ptr rfl | exact RN.sl rfl | exact RN.slf rfl | apply RN.agg | apply RN.fn | exact RNs.nil | apply RNs.cons)) .nil) (by rw [show rightM R C L = true from decide_eq_true ⟨by omega, by omega, by omega, by omega, by omega, all_getD (fun j hj => hxs j (by omega))⟩]; exact (by repeat' first | exact RN.self rfl | exact RN.top | exact RN.ptr rfl | exact RN.sl rfl | exact RN.slf rfl | apply RN.agg | apply RN.tuple | apply RN.fn | exact RNs.nil | apply RNs.cons | (apply RNs.flat; simp; done)))
            · exact Wk.same rfl (.cons rfl (.cons rfl .nil))

set_option maxHeartbeats 1000000 in
theorem rright_nil (R C : Int) : SoundC Try.prog 25 [.agg [.int .i64 R, .int .i64 C, .nilsl]] ⟨[], []⟩ { val := .bool (rightM R C []) } := by
  refine SoundC.of (N := 49) Try.func25 rfl rfl rfl rfl ?_
  refine AW.seq ?_
  refine AW.region (by kernel_rfl) ?_
  refine RunF.w (o_box (nm := 0) rfl rfl rfl) (by simp only [H.app, appO, patchAll, patch, List.map_cons, List.map_nil, List.append_nil, List.nil_append, List.cons_append, List.set_cons_zero, List.set_cons_succ, Option.map_some, Option.map_none, List.contains_cons, List.contains_nil, Nat.reduceAdd, Nat.reduceEqDiff, Nat.reduceBEq, Bool.or_false, Bool.false_eq_true, reduceIte, Nat.zero_add]; rfl) ?_
  refine RunF.q (o_assign rfl) rfl ?_
  refine AW.seq ?_
  refine AW.seq ?_
  refine AW.region (by kernel_rfl) ?_
  refine RunF.q (o_fieldAddr rfl tk24 rfl ts3 rfl) rfl ?_
  refine RunF.q (o_load rfl tk3 ts3 rfl rfl rfl) rfl ?_
  refine RunF.q (o_lss rfl rfl) rfl ?_
  refine RunF.br (o_move rfl) rfl (fun hb1_3 => ?_) (fun hb1_3 => ?_)
  · try simp only [decide_eq_true_eq, decide_eq_false_iff_not, bne_iff_ne, beq_iff_eq, bne_eq_false_iff_eq, beq_eq_false_iff_ne, ne_eq, Bool.not_eq_true', Bool.not_eq_false'] at hb1_3
    refine RunF.gs (b := true) rfl rfl ?_
    refine RunF.gs (b := true) rfl rfl ?_
    refine RunF.gs (b := true) rfl rfl ?_
    refine RunF.q (o_pick_t rfl rfl) rfl ?_
    refine RunF.q (o_move rfl) rfl ?_
    refine RunF.gs (b := true) rfl rfl ?_
    refine RunF.gs (b := true) rfl rfl ?_
    refine RunF.gs (b := true) rfl rfl ?_
    refine RunF.q (o_pick_t rfl rfl) rfl ?_
    refine RunF.q (o_move rfl) rfl ?_
    refine RunF.gs (b := true) rfl rfl ?_
    refine RunF.gs (b := true) rfl rfl ?_
    refine RunF.gs (b := true) rfl rfl ?_
    refine RunF.q (o_pick_t rfl rfl) rfl ?_
    refine RunF.q (o_move rfl) rfl ?_
    refine RunF.gs (b := true) rfl rfl ?_
    refine RunF.gs (b := true) rfl rfl ?_
    refine RunF.gs (b := true) rfl rfl ?_
    refine RunF.gs (b := true) rfl rfl ?_
    refine RunF.gs (b := true) rfl rfl ?_
    refine RunF.gs (b := true) rfl rfl ?_
    refine RunF.gs (b := true) rfl rfl ?_
    refine RunF.gs (b := true) rfl rfl ?_
    refine RunF.gs (b := true) rfl rfl ?_
    refine RunF.q (o_pick_t rfl rfl) rfl ?_
    refine AW.cond rfl (fun hc0 => ?_) (fun hc0 => absurd hc0 (by simp))
    refine AW.seq ?_
    refine AW.region (by kernel_rfl) ?_
    refine RunF.q (o_assign rfl) rfl ?_
    refine AW.ret ?_
    first | (exact absurd rfl (by simp)) | exact FinQ.ret [] [] (ress_tmp rfl ress_nil) rfl .nil .nil (by rw [show rightM R C [] = false from decide_eq_false (by rintro ⟨h1, h2, h3, h4, h5, _⟩; (try simp only [List.length_nil, Int.natCast_zero] at *); omega)]; exact (by repeat' first | exact RN.self rfl | exact RN.top | exact RN.ptr rfl | exact RN.sl rfl | exact RN.slf rfl | apply RN.agg | apply RN.tuple | apply RN.fn | exact RNs.nil | apply RNs.cons | (apply RNs.flat; simp; done)))
  · try simp only [decide_eq_true_eq, decide_eq_false_iff_not, bne_iff_ne, beq_iff_eq, bne_eq_false_iff_eq, beq_eq_false_iff_ne, ne_eq, Bool.not_eq_true', Bool.not_eq_false'] at hb1_3
    refine RunF.gq rfl (o_fieldAddr rfl tk24 rfl ts3 rfl) rfl ?_
    refine RunF.gq rfl (o_load rfl tk3 ts3 rfl rfl rfl) rfl ?_
    refine RunF.gq rfl (o_gtr rfl rfl) rfl ?_
    refine RunF.q (o_pick_f rfl rfl) rfl ?_
    refine RunF.br (o_move rfl) rfl (fun hb1_8 => ?_) (fun hb1_8 => ?_)
    · try simp only [decide_eq_true_eq, decide_eq_false_iff_not, bne_iff_ne, beq_iff_eq, bne_eq_false_iff_eq, beq_eq_false_iff_ne, ne_eq, Bool.not_eq_true', Bool.not_eq_false'] at hb1_8
      refine RunF.gs (b := true) rfl rfl ?_
      refine RunF.gs (b := true) rfl rfl ?_
      refine RunF.gs (b := true) rfl rfl ?_
      refine RunF.q (o_pick_t rfl rfl) rfl ?_
      refine RunF.q (o_move rfl) rfl ?_
      refine RunF.gs (b := true) rfl rfl ?_
      refine RunF.gs (b := true) rfl rfl ?_
      refine RunF.gs (b := true) rfl rfl ?_
      refine RunF.q (o_pick_t rfl rfl) rfl ?_
      refine RunF.q (o_move rfl) rfl ?_
      refine RunF.gs (b := true) rfl rfl ?_
      refine RunF.gs (b := true) rfl rfl ?_
      refine RunF.gs (b := true) rfl rfl ?_
      refine RunF.gs (b := true) rfl rfl ?_
      refine RunF.gs (b := true) rfl rfl ?_
      refine RunF.gs (b := true) rfl rfl ?_
      refine RunF.gs (b := true) rfl rfl ?_
      refine RunF.gs (b := true) rfl rfl ?_
      refine RunF.gs (b := true) rfl rfl ?_
      refine RunF.q (o_pick_t rfl rfl) rfl ?_
      refine AW.cond rfl (fun hc0 => ?_) (fun hc0 => absurd hc0 (by simp))
      refine AW.seq ?_
      refine AW.region (by kernel_rfl) ?_
      refine RunF.q (o_assign rfl) rfl ?_
      refine AW.ret ?_
      first | (exact absurd rfl (by simp)) | exact FinQ.ret [] [] (ress_tmp rfl ress_nil) rfl .nil .nil (by rw [show rightM R C [] = false from decide_eq_false (by rintro ⟨h1, h2, h3, h4, h5, _⟩; (try simp only [List.length_nil, Int.natCast_zero] at *); omega)]; exact (by repeat' first | exact RN.self rfl | exact RN.top | exact RN.ptr rfl | exact RN.sl rfl | exact RN.slf rfl | apply RN.agg | apply RN.tuple | apply RN.fn | exact RNs.nil | apply RNs.cons | (apply RNs.flat; simp; done)))
    · try simp only [decide_eq_true_eq, decide_eq_false_iff_not, bne_iff_ne, beq_iff_eq, bne_eq_false_iff_eq, beq_eq_false_iff_ne, ne_eq, Bool.not_eq_true', Bool.not_eq_false'] at hb1_8
      refine RunF.gq rfl (o_fieldAddr rfl tk24 rfl ts3 rfl) rfl ?_
      refine RunF.gq rfl (o_load rfl tk3 ts3 rfl rfl rfl) rfl ?_
      refine RunF.gq rfl (o_lss rfl rfl) rfl ?_
      refine RunF.q (o_pick_f rfl rfl) rfl ?_
      refine RunF.br (o_move rfl) rfl (fun hb1_13 => ?_) (fun hb1_13 => ?_)
      · try simp only [decide_eq_true_eq, decide_eq_false_iff_not, bne_iff_ne, beq_iff_eq, bne_eq_false_iff_eq, beq_eq_false_iff_ne, ne_eq, Bool.not_eq_true', Bool.not_eq_false'] at hb1_13
        refine RunF.gs (b := true) rfl rfl ?_
        refine RunF.gs (b := true) rfl rfl ?_
        refine RunF.gs (b := true) rfl rfl ?_
        refine RunF.q (o_pick_t rfl rfl) rfl ?_
        refine RunF.q (o_move rfl) rfl ?_
        refine RunF.gs (b := true) rfl rfl ?_
        refine RunF.gs (b := true) rfl rfl ?_
        refine RunF.gs (b := true) rfl rfl ?_
        refine RunF.gs (b := true) rfl rfl ?_
        refine RunF.gs (b := true) rfl rfl ?_
        refine RunF.gs (b := true) rfl rfl ?_
        refine RunF.gs (b := true) rfl rfl ?_
        refine RunF.gs (b := true) rfl rfl ?_
        refine RunF.gs (b := true) rfl rfl ?_
        refine RunF.q (o_pick_t rfl rfl) rfl ?_
        refine AW.cond rfl (fun hc0 => ?_) (fun hc0 => absurd hc0 (by simp))
        refine AW.seq ?_
        refine AW.region (by kernel_rfl) ?_
        refine RunF.q (o_assign rfl) rfl ?_
        refine AW.ret ?_
        first | (exact absurd rfl (by simp)) | exact FinQ.ret [] [] (ress_tmp rfl ress_nil) rfl .nil .nil (by rw [show rightM R C [] = false from decide_eq_false (by rintro ⟨h1, h2, h3, h4, h5, _⟩; (try simp only [List.length_nil, Int.natCast_zero] at *); omega)]; exact (by repeat' first | exact RN.self rfl | exact RN.top | exact RN.ptr rfl | exact RN.sl rfl | exact RN.slf rfl | apply RN.agg | apply RN.tuple | apply RN.fn | exact RNs.nil | apply RNs.cons | (apply RNs.flat; simp; done)))
      · try simp only [decide_eq_true_eq, decide_eq_false_iff_not, bne_iff_ne, beq_iff_eq, bne_eq_false_iff_eq, beq_eq_false_iff_ne, ne_eq, Bool.not_eq_true', Bool.not_eq_false'] at hb1_13
        refine RunF.gq rfl (o_fieldAddr rfl tk24 rfl ts3 rfl) rfl ?_
        refine RunF.gq rfl (o_load rfl tk3 ts3 rfl rfl rfl) rfl ?_
        refine RunF.gq rfl (o_gtr rfl rfl) rfl ?_
        refine RunF.q (o_pick_f rfl rfl) rfl ?_
        refine RunF.br (o_move rfl) rfl (fun hb1_18 => ?_) (fun hb1_18 => ?_)
        · try simp only [decide_eq_true_eq, decide_eq_false_iff_not, bne_iff_ne, beq_iff_eq, bne_eq_false_iff_eq, beq_eq_false_iff_ne, ne_eq, Bool.not_eq_true', Bool.not_eq_false'] at hb1_18
          refine RunF.gs (b := true) rfl rfl ?_
          refine RunF.gs (b := true) rfl rfl ?_
          refine RunF.gs (b := true) rfl rfl ?_
          refine RunF.gs (b := true) rfl rfl ?_
          refine RunF.gs (b := true) rfl rfl ?_
          refine RunF.gs (b := true) rfl rfl ?_
          refine RunF.gs (b := true) rfl rfl ?_
          refine RunF.gs (b := true) rfl rfl ?_
          refine RunF.gs (b := true) rfl rfl ?_
          refine RunF.q (o_pick_t rfl rfl) rfl ?_
          refine AW.cond rfl (fun hc0 => ?_) (fun hc0 => absurd hc0 (by simp))
          refine AW.seq ?_
          refine AW.region (by kernel_rfl) ?_
          refine RunF.q (o_assign rfl) rfl ?_
          refine AW.ret ?_
          first | (exact absurd rfl (by simp)) | exact FinQ.ret [] [] (ress_tmp rfl ress_nil) rfl .nil .nil (by rw [show rightM R C [] = false from decide_eq_false (by rintro ⟨h1, h2, h3, h4, h5, _⟩; (try simp only [List.length_nil, Int.natCast_zero] at *); omega)]; exact (by repeat' first | exact RN.self rfl | exact RN.top | exact RN.ptr rfl | exact RN.sl rfl | exact RN.slf rfl | apply RN.agg | apply RN.tuple | apply RN.fn | exact RNs.nil | apply RNs.cons | (apply RNs.flat; simp; done)))
        · try simp only [decide_eq_true_eq, decide_eq_false_iff_not, bne_iff_ne, beq_iff_eq, bne_eq_false_iff_eq, beq_eq_false_iff_ne, ne_eq, Bool.not_eq_true', Bool.not_eq_false'] at hb1_18
          have hRC := Int.mul_le_mul (show R ≤ 8 by omega) (show C ≤ 8 by omega) (by omega) (by omega)
          have hRC1 : 1 ≤ R * C := by have := Int.mul_le_mul (show (1 : Int) ≤ R by omega) (show (1 : Int) ≤ C by omega) (by omega) (by omega); omega
          refine RunF.gq rfl (o_fieldAddr rfl tk24 rfl ts22 rfl) rfl ?_
          refine RunF.gq rfl (o_load rfl tk22 ts22 rfl rfl rfl) rfl ?_
          first | refine RunF.gq rfl (o_len tk22 rfl) rfl ?_ | refine RunF.gq rfl (o_len_nil tk22 rfl) rfl ?_
          refine RunF.gq rfl (o_fieldAddr rfl tk24 rfl ts3 rfl) rfl ?_
          refine RunF.gq rfl (o_load rfl tk3 ts3 rfl rfl rfl) rfl ?_
          refine RunF.gq rfl (o_fieldAddr rfl tk24 rfl ts3 rfl) rfl ?_
          refine RunF.gq rfl (o_load rfl tk3 ts3 rfl rfl rfl) rfl ?_
          refine RunF.gq rfl (o_mul rfl rfl (by first | exact i64_in _ (by omega) | rfl)) rfl ?_
          refine RunF.gq rfl (o_neq rfl rfl) rfl ?_
          refine RunF.q (o_pick_f rfl rfl) rfl ?_
          refine AW.cond rfl (fun hc0 => ?_) (fun hc0 => ?_)
          · try simp only [decide_eq_true_eq, decide_eq_false_iff_not, bne_iff_ne, beq_iff_eq, bne_eq_false_iff_eq, beq_eq_false_iff_ne, ne_eq, Bool.not_eq_true', Bool.not_eq_false'] at hc0
            refine AW.seq ?_
            refine AW.region (by kernel_rfl) ?_
            refine RunF.q (o_assign rfl) rfl ?_
            refine AW.ret ?_
            first | (exact absurd rfl (by simp)) | exact FinQ.ret [] [] (ress_tmp rfl ress_nil) rfl .nil .nil (by rw [show rightM R C [] = false from decide_eq_false (by rintro ⟨h1, h2, h3, h4, h5, _⟩; (try simp only [List.length_nil, Int.natCast_zero] at *); omega)]; exact (by repeat' first | exact RN.self rfl | exact RN.top | exact RN.ptr rfl | exact RN.sl rfl | exact RN.slf rfl | apply RN.agg | apply RN.tuple | apply RN.fn | exact RNs.nil | apply RNs.cons | (apply RNs.flat; simp; done)))
          · try simp only [decide_eq_true_eq, decide_eq_false_iff_not, bne_iff_ne, beq_iff_eq, bne_eq_false_iff_eq, beq_eq_false_iff_ne, ne_eq, Bool.not_eq_true', Bool.not_eq_false'] at hc0
            exfalso; omega
            skip

end Go.Proofs.Ytnkijhpikeokfaa
