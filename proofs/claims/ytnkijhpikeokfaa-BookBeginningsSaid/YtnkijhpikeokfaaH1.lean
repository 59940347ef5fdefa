/- The texts B1, B2, B3. -/
import Derived.Test.YtnkijhpikeokfaaG5
set_option linter.unusedSimpArgs false
set_option linter.unusedVariables false
/- Rows of samples, of outputs, and of what was taken; slices.Equal of samples. -/
namespace Go.Proofs.Ytnkijhpikeokfaa
open Go Go.Sym Go.IntWalk

section
variable {α : Type} {f : α → List AV} {k : Nat}
def rowsF (f : α → List AV) (L : List α) : List AV := L.flatMap f
theorem rowsF_length (hk : ∀ a, (f a).length = k) : ∀ L : List α, (rowsF f L).length = L.length * k
  | [] => by simp [rowsF]
  | a :: L => by
    have := rowsF_length hk L
    simp only [rowsF, List.flatMap_cons, List.length_append, hk, List.length_cons] at this ⊢
    rw [this, Nat.succ_mul, Nat.add_comm]
theorem rowsF_append (L L' : List α) : rowsF f (L ++ L') = rowsF f L ++ rowsF f L' := by simp [rowsF]
theorem rowsF_take (hk : ∀ a, (f a).length = k) : ∀ (L : List α) (n : Nat), (rowsF f L).take (n * k) = rowsF f (L.take n)
  | [], n => by simp [rowsF]
  | a :: L, 0 => by simp [rowsF]
  | a :: L, n + 1 => by
    have := rowsF_take hk L n
    simp only [rowsF, List.flatMap_cons, List.take_succ_cons] at this ⊢
    rw [Nat.succ_mul, Nat.add_comm, List.take_append, hk, List.take_of_length_le (by rw [hk]; omega), show k + n * k - k = n * k by omega, this]
theorem rowsF_drop (hk : ∀ a, (f a).length = k) : ∀ (L : List α) (n : Nat), (rowsF f L).drop (n * k) = rowsF f (L.drop n)
  | [], n => by simp [rowsF]
  | a :: L, 0 => by simp [rowsF]
  | a :: L, n + 1 => by
    have := rowsF_drop hk L n
    simp only [rowsF, List.flatMap_cons, List.drop_succ_cons] at this ⊢
    rw [Nat.succ_mul, Nat.add_comm, List.drop_append, hk, List.drop_of_length_le (by rw [hk]; omega), show k + n * k - k = n * k by omega, this, List.nil_append]
theorem rowsF_at [Inhabited α] (hk : ∀ a, (f a).length = k) {L : List α} {i : Nat} (hi : i < L.length) : ((rowsF f L).drop (i * k)).take k = f (L.getD i default) := by
  have e : (1 : Nat) * k = k := Nat.one_mul k
  rw [rowsF_drop hk]
  have := rowsF_take hk (L.drop i) 1
  rw [e] at this
  rw [this]
  have h1 : (L.drop i).take 1 = [L.getD i default] := by
    rw [List.getD_eq_getElem?_getD, List.getElem?_eq_getElem hi, Option.getD_some, List.drop_eq_getElem_cons hi]; rfl
  rw [h1]; simp [rowsF]
theorem rowsF_get [Inhabited α] (hk : ∀ a, (f a).length = k) {L : List α} {i j : Nat} (hi : i < L.length) (hj : j < k) : (rowsF f L)[i * k + j]? = (f (L.getD i default))[j]? := by
  rw [← rowsF_at hk hi, List.getElem?_take_of_lt hj, List.getElem?_drop]
theorem rowsF_flat (hf : ∀ a, (f a).all AV.flat = true) (L : List α) : (rowsF f L).all AV.flat = true := by
  rw [List.all_eq_true]; intro x hx
  obtain ⟨a, _, h⟩ := List.mem_flatMap.1 hx
  exact List.all_eq_true.1 (hf a) x h
theorem rowsF_scalar (hf : ∀ a, (f a).all AV.scalar = true) (L : List α) : (rowsF f L).all AV.scalar = true := by
  rw [List.all_eq_true]; intro x hx
  obtain ⟨a, _, h⟩ := List.mem_flatMap.1 hx
  exact List.all_eq_true.1 (hf a) x h
theorem rowsF_win (hk : ∀ a, (f a).length = k) (L : List α) (n : Nat) : ((rowsF f L).drop 0).take (n * k) = rowsF f (L.take n) := by rw [List.drop_zero, rowsF_take hk]
theorem rowsF_all (hk : ∀ a, (f a).length = k) (L : List α) : ((rowsF f L).drop 0).take (L.length * k) = rowsF f L := by rw [rowsF_win hk, List.take_length]
theorem rowsF_le (hk : ∀ a, (f a).length = k) {L : List α} {i : Nat} (hi : i < L.length) : Nat.ble (i * k + k) (rowsF f L).length = true := by
  rw [Nat.ble_eq, rowsF_length hk]
  have : (i + 1) * k ≤ L.length * k := Nat.mul_le_mul_right _ hi
  rwa [Nat.succ_mul] at this
theorem eq_of_at [Inhabited α] {A B : List α} (h1 : A.length = B.length) (h2 : ∀ j, j < A.length → A.getD j default = B.getD j default) : A = B := by
  refine List.ext_getElem h1 fun i h3 h4 => ?_
  have := h2 i h3
  rw [List.getD_eq_getElem?_getD, List.getD_eq_getElem?_getD, List.getElem?_eq_getElem h3, List.getElem?_eq_getElem h4] at this
  exact this
end

/-- a sample, an output, and what was taken -/
structure Sam where
  m : Bool
  g0 : Int
  g1 : Int
  g2 : Int
  a0 : Int
  a1 : Int
  a2 : Int
  hb : Bool
  b : Int
  hg : Bool
  n0 : Int
  n1 : Int
  n2 : Int
  deriving DecidableEq, Inhabited
structure Ou where
  k : Int
  y0 : Int
  y1 : Int
  y2 : Int
  deriving DecidableEq, Inhabited
structure Tk where
  g : Int
  k : Int
  y0 : Int
  y1 : Int
  y2 : Int
  deriving DecidableEq, Inhabited
structure Ve where
  y0 : Int
  y1 : Int
  y2 : Int
  deriving DecidableEq, Inhabited
def Sam.cells (s : Sam) : List AV := [.bool s.m, .int .i64 s.g0, .int .i64 s.g1, .int .i64 s.g2, .int .i64 s.a0, .int .i64 s.a1, .int .i64 s.a2, .bool s.hb, .int .i64 s.b, .bool s.hg, .int .i64 s.n0, .int .i64 s.n1, .int .i64 s.n2]
def Ou.cells (s : Ou) : List AV := [.int .i64 s.k, .int .i64 s.y0, .int .i64 s.y1, .int .i64 s.y2]
def Tk.cells (s : Tk) : List AV := [.int .i64 s.g, .int .i64 s.k, .int .i64 s.y0, .int .i64 s.y1, .int .i64 s.y2]
def Ve.cells (s : Ve) : List AV := [.int .i64 s.y0, .int .i64 s.y1, .int .i64 s.y2]
theorem Sam.len (s : Sam) : s.cells.length = 13 := rfl
theorem Ou.len (s : Ou) : s.cells.length = 4 := rfl
theorem Tk.len (s : Tk) : s.cells.length = 5 := rfl
theorem Ve.len (s : Ve) : s.cells.length = 3 := rfl
abbrev sams (L : List Sam) : List AV := rowsF Sam.cells L
abbrev ous (L : List Ou) : List AV := rowsF Ou.cells L
abbrev tks (L : List Tk) : List AV := rowsF Tk.cells L
abbrev ves (L : List Ve) : List AV := rowsF Ve.cells L
@[simp] theorem sams_flat (L : List Sam) : (sams L).all AV.flat = true := rowsF_flat (fun _ => rfl) L
@[simp] theorem ous_flat (L : List Ou) : (ous L).all AV.flat = true := rowsF_flat (fun _ => rfl) L
@[simp] theorem tks_flat (L : List Tk) : (tks L).all AV.flat = true := rowsF_flat (fun _ => rfl) L
@[simp] theorem ves_flat (L : List Ve) : (ves L).all AV.flat = true := rowsF_flat (fun _ => rfl) L
@[simp] theorem sams_length (L : List Sam) : (sams L).length = L.length * 13 := rowsF_length Sam.len L
@[simp] theorem ous_length (L : List Ou) : (ous L).length = L.length * 4 := rowsF_length Ou.len L
@[simp] theorem tks_length (L : List Tk) : (tks L).length = L.length * 5 := rowsF_length Tk.len L
@[simp] theorem ves_length (L : List Ve) : (ves L).length = L.length * 3 := rowsF_length Ve.len L
theorem sam_eq (a b : Sam) : eqCells a.cells b.cells = some (decide (a = b)) := by
  simp only [eqCells, Sam.cells, Option.map_some, if_true, Option.some.injEq]
  cases a; cases b
  simp only [Sam.mk.injEq, Bool.and_true]
  rw [Bool.eq_iff_iff]; simp [and_assoc]
theorem ou_eq (a b : Ou) : eqCells a.cells b.cells = some (decide (a = b)) := by
  simp only [eqCells, Ou.cells, Option.map_some, if_true, Option.some.injEq]
  cases a; cases b
  simp only [Ou.mk.injEq, Bool.and_true]
  rw [Bool.eq_iff_iff]; simp [and_assoc]
theorem ve_eq (a b : Ve) : eqCells a.cells b.cells = some (decide (a = b)) := by
  simp only [eqCells, Ve.cells, Option.map_some, if_true, Option.some.injEq]
  cases a; cases b
  simp only [Ve.mk.injEq, Bool.and_true]
  rw [Bool.eq_iff_iff]; simp [and_assoc]
theorem ko87 : kindsOf Try.prog 20 87 = some [.bool, .int .i64, .int .i64, .int .i64, .int .i64, .int .i64, .int .i64, .bool, .int .i64, .bool, .int .i64, .int .i64, .int .i64] := by kernel_rfl
theorem eg87 : Try.prog.eqGuardType Try.prog.depth 87 = false := by kernel_rfl
theorem ko112 : kindsOf Try.prog 20 112 = some [.int .i64, .int .i64, .int .i64, .int .i64] := by kernel_rfl
theorem eg112 : Try.prog.eqGuardType Try.prog.depth 112 = false := by kernel_rfl
theorem ko83 : kindsOf Try.prog 20 83 = some [.int .i64, .int .i64, .int .i64] := by kernel_rfl
theorem eg83 : Try.prog.eqGuardType Try.prog.depth 83 = false := by kernel_rfl

set_option maxHeartbeats 1000000 in
theorem equalS_ok (A B : List Sam) (fa fb : Bool) (hA : A.length ≤ 9223372036854775807) : SoundC Try.prog 104 [.sl (.r 0) 0 A.length 13 fa, .sl (.r 1) 0 B.length 13 fb] ⟨[sams A, sams B], []⟩ { val := .bool (decide (A = B)) } := by
  refine SoundC.of (N := 26) Try.func104 rfl rfl rfl rfl ?_
  refine AW.seq ?_
  refine AW.region (by kernel_rfl) ?_
  refine RunF.q (o_assign rfl) rfl ?_
  refine AW.seq ?_
  refine AW.seq ?_
  refine AW.region (by kernel_rfl) ?_
  refine RunF.q (o_move rfl) rfl ?_
  first | refine RunF.q (o_len tk93 rfl) rfl ?_ | refine RunF.q (o_len_nil tk93 rfl) rfl ?_
  refine RunF.q (o_move rfl) rfl ?_
  first | refine RunF.q (o_len tk93 rfl) rfl ?_ | refine RunF.q (o_len_nil tk93 rfl) rfl ?_
  refine RunF.q (o_neq rfl rfl) rfl ?_
  refine AW.cond rfl (fun hc0 => ?_) (fun hc0 => ?_)
  · try simp only [decide_eq_true_eq, decide_eq_false_iff_not, bne_iff_ne, beq_iff_eq, bne_eq_false_iff_eq, beq_eq_false_iff_ne, ne_eq, Bool.not_eq_true', Bool.not_eq_false'] at hc0
    refine AW.seq ?_
    refine AW.region (by kernel_rfl) ?_
    refine RunF.q (o_assign rfl) rfl ?_
    refine AW.ret ?_
    exact FinQ.ret [] [] (ress_tmp rfl ress_nil) rfl .nil (.cons rfl rfl (by first | (apply PRN.flat; rfl) | (apply PRN.flat; simp; done) | (repeat' first | exact PRN.nil | apply PRN.cons | exact RN.self rfl | exact RN.top | exact RN.ptr rfl | exact RN.sl rfl | exact RN.slf rfl | apply RN.agg | apply RN.fn | exact RNs.nil | apply RNs.cons)) (.cons rfl rfl (by first | (apply PRN.flat; rfl) | (apply PRN.flat; simp; done) | (repeat' first | exact PRN.nil | apply PRN.cons | exact RN.self rfl | exact RN.top | exact RN.ptr rfl | exact RN.sl rfl | exact RN.slf rfl | apply RN.agg | apply RN.fn | exact RNs.nil | apply RNs.cons)) .nil)) (by rw [show decide (A = B) = false from decide_eq_false (fun h => hc0 (by rw [h]))]; exact (by repeat' first | exact RN.self rfl | exact RN.top | exact RN.ptr rfl | exact RN.sl rfl | exact RN.slf rfl | apply RN.agg | apply RN.tuple | apply RN.fn | exact RNs.nil | apply RNs.cons | (apply RNs.flat; simp; done)))
  · try simp only [decide_eq_true_eq, decide_eq_false_iff_not, bne_iff_ne, beq_iff_eq, bne_eq_false_iff_eq, beq_eq_false_iff_ne, ne_eq, Bool.not_eq_true', Bool.not_eq_false'] at hc0
    have hAB : A.length = B.length := by omega
    refine AW.skip ?_
    refine AW.seq ?_
    refine AW.seq ?_
    refine AW.region (by kernel_rfl) ?_
    refine RunF.q (o_move rfl) rfl ?_
    first | refine RunF.q (o_len tk93 rfl) rfl ?_ | refine RunF.q (o_len_nil tk93 rfl) rfl ?_
    refine RunF.q (o_move rfl) rfl ?_
    refine AW.block ?_
    refine AW.loop (α := {i : Nat // i ≤ A.length ∧ ∀ j, j < i → A.getD j default = B.getD j default}) (fun x : {i : Nat // i ≤ A.length ∧ ∀ j, j < i → A.getD j default = B.getD j default} => ([(0, .sl (.r 0) 0 A.length 13 fa), (1, .sl (.r 1) 0 B.length 13 fb), (12, .int .i64 A.length), (13, .int .i64 x.1)], ⟨[sams A, sams B], []⟩)) (fun x => A.length - x.1) (fun x => ?_) ⟨0, by omega, fun j hj => absurd hj (by omega)⟩ ?_
    · obtain ⟨i, hx, hxs⟩ := x
      try dsimp only at hx hxs
      try dsimp only
      refine AW.seq ?_
      refine AW.region (by kernel_rfl) ?_
      refine RunF.q (o_lss rfl rfl) rfl ?_
      refine AW.seq ?_
      refine AW.cond rfl (fun hc1 => ?_) (fun hc1 => ?_)
      · try simp only [decide_eq_true_eq, decide_eq_false_iff_not, bne_iff_ne, beq_iff_eq, bne_eq_false_iff_eq, beq_eq_false_iff_ne, ne_eq, Bool.not_eq_true', Bool.not_eq_false'] at hc1
        refine AW.skip ?_
        refine AW.seq ?_
        refine AW.block ?_
        refine AW.seq ?_
        refine AW.region (by kernel_rfl) ?_
        refine RunF.q (o_move rfl) rfl ?_
        refine RunF.q (o_assign rfl) rfl ?_
        refine AW.seq ?_
        refine AW.draws (by kernel_rfl) (by kernel_rfl) ?_
        refine RunV.q (o_move rfl) rfl ?_
        refine RunV.q (o_move rfl) rfl ?_
        refine RunV.q (o_indexAddr (m := i * 13) tk93 ts87 rfl rfl (by omega) (by omega)) rfl ?_
        refine RunV.q (o_load_agg (cs := (A.getD i default).cells) rfl tk87 ts87 rfl rfl (rowsF_le Sam.len (by omega)) (rowsF_at Sam.len (by omega))) rfl ?_
        refine RunV.q (o_move rfl) rfl ?_
        refine RunV.q (o_move rfl) rfl ?_
        refine RunV.q (o_indexAddr (m := i * 13) tk93 ts87 rfl rfl (by omega) (by omega)) rfl ?_
        refine RunV.q (o_load_agg (cs := (B.getD i default).cells) rfl tk87 ts87 rfl rfl (rowsF_le Sam.len (by omega)) (rowsF_at Sam.len (by omega))) rfl ?_
        refine RunV.q (o_nea (z := decide (A.getD i default = B.getD i default)) rfl rfl tk87 ko87 (by rw [eg87]; rfl) (sam_eq _ _)) rfl ?_
        refine And.intro (by kernel_rfl) ?_
        refine AW.cond rfl (fun hc2 => ?_) (fun hc2 => ?_)
        · try simp only [decide_eq_true_eq, decide_eq_false_iff_not, bne_iff_ne, beq_iff_eq, bne_eq_false_iff_eq, beq_eq_false_iff_ne, ne_eq, Bool.not_eq_true', Bool.not_eq_false'] at hc2
          have hc2 : ¬ A.getD i default = B.getD i default := by simpa using hc2
          refine AW.seq ?_
          refine AW.region (by kernel_rfl) ?_
          refine RunF.q (o_assign rfl) rfl ?_
          refine AW.ret ?_
          exact FinQ.ret [] [] (ress_tmp rfl ress_nil) rfl .nil (.cons rfl rfl (by first | (apply PRN.flat; rfl) | (apply PRN.flat; simp; done) | (repeat' first | exact PRN.nil | apply PRN.cons | exact RN.self rfl | exact RN.top | exact RN.ptr rfl | exact RN.sl rfl | exact RN.slf rfl | apply RN.agg | apply RN.fn | exact RNs.nil | apply RNs.cons)) (.cons rfl rfl (by first | (apply PRN.flat; rfl) | (apply PRN.flat; simp; done) | (repeat' first | exact PRN.nil | apply PRN.cons | exact RN.self rfl | exact RN.top | exact RN.ptr rfl | exact RN.sl rfl | exact RN.slf rfl | apply RN.agg | apply RN.fn | exact RNs.nil | apply RNs.cons)) .nil)) (by rw [show decide (A = B) = false from decide_eq_false (fun h => hc2 (by rw [h]))]; exact (by repeat' first | exact RN.self rfl | exact RN.top | exact RN.ptr rfl | exact RN.sl rfl | exact RN.slf rfl | apply RN.agg | apply RN.tuple | apply RN.fn | exact RNs.nil | apply RNs.cons | (apply RNs.flat; simp; done)))
        · try simp only [decide_eq_true_eq, decide_eq_false_iff_not, bne_iff_ne, beq_iff_eq, bne_eq_false_iff_eq, beq_eq_false_iff_ne, ne_eq, Bool.not_eq_true', Bool.not_eq_false'] at hc2
          have hc2 : A.getD i default = B.getD i default := by simpa using hc2
          refine AW.skip ?_
          refine AW.region (by kernel_rfl) ?_
          refine RunF.q (o_add rfl rfl (by first | exact i64_in _ (by omega) | rfl)) rfl ?_
          refine RunF.q (o_move rfl) rfl ?_
          exact ⟨⟨i + 1, by omega, upto_succ hxs hc2⟩, Wk.same rfl (.cons rfl (.cons rfl (.cons rfl (.cons rfl .nil)))), by dsimp only; omega⟩
      · try simp only [decide_eq_true_eq, decide_eq_false_iff_not, bne_iff_ne, beq_iff_eq, bne_eq_false_iff_eq, beq_eq_false_iff_ne, ne_eq, Bool.not_eq_true', Bool.not_eq_false'] at hc1
        refine AW.exit ?_
        refine AW.seq ?_
        refine AW.region (by kernel_rfl) ?_
        refine RunF.q (o_assign rfl) rfl ?_
        refine AW.ret ?_
        exact FinQ.ret [] [] (ress_tmp rfl ress_nil) rfl .nil (.cons rfl rfl (by first | (apply PRN.flat; rfl) | (apply PRN.flat; simp; done) | (repeat' first | exact PRN.nil | apply PRN.cons | exact RN.self rfl | exact RN.top | exact RN.ptr rfl | exact RN.sl rfl | exact RN.slf rfl | apply RN.agg | apply RN.fn | exact RNs.nil | apply RNs.cons)) (.cons rfl rfl (by first | (apply PRN.flat; rfl) | (apply PRN.flat; simp; done) | (repeat' first | exact PRN.nil | apply PRN.cons | exact RN.self rfl | exact RN.top | exact RN.ptr rfl | exact RN.sl rfl | exact RN.slf rfl | apply RN.agg | apply RN.fn | exact RNs.nil | apply RNs.cons)) .nil)) (by rw [show decide (A = B) = true from decide_eq_true (eq_of_at (by omega) (fun j hj => hxs j (by omega)))]; exact (by repeat' first | exact RN.self rfl | exact RN.top | exact RN.ptr rfl | exact RN.sl rfl | exact RN.slf rfl | apply RN.agg | apply RN.tuple | apply RN.fn | exact RNs.nil | apply RNs.cons | (apply RNs.flat; simp; done)))
    · exact Wk.same rfl (.cons rfl (.cons rfl (.cons rfl (.cons rfl .nil))))

set_option maxHeartbeats 1000000 in
theorem outs_ok (A B : List Ou) (fa fb : Bool) (hA : A.length ≤ 9223372036854775807) : SoundC Try.prog 60 [.sl (.r 0) 0 A.length 4 fa, .sl (.r 1) 0 B.length 4 fb] ⟨[ous A, ous B], []⟩ { val := .bool (decide (A = B)) } := by
  refine SoundC.of (N := 26) Try.func60 rfl rfl rfl rfl ?_
  refine AW.seq ?_
  refine AW.region (by kernel_rfl) ?_
  refine RunF.q (o_assign rfl) rfl ?_
  refine AW.seq ?_
  refine AW.seq ?_
  refine AW.region (by kernel_rfl) ?_
  refine RunF.q (o_move rfl) rfl ?_
  first | refine RunF.q (o_len tk100 rfl) rfl ?_ | refine RunF.q (o_len_nil tk100 rfl) rfl ?_
  refine RunF.q (o_move rfl) rfl ?_
  first | refine RunF.q (o_len tk100 rfl) rfl ?_ | refine RunF.q (o_len_nil tk100 rfl) rfl ?_
  refine RunF.q (o_neq rfl rfl) rfl ?_
  refine AW.cond rfl (fun hc0 => ?_) (fun hc0 => ?_)
  · try simp only [decide_eq_true_eq, decide_eq_false_iff_not, bne_iff_ne, beq_iff_eq, bne_eq_false_iff_eq, beq_eq_false_iff_ne, ne_eq, Bool.not_eq_true', Bool.not_eq_false'] at hc0
    refine AW.seq ?_
    refine AW.region (by kernel_rfl) ?_
    refine RunF.q (o_assign rfl) rfl ?_
    refine AW.ret ?_
    exact FinQ.ret [] [] (ress_tmp rfl ress_nil) rfl .nil (.cons rfl rfl (by first | (apply PRN.flat; rfl) | (apply PRN.flat; simp; done) | (repeat' first | exact PRN.nil | apply PRN.cons | exact RN.self rfl | exact RN.top | exact RN.ptr rfl | exact RN.sl rfl | exact RN.slf rfl | apply RN.agg | apply RN.fn | exact RNs.nil | apply RNs.cons)) (.cons rfl rfl (by first | (apply PRN.flat; rfl) | (apply PRN.flat; simp; done) | (repeat' first | exact PRN.nil | apply PRN.cons | exact RN.self rfl | exact RN.top | exact RN.ptr rfl | exact RN.sl rfl | exact RN.slf rfl | apply RN.agg | apply RN.fn | exact RNs.nil | apply RNs.cons)) .nil)) (by rw [show decide (A = B) = false from decide_eq_false (fun h => hc0 (by rw [h]))]; exact (by repeat' first | exact RN.self rfl | exact RN.top | exact RN.ptr rfl | exact RN.sl rfl | exact RN.slf rfl | apply RN.agg | apply RN.tuple | apply RN.fn | exact RNs.nil | apply RNs.cons | (apply RNs.flat; simp; done)))
  · try simp only [decide_eq_true_eq, decide_eq_false_iff_not, bne_iff_ne, beq_iff_eq, bne_eq_false_iff_eq, beq_eq_false_iff_ne, ne_eq, Bool.not_eq_true', Bool.not_eq_false'] at hc0
    have hAB : A.length = B.length := by omega
    refine AW.skip ?_
    refine AW.seq ?_
    refine AW.seq ?_
    refine AW.region (by kernel_rfl) ?_
    refine RunF.q (o_assign rfl) rfl ?_
    refine AW.block ?_
    refine AW.loop (α := {i : Nat // i ≤ A.length ∧ ∀ j, j < i → A.getD j default = B.getD j default}) (fun x : {i : Nat // i ≤ A.length ∧ ∀ j, j < i → A.getD j default = B.getD j default} => ([(0, .sl (.r 0) 0 A.length 4 fa), (1, .sl (.r 1) 0 B.length 4 fb), (5, .int .i64 x.1)], ⟨[ous A, ous B], []⟩)) (fun x => A.length - x.1) (fun x => ?_) ⟨0, by omega, fun j hj => absurd hj (by omega)⟩ ?_
    · obtain ⟨i, hx, hxs⟩ := x
      try dsimp only at hx hxs
      try dsimp only
      refine AW.seq ?_
      refine AW.seq ?_
      refine AW.region (by kernel_rfl) ?_
      refine RunF.q (o_move rfl) rfl ?_
      refine RunF.q (o_move rfl) rfl ?_
      first | refine RunF.q (o_len tk100 rfl) rfl ?_ | refine RunF.q (o_len_nil tk100 rfl) rfl ?_
      refine RunF.q (o_lss rfl rfl) rfl ?_
      refine AW.cond rfl (fun hc1 => ?_) (fun hc1 => ?_)
      · try simp only [decide_eq_true_eq, decide_eq_false_iff_not, bne_iff_ne, beq_iff_eq, bne_eq_false_iff_eq, beq_eq_false_iff_ne, ne_eq, Bool.not_eq_true', Bool.not_eq_false'] at hc1
        refine AW.skip ?_
        refine AW.seq ?_
        refine AW.block ?_
        refine AW.seq ?_
        refine AW.draws (by kernel_rfl) (by kernel_rfl) ?_
        refine RunV.q (o_move rfl) rfl ?_
        refine RunV.q (o_move rfl) rfl ?_
        refine RunV.q (o_indexAddr (m := i * 4) tk100 ts112 rfl rfl (by omega) (by omega)) rfl ?_
        refine RunV.q (o_load_agg (cs := (A.getD i default).cells) rfl tk112 ts112 rfl rfl (rowsF_le Ou.len (by omega)) (rowsF_at Ou.len (by omega))) rfl ?_
        refine RunV.q (o_move rfl) rfl ?_
        refine RunV.q (o_move rfl) rfl ?_
        refine RunV.q (o_indexAddr (m := i * 4) tk100 ts112 rfl rfl (by omega) (by omega)) rfl ?_
        refine RunV.q (o_load_agg (cs := (B.getD i default).cells) rfl tk112 ts112 rfl rfl (rowsF_le Ou.len (by omega)) (rowsF_at Ou.len (by omega))) rfl ?_
        refine RunV.q (o_nea (z := decide (A.getD i default = B.getD i default)) rfl rfl tk112 ko112 (by rw [eg112]; rfl) (ou_eq _ _)) rfl ?_
        refine And.intro (by kernel_rfl) ?_
        refine AW.cond rfl (fun hc2 => ?_) (fun hc2 => ?_)
        · try simp only [decide_eq_true_eq, decide_eq_false_iff_not, bne_iff_ne, beq_iff_eq, bne_eq_false_iff_eq, beq_eq_false_iff_ne, ne_eq, Bool.not_eq_true', Bool.not_eq_false'] at hc2
          have hc2 : ¬ A.getD i default = B.getD i default := by simpa using hc2
          refine AW.seq ?_
          refine AW.region (by kernel_rfl) ?_
          refine RunF.q (o_assign rfl) rfl ?_
          refine AW.ret ?_
          exact FinQ.ret [] [] (ress_tmp rfl ress_nil) rfl .nil (.cons rfl rfl (by first | (apply PRN.flat; rfl) | (apply PRN.flat; simp; done) | (repeat' first | exact PRN.nil | apply PRN.cons | exact RN.self rfl | exact RN.top | exact RN.ptr rfl | exact RN.sl rfl | exact RN.slf rfl | apply RN.agg | apply RN.fn | exact RNs.nil | apply RNs.cons)) (.cons rfl rfl (by first | (apply PRN.flat; rfl) | (apply PRN.flat; simp; done) | (repeat' first | exact PRN.nil | apply PRN.cons | exact RN.self rfl | exact RN.top | exact RN.ptr rfl | exact RN.sl rfl | exact RN.slf rfl | apply RN.agg | apply RN.fn | exact RNs.nil | apply RNs.cons)) .nil)) (by rw [show decide (A = B) = false from decide_eq_false (fun h => hc2 (by rw [h]))]; exact (by repeat' first | exact RN.self rfl | exact RN.top | exact RN.ptr rfl | exact RN.sl rfl | exact RN.slf rfl | apply RN.agg | apply RN.tuple | apply RN.fn | exact RNs.nil | apply RNs.cons | (apply RNs.flat; simp; done)))
        · try simp only [decide_eq_true_eq, decide_eq_false_iff_not, bne_iff_ne, beq_iff_eq, bne_eq_false_iff_eq, beq_eq_false_iff_ne, ne_eq, Bool.not_eq_true', Bool.not_eq_false'] at hc2
          have hc2 : A.getD i default = B.getD i default := by simpa using hc2
          refine AW.skip ?_
          refine AW.region (by kernel_rfl) ?_
          refine RunF.q (o_move rfl) rfl ?_
          refine RunF.q (o_add rfl rfl (by first | exact i64_in _ (by omega) | rfl)) rfl ?_
          refine RunF.q (o_assign rfl) rfl ?_
          exact ⟨⟨i + 1, by omega, upto_succ hxs hc2⟩, Wk.same rfl (.cons rfl (.cons rfl (.cons rfl .nil))), by dsimp only; omega⟩
      · try simp only [decide_eq_true_eq, decide_eq_false_iff_not, bne_iff_ne, beq_iff_eq, bne_eq_false_iff_eq, beq_eq_false_iff_ne, ne_eq, Bool.not_eq_true', Bool.not_eq_false'] at hc1
        refine AW.exit ?_
        refine AW.seq ?_
        refine AW.region (by kernel_rfl) ?_
        refine RunF.q (o_assign rfl) rfl ?_
        refine AW.ret ?_
        exact FinQ.ret [] [] (ress_tmp rfl ress_nil) rfl .nil (.cons rfl rfl (by first | (apply PRN.flat; rfl) | (apply PRN.flat; simp; done) | (repeat' first | exact PRN.nil | apply PRN.cons | exact RN.self rfl | exact RN.top | exact RN.ptr rfl | exact RN.sl rfl | exact RN.slf rfl | apply RN.agg | apply RN.fn | exact RNs.nil | apply RNs.cons)) (.cons rfl rfl (by first | (apply PRN.flat; rfl) | (apply PRN.flat; simp; done) | (repeat' first | exact PRN.nil | apply PRN.cons | exact RN.self rfl | exact RN.top | exact RN.ptr rfl | exact RN.sl rfl | exact RN.slf rfl | apply RN.agg | apply RN.fn | exact RNs.nil | apply RNs.cons)) .nil)) (by rw [show decide (A = B) = true from decide_eq_true (eq_of_at (by omega) (fun j hj => hxs j (by omega)))]; exact (by repeat' first | exact RN.self rfl | exact RN.top | exact RN.ptr rfl | exact RN.sl rfl | exact RN.slf rfl | apply RN.agg | apply RN.tuple | apply RN.fn | exact RNs.nil | apply RNs.cons | (apply RNs.flat; simp; done)))
    · exact Wk.same rfl (.cons rfl (.cons rfl (.cons rfl .nil)))

set_option maxHeartbeats 1000000 in
theorem vecs_ok (A B : List Ve) (fa fb : Bool) (hA : A.length ≤ 9223372036854775807) : SoundC Try.prog 64 [.sl (.r 0) 0 A.length 3 fa, .sl (.r 1) 0 B.length 3 fb] ⟨[ves A, ves B], []⟩ { val := .bool (decide (A = B)) } := by
  refine SoundC.of (N := 26) Try.func64 rfl rfl rfl rfl ?_
  refine AW.seq ?_
  refine AW.region (by kernel_rfl) ?_
  refine RunF.q (o_assign rfl) rfl ?_
  refine AW.seq ?_
  refine AW.seq ?_
  refine AW.region (by kernel_rfl) ?_
  refine RunF.q (o_move rfl) rfl ?_
  first | refine RunF.q (o_len tk105 rfl) rfl ?_ | refine RunF.q (o_len_nil tk105 rfl) rfl ?_
  refine RunF.q (o_move rfl) rfl ?_
  first | refine RunF.q (o_len tk105 rfl) rfl ?_ | refine RunF.q (o_len_nil tk105 rfl) rfl ?_
  refine RunF.q (o_neq rfl rfl) rfl ?_
  refine AW.cond rfl (fun hc0 => ?_) (fun hc0 => ?_)
  · try simp only [decide_eq_true_eq, decide_eq_false_iff_not, bne_iff_ne, beq_iff_eq, bne_eq_false_iff_eq, beq_eq_false_iff_ne, ne_eq, Bool.not_eq_true', Bool.not_eq_false'] at hc0
    refine AW.seq ?_
    refine AW.region (by kernel_rfl) ?_
    refine RunF.q (o_assign rfl) rfl ?_
    refine AW.ret ?_
    exact FinQ.ret [] [] (ress_tmp rfl ress_nil) rfl .nil (.cons rfl rfl (by first | (apply PRN.flat; rfl) | (apply PRN.flat; simp; done) | (repeat' first | exact PRN.nil | apply PRN.cons | exact RN.self rfl | exact RN.top | exact RN.ptr rfl | exact RN.sl rfl | exact RN.slf rfl | apply RN.agg | apply RN.fn | exact RNs.nil | apply RNs.cons)) (.cons rfl rfl (by first | (apply PRN.flat; rfl) | (apply PRN.flat; simp; done) | (repeat' first | exact PRN.nil | apply PRN.cons | exact RN.self rfl | exact RN.top | exact RN.ptr rfl | exact RN.sl rfl | exact RN.slf rfl | apply RN.agg | apply RN.fn | exact RNs.nil | apply RNs.cons)) .nil)) (by rw [show decide (A = B) = false from decide_eq_false (fun h => hc0 (by rw [h]))]; exact (by repeat' first | exact RN.self rfl | exact RN.top | exact RN.ptr rfl | exact RN.sl rfl | exact RN.slf rfl | apply RN.agg | apply RN.tuple | apply RN.fn | exact RNs.nil | apply RNs.cons | (apply RNs.flat; simp; done)))
  · try simp only [decide_eq_true_eq, decide_eq_false_iff_not, bne_iff_ne, beq_iff_eq, bne_eq_false_iff_eq, beq_eq_false_iff_ne, ne_eq, Bool.not_eq_true', Bool.not_eq_false'] at hc0
    have hAB : A.length = B.length := by omega
    refine AW.skip ?_
    refine AW.seq ?_
    refine AW.seq ?_
    refine AW.region (by kernel_rfl) ?_
    refine RunF.q (o_assign rfl) rfl ?_
    refine AW.block ?_
    refine AW.loop (α := {i : Nat // i ≤ A.length ∧ ∀ j, j < i → A.getD j default = B.getD j default}) (fun x : {i : Nat // i ≤ A.length ∧ ∀ j, j < i → A.getD j default = B.getD j default} => ([(0, .sl (.r 0) 0 A.length 3 fa), (1, .sl (.r 1) 0 B.length 3 fb), (5, .int .i64 x.1)], ⟨[ves A, ves B], []⟩)) (fun x => A.length - x.1) (fun x => ?_) ⟨0, by omega, fun j hj => absurd hj (by omega)⟩ ?_
    · obtain ⟨i, hx, hxs⟩ := x
      try dsimp only at hx hxs
      try dsimp only
      refine AW.seq ?_
      refine AW.seq ?_
      refine AW.region (by kernel_rfl) ?_
      refine RunF.q (o_move rfl) rfl ?_
      refine RunF.q (o_move rfl) rfl ?_
      first | refine RunF.q (o_len tk105 rfl) rfl ?_ | refine RunF.q (o_len_nil tk105 rfl) rfl ?_
      refine RunF.q (o_lss rfl rfl) rfl ?_
      refine AW.cond rfl (fun hc1 => ?_) (fun hc1 => ?_)
      · try simp only [decide_eq_true_eq, decide_eq_false_iff_not, bne_iff_ne, beq_iff_eq, bne_eq_false_iff_eq, beq_eq_false_iff_ne, ne_eq, Bool.not_eq_true', Bool.not_eq_false'] at hc1
        refine AW.skip ?_
        refine AW.seq ?_
        refine AW.block ?_
        refine AW.seq ?_
        refine AW.draws (by kernel_rfl) (by kernel_rfl) ?_
        refine RunV.q (o_move rfl) rfl ?_
        refine RunV.q (o_move rfl) rfl ?_
        refine RunV.q (o_indexAddr (m := i * 3) tk105 ts83 rfl rfl (by omega) (by omega)) rfl ?_
        refine RunV.q (o_load_agg (cs := (A.getD i default).cells) rfl tk83 ts83 rfl rfl (rowsF_le Ve.len (by omega)) (rowsF_at Ve.len (by omega))) rfl ?_
        refine RunV.q (o_move rfl) rfl ?_
        refine RunV.q (o_move rfl) rfl ?_
        refine RunV.q (o_indexAddr (m := i * 3) tk105 ts83 rfl rfl (by omega) (by omega)) rfl ?_
        refine RunV.q (o_load_agg (cs := (B.getD i default).cells) rfl tk83 ts83 rfl rfl (rowsF_le Ve.len (by omega)) (rowsF_at Ve.len (by omega))) rfl ?_
        refine RunV.q (o_nea (z := decide (A.getD i default = B.getD i default)) rfl rfl tk83 ko83 (by rw [eg83]; rfl) (ve_eq _ _)) rfl ?_
        refine And.intro (by kernel_rfl) ?_
        refine AW.cond rfl (fun hc2 => ?_) (fun hc2 => ?_)
        · try simp only [decide_eq_true_eq, decide_eq_false_iff_not, bne_iff_ne, beq_iff_eq, bne_eq_false_iff_eq, beq_eq_false_iff_ne, ne_eq, Bool.not_eq_true', Bool.not_eq_false'] at hc2
          have hc2 : ¬ A.getD i default = B.getD i default := by simpa using hc2
          refine AW.seq ?_
          refine AW.region (by kernel_rfl) ?_
          refine RunF.q (o_assign rfl) rfl ?_
          refine AW.ret ?_
          exact FinQ.ret [] [] (ress_tmp rfl ress_nil) rfl .nil (.cons rfl rfl (by first | (apply PRN.flat; rfl) | (apply PRN.flat; simp; done) | (repeat' first | exact PRN.nil | apply PRN.cons | exact RN.self rfl | exact RN.top | exact RN.ptr rfl | exact RN.sl rfl | exact RN.slf rfl | apply RN.agg | apply RN.fn | exact RNs.nil | apply RNs.cons)) (.cons rfl rfl (by first | (apply PRN.flat; rfl) | (apply PRN.flat; simp; done) | (repeat' first | exact PRN.nil | apply PRN.cons | exact RN.self rfl | exact RN.top | exact RN.ptr rfl | exact RN.sl rfl | exact RN.slf rfl | apply RN.agg | apply RN.fn | exact RNs.nil | apply RNs.cons)) .nil)) (by rw [show decide (A = B) = false from decide_eq_false (fun h => hc2 (by rw [h]))]; exact (by repeat' first | exact RN.self rfl | exact RN.top | exact RN.ptr rfl | exact RN.sl rfl | exact RN.slf rfl | apply RN.agg | apply RN.tuple | apply RN.fn | exact RNs.nil | apply RNs.cons | (apply RNs.flat; simp; done)))
        · try simp only [decide_eq_true_eq, decide_eq_false_iff_not, bne_iff_ne, beq_iff_eq, bne_eq_false_iff_eq, beq_eq_false_iff_ne, ne_eq, Bool.not_eq_true', Bool.not_eq_false'] at hc2
          have hc2 : A.getD i default = B.getD i default := by simpa using hc2
          refine AW.skip ?_
          refine AW.region (by kernel_rfl) ?_
          refine RunF.q (o_move rfl) rfl ?_
          refine RunF.q (o_add rfl rfl (by first | exact i64_in _ (by omega) | rfl)) rfl ?_
          refine RunF.q (o_assign rfl) rfl ?_
          exact ⟨⟨i + 1, by omega, upto_succ hxs hc2⟩, Wk.same rfl (.cons rfl (.cons rfl (.cons rfl .nil))), by dsimp only; omega⟩
      · try simp only [decide_eq_true_eq, decide_eq_false_iff_not, bne_iff_ne, beq_iff_eq, bne_eq_false_iff_eq, beq_eq_false_iff_ne, ne_eq, Bool.not_eq_true', Bool.not_eq_false'] at hc1
        refine AW.exit ?_
        refine AW.seq ?_
        refine AW.region (by kernel_rfl) ?_
        refine RunF.q (o_assign rfl) rfl ?_
        refine AW.ret ?_
        exact FinQ.ret [] [] (ress_tmp rfl ress_nil) rfl .nil (.cons rfl rfl (by first | (apply PRN.flat; rfl) | (apply PRN.flat; simp; done) | (repeat' first | exact PRN.nil | apply PRN.cons | exact RN.self rfl | exact RN.top | exact RN.ptr rfl | exact RN.sl rfl | exact RN.slf rfl | apply RN.agg | apply RN.fn | exact RNs.nil | apply RNs.cons)) (.cons rfl rfl (by first | (apply PRN.flat; rfl) | (apply PRN.flat; simp; done) | (repeat' first | exact PRN.nil | apply PRN.cons | exact RN.self rfl | exact RN.top | exact RN.ptr rfl | exact RN.sl rfl | exact RN.slf rfl | apply RN.agg | apply RN.fn | exact RNs.nil | apply RNs.cons)) .nil)) (by rw [show decide (A = B) = true from decide_eq_true (eq_of_at (by omega) (fun j hj => hxs j (by omega)))]; exact (by repeat' first | exact RN.self rfl | exact RN.top | exact RN.ptr rfl | exact RN.sl rfl | exact RN.slf rfl | apply RN.agg | apply RN.tuple | apply RN.fn | exact RNs.nil | apply RNs.cons | (apply RNs.flat; simp; done)))
    · exact Wk.same rfl (.cons rfl (.cons rfl (.cons rfl .nil)))

end Go.Proofs.Ytnkijhpikeokfaa

/- Whether one log begins with another one; whether generations and places rise. -/
namespace Go.Proofs.Ytnkijhpikeokfaa
open Go Go.Sym Go.IntWalk

theorem rowsF_from {α : Type} {f : α → List AV} {k : Nat} (hk : ∀ a, (f a).length = k) (L : List α) : ((rowsF f L).drop (1 * k)).take ((L.length - 1) * k) = rowsF f (L.drop 1) := by
  rw [rowsF_drop hk]
  have := rowsF_take hk (L.drop 1) (L.length - 1)
  rw [this, List.take_of_length_le (by simp)]
def begins (A C : List Sam) : Bool := decide (A.length ≤ C.length) && decide (A = C.take A.length)
theorem begins_iff {A C : List Sam} : begins A C = true ↔ A.length ≤ C.length ∧ ∀ j, j < A.length → A.getD j default = C.getD j default := by
  unfold begins
  rw [Bool.and_eq_true, decide_eq_true_eq, decide_eq_true_eq]
  constructor
  · rintro ⟨h1, h2⟩
    refine ⟨h1, fun j hj => ?_⟩
    have h3 : A.getD j default = (C.take A.length).getD j default := by rw [← h2]
    rw [h3, List.getD_eq_getElem?_getD, List.getD_eq_getElem?_getD, List.getElem?_take_of_lt hj]
  · rintro ⟨h1, h2⟩
    refine ⟨h1, eq_of_at (by simp; omega) fun j hj => ?_⟩
    rw [h2 j hj, List.getD_eq_getElem?_getD, List.getD_eq_getElem?_getD, List.getElem?_take_of_lt hj]
theorem begins_no {A C : List Sam} {i : Nat} (hi : i < A.length) (h : ¬ A.getD i default = C.getD i default) : begins A C = false := by
  rw [Bool.eq_false_iff]; intro hh; exact h ((begins_iff.1 hh).2 i hi)
theorem equalS_n (A C : List Sam) (n : Nat) (fa fb : Bool) (hA : A.length ≤ 9223372036854775807) (hn : n = C.length) : SoundC Try.prog 104 [.sl (.r 0) 0 A.length 13 fa, .sl (.r 1) 0 n 13 fb] ⟨[sams A, sams C], []⟩ { val := .bool (decide (A = C)) } := by
  subst hn; exact equalS_ok A C fa fb hA

def up (a b : Tk) : Bool := decide (a.g < b.g) || (decide (a.g = b.g) && decide (a.k < b.k))
def rises (L : List Tk) : Bool := (List.range L.length).all fun i => decide (i = 0) || up (L.getD (i - 1) default) (L.getD i default)
theorem rises_iff {L : List Tk} : rises L = true ↔ ∀ i, i < L.length → 0 < i → up (L.getD (i - 1) default) (L.getD i default) = true := by
  unfold rises
  rw [List.all_eq_true]
  constructor
  · intro h i hi h0
    have := h i (List.mem_range.2 hi)
    rw [decide_eq_false (by omega), Bool.false_or] at this
    exact this
  · intro h i hi
    have hi := List.mem_range.1 hi
    by_cases e : i = 0
    · simp [e]
    · rw [decide_eq_false e, Bool.false_or]; exact h i hi (by omega)
theorem rises_no {L : List Tk} {i : Nat} (hi : i < L.length) (h0 : 0 < i) (h : up (L.getD (i - 1) default) (L.getD i default) = false) : rises L = false := by
  rw [Bool.eq_false_iff]; intro hh; rw [rises_iff.1 hh i hi h0] at h; cases h
theorem up_no {a b : Tk} (h : b.g < a.g ∨ (b.g ≤ a.g ∧ b.k ≤ a.k)) : up a b = false := by
  unfold up; rcases h with h | h
  · rw [decide_eq_false (by omega), decide_eq_false (by omega)]; rfl
  · rw [decide_eq_false (by omega), Bool.false_or, Bool.and_eq_false_iff, decide_eq_false_iff_not, decide_eq_false_iff_not]; exact .inr (by omega)
theorem up_yes {a b : Tk} (h : a.g < b.g ∨ (a.g = b.g ∧ a.k < b.k)) : up a b = true := by
  unfold up; rcases h with h | h
  · rw [decide_eq_true h]; rfl
  · rw [decide_eq_true h.1, decide_eq_true h.2]; simp
theorem tks_g {L : List Tk} {i : Nat} (hi : i < L.length) : (tks L)[i * 5]? = some (.int .i64 (L.getD i default).g) := (rowsF_get Tk.len (j := 0) hi (by decide)).trans rfl
theorem tks_k {L : List Tk} {i : Nat} (hi : i < L.length) : (tks L)[i * 5 + 1]? = some (.int .i64 (L.getD i default).k) := (rowsF_get Tk.len (j := 1) hi (by decide)).trans rfl

set_option maxHeartbeats 1000000 in
theorem begins_ok (A C : List Sam) (fa fb : Bool) (hA : A.length ≤ 9223372036854775807) : SoundC Try.prog 56 [.sl (.r 0) 0 A.length 13 fa, .sl (.r 1) 0 C.length 13 fb] ⟨[sams A, sams C], []⟩ { val := .bool (begins A C) } := by
  refine SoundC.of (N := 18) Try.func56 rfl rfl rfl rfl ?_
  refine AW.seq ?_
  refine AW.region (by kernel_rfl) ?_
  refine RunF.q (o_assign rfl) rfl ?_
  refine AW.seq ?_
  refine AW.region (by kernel_rfl) ?_
  refine RunF.q (o_move rfl) rfl ?_
  first | refine RunF.q (o_len tk93 rfl) rfl ?_ | refine RunF.q (o_len_nil tk93 rfl) rfl ?_
  refine RunF.q (o_move rfl) rfl ?_
  first | refine RunF.q (o_len tk93 rfl) rfl ?_ | refine RunF.q (o_len_nil tk93 rfl) rfl ?_
  refine RunF.q (o_leq rfl rfl) rfl ?_
  refine RunF.br (o_move rfl) rfl (fun hb1_5 => ?_) (fun hb1_5 => ?_)
  · try simp only [decide_eq_true_eq, decide_eq_false_iff_not, bne_iff_ne, beq_iff_eq, bne_eq_false_iff_eq, beq_eq_false_iff_ne, ne_eq, Bool.not_eq_true', Bool.not_eq_false'] at hb1_5
    refine RunF.gq rfl (o_move rfl) rfl ?_
    refine RunF.gq rfl (o_move rfl) rfl ?_
    refine RunF.gq rfl (o_move rfl) rfl ?_
    first | refine RunF.gq rfl (o_len tk93 rfl) rfl ?_ | refine RunF.gq rfl (o_len_nil tk93 rfl) rfl ?_
    refine RunF.gq rfl (o_slice_sl (m := 0) (r := A.length) tk93 ts87 rfl rfl rfl rfl (by omega) rfl rfl (by simp) (by simp) rfl) rfl ?_
    refine RunF.gq rfl (o_call (no := 0) (nr := 2) rfl rfl rfl (by (repeat' first | exact cl_nil | exact cL_flat rfl | exact cL_flat (ints_flat _) | exact cL_flat (sams_flat _) | exact cL_flat (tks_flat _) | exact cL_flat (ous_flat _) | exact cL_flat (ves_flat _) | apply cL_vs | apply cl_cons | exact cv_flat rfl | apply cv_agg | apply cv_ptr_o | apply cv_sl_o rfl | apply cv_func | exact cO_old rfl | (apply cO_new; (focus rfl); (focus rfl)) | (apply cv_sl_r; (focus rfl); (focus rfl); (focus (first | (simp; done) | (simp only [sams_length, tks_length, ous_length, ves_length]; omega))); (focus (first | exact ints_all _ | exact rowsF_all Sam.len _ | exact rowsF_all Tk.len _ | exact rowsF_all Ou.len _ | exact rowsF_all Ve.len _ | exact rowsF_win Sam.len _ _ | exact rowsF_win Tk.len _ _ | exact rowsF_from Tk.len _ | rfl))) | (apply cv_ptr_r rfl ?_ rfl rfl) | (simp only [List.nil_append, List.cons_append, List.length_cons, List.length_nil, Nat.zero_add, Nat.reduceAdd, List.set_cons_zero, List.set_cons_succ]; rfl) | rfl)) (by rfl) (by exact equalS_n A (C.take A.length) A.length fa _ hA (by simp; omega)) (by rfl) rfl rfl (by first | exact reV_bare _ _ rfl | (simp only [reV, reVs, List.all_cons, List.all_nil, AV.flat, Bool.and_true, Bool.true_and, Bool.false_and, Bool.and_false, Bool.false_eq_true, reduceIte, CS.de, List.getElem?_cons_zero, List.getElem?_cons_succ, List.getElem?_nil, List.length_cons, List.length_nil, Nat.reduceSub, Nat.reduceAdd, Nat.zero_add, Nat.add_zero, Nat.sub_self]; rfl)) rfl) (by rfl) ?_
    refine RunF.q (o_pick_t rfl rfl) rfl ?_
    refine RunF.q (o_assign rfl) rfl ?_
    refine AW.ret ?_
    exact FinQ.ret [] [] (ress_tmp rfl ress_nil) rfl .nil (.cons rfl rfl (by first | (apply PRN.flat; rfl) | (apply PRN.flat; simp; done) | (repeat' first | exact PRN.nil | apply PRN.cons | exact RN.self rfl | exact RN.top | exact RN.ptr rfl | exact RN.sl rfl | exact RN.slf rfl | apply RN.agg | apply RN.fn | exact RNs.nil | apply RNs.cons)) (.cons rfl rfl (by first | (apply PRN.flat; rfl) | (apply PRN.flat; simp; done) | (repeat' first | exact PRN.nil | apply PRN.cons | exact RN.self rfl | exact RN.top | exact RN.ptr rfl | exact RN.sl rfl | exact RN.slf rfl | apply RN.agg | apply RN.fn | exact RNs.nil | apply RNs.cons)) .nil)) (by rw [show begins A C = decide (A = C.take A.length) from (by unfold begins; rw [decide_eq_true (show A.length ≤ C.length by omega), Bool.true_and])]; exact (by repeat' first | exact RN.self rfl | exact RN.top | exact RN.ptr rfl | exact RN.sl rfl | exact RN.slf rfl | apply RN.agg | apply RN.tuple | apply RN.fn | exact RNs.nil | apply RNs.cons | (apply RNs.flat; simp; done)))
  · try simp only [decide_eq_true_eq, decide_eq_false_iff_not, bne_iff_ne, beq_iff_eq, bne_eq_false_iff_eq, beq_eq_false_iff_ne, ne_eq, Bool.not_eq_true', Bool.not_eq_false'] at hb1_5
    refine RunF.gs (b := false) rfl rfl ?_
    refine RunF.gs (b := false) rfl rfl ?_
    refine RunF.gs (b := false) rfl rfl ?_
    refine RunF.gs (b := false) rfl rfl ?_
    refine RunF.gs (b := false) rfl rfl ?_
    refine RunF.gs (b := false) rfl rfl ?_
    refine RunF.q (o_pick_f rfl rfl) rfl ?_
    refine RunF.q (o_assign rfl) rfl ?_
    refine AW.ret ?_
    exact FinQ.ret [] [] (ress_tmp rfl ress_nil) rfl .nil (.cons rfl rfl (by first | (apply PRN.flat; rfl) | (apply PRN.flat; simp; done) | (repeat' first | exact PRN.nil | apply PRN.cons | exact RN.self rfl | exact RN.top | exact RN.ptr rfl | exact RN.sl rfl | exact RN.slf rfl | apply RN.agg | apply RN.fn | exact RNs.nil | apply RNs.cons)) (.cons rfl rfl (by first | (apply PRN.flat; rfl) | (apply PRN.flat; simp; done) | (repeat' first | exact PRN.nil | apply PRN.cons | exact RN.self rfl | exact RN.top | exact RN.ptr rfl | exact RN.sl rfl | exact RN.slf rfl | apply RN.agg | apply RN.fn | exact RNs.nil | apply RNs.cons)) .nil)) (by rw [show begins A C = false from (by unfold begins; rw [decide_eq_false (show ¬ A.length ≤ C.length by omega), Bool.false_and])]; exact (by repeat' first | exact RN.self rfl | exact RN.top | exact RN.ptr rfl | exact RN.sl rfl | exact RN.slf rfl | apply RN.agg | apply RN.tuple | apply RN.fn | exact RNs.nil | apply RNs.cons | (apply RNs.flat; simp; done)))

set_option maxHeartbeats 1000000 in
theorem rbegins_ok (A C : List Sam) (fa fb : Bool) (hA : A.length ≤ 9223372036854775807) : SoundC Try.prog 57 [.sl (.r 0) 0 A.length 13 fa, .sl (.r 1) 0 C.length 13 fb] ⟨[sams A, sams C], []⟩ { val := .bool (begins A C) } := by
  refine SoundC.of (N := 26) Try.func57 rfl rfl rfl rfl ?_
  refine AW.seq ?_
  refine AW.region (by kernel_rfl) ?_
  refine RunF.q (o_assign rfl) rfl ?_
  refine AW.seq ?_
  refine AW.seq ?_
  refine AW.region (by kernel_rfl) ?_
  refine RunF.q (o_move rfl) rfl ?_
  first | refine RunF.q (o_len tk93 rfl) rfl ?_ | refine RunF.q (o_len_nil tk93 rfl) rfl ?_
  refine RunF.q (o_move rfl) rfl ?_
  first | refine RunF.q (o_len tk93 rfl) rfl ?_ | refine RunF.q (o_len_nil tk93 rfl) rfl ?_
  refine RunF.q (o_gtr rfl rfl) rfl ?_
  refine AW.cond rfl (fun hc0 => ?_) (fun hc0 => ?_)
  · try simp only [decide_eq_true_eq, decide_eq_false_iff_not, bne_iff_ne, beq_iff_eq, bne_eq_false_iff_eq, beq_eq_false_iff_ne, ne_eq, Bool.not_eq_true', Bool.not_eq_false'] at hc0
    refine AW.seq ?_
    refine AW.region (by kernel_rfl) ?_
    refine RunF.q (o_assign rfl) rfl ?_
    refine AW.ret ?_
    exact FinQ.ret [] [] (ress_tmp rfl ress_nil) rfl .nil (.cons rfl rfl (by first | (apply PRN.flat; rfl) | (apply PRN.flat; simp; done) | (repeat' first | exact PRN.nil | apply PRN.cons | exact RN.self rfl | exact RN.top | exact RN.ptr rfl | exact RN.sl rfl | exact RN.slf rfl | apply RN.agg | apply RN.fn | exact RNs.nil | apply RNs.cons)) (.cons rfl rfl (by first | (apply PRN.flat; rfl) | (apply PRN.flat; simp; done) | (repeat' first | exact PRN.nil | apply PRN.cons | exact RN.self rfl | exact RN.top | exact RN.ptr rfl | exact RN.sl rfl | exact RN.slf rfl | apply RN.agg | apply RN.fn | exact RNs.nil | apply RNs.cons)) .nil)) (by rw [show begins A C = false from (by unfold begins; rw [decide_eq_false (show ¬ A.length ≤ C.length by omega), Bool.false_and])]; exact (by repeat' first | exact RN.self rfl | exact RN.top | exact RN.ptr rfl | exact RN.sl rfl | exact RN.slf rfl | apply RN.agg | apply RN.tuple | apply RN.fn | exact RNs.nil | apply RNs.cons | (apply RNs.flat; simp; done)))
  · try simp only [decide_eq_true_eq, decide_eq_false_iff_not, bne_iff_ne, beq_iff_eq, bne_eq_false_iff_eq, beq_eq_false_iff_ne, ne_eq, Bool.not_eq_true', Bool.not_eq_false'] at hc0
    have hAC : A.length ≤ C.length := by omega
    refine AW.skip ?_
    refine AW.seq ?_
    refine AW.seq ?_
    refine AW.region (by kernel_rfl) ?_
    refine RunF.q (o_assign rfl) rfl ?_
    refine AW.block ?_
    refine AW.loop (α := {i : Nat // i ≤ A.length ∧ ∀ j, j < i → A.getD j default = C.getD j default}) (fun x : {i : Nat // i ≤ A.length ∧ ∀ j, j < i → A.getD j default = C.getD j default} => ([(0, .sl (.r 0) 0 A.length 13 fa), (1, .sl (.r 1) 0 C.length 13 fb), (5, .int .i64 x.1)], ⟨[sams A, sams C], []⟩)) (fun x => A.length - x.1) (fun x => ?_) ⟨0, by omega, fun j hj => absurd hj (by omega)⟩ ?_
    · obtain ⟨i, hx, hxs⟩ := x
      try dsimp only at hx hxs
      try dsimp only
      refine AW.seq ?_
      refine AW.seq ?_
      refine AW.region (by kernel_rfl) ?_
      refine RunF.q (o_move rfl) rfl ?_
      refine RunF.q (o_move rfl) rfl ?_
      first | refine RunF.q (o_len tk93 rfl) rfl ?_ | refine RunF.q (o_len_nil tk93 rfl) rfl ?_
      refine RunF.q (o_lss rfl rfl) rfl ?_
      refine AW.cond rfl (fun hc1 => ?_) (fun hc1 => ?_)
      · try simp only [decide_eq_true_eq, decide_eq_false_iff_not, bne_iff_ne, beq_iff_eq, bne_eq_false_iff_eq, beq_eq_false_iff_ne, ne_eq, Bool.not_eq_true', Bool.not_eq_false'] at hc1
        refine AW.skip ?_
        refine AW.seq ?_
        refine AW.block ?_
        refine AW.seq ?_
        refine AW.draws (by kernel_rfl) (by kernel_rfl) ?_
        refine RunV.q (o_move rfl) rfl ?_
        refine RunV.q (o_move rfl) rfl ?_
        refine RunV.q (o_indexAddr (m := i * 13) tk93 ts87 rfl rfl (by omega) (by omega)) rfl ?_
        refine RunV.q (o_load_agg (cs := (A.getD i default).cells) rfl tk87 ts87 rfl rfl (rowsF_le Sam.len (by omega)) (rowsF_at Sam.len (by omega))) rfl ?_
        refine RunV.q (o_move rfl) rfl ?_
        refine RunV.q (o_move rfl) rfl ?_
        refine RunV.q (o_indexAddr (m := i * 13) tk93 ts87 rfl rfl (by omega) (by omega)) rfl ?_
        refine RunV.q (o_load_agg (cs := (C.getD i default).cells) rfl tk87 ts87 rfl rfl (rowsF_le Sam.len (by omega)) (rowsF_at Sam.len (by omega))) rfl ?_
        refine RunV.q (o_nea (z := decide (A.getD i default = C.getD i default)) rfl rfl tk87 ko87 (by rw [eg87]; rfl) (sam_eq _ _)) rfl ?_
        refine And.intro (by kernel_rfl) ?_
        refine AW.cond rfl (fun hc2 => ?_) (fun hc2 => ?_)
        · try simp only [decide_eq_true_eq, decide_eq_false_iff_not, bne_iff_ne, beq_iff_eq, bne_eq_false_iff_eq, beq_eq_false_iff_ne, ne_eq, Bool.not_eq_true', Bool.not_eq_false'] at hc2
          have hc2 : ¬ A.getD i default = C.getD i default := by simpa using hc2
          refine AW.seq ?_
          refine AW.region (by kernel_rfl) ?_
          refine RunF.q (o_assign rfl) rfl ?_
          refine AW.ret ?_
          exact FinQ.ret [] [] (ress_tmp rfl ress_nil) rfl .nil (.cons rfl rfl (by first | (apply PRN.flat; rfl) | (apply PRN.flat; simp; done) | (repeat' first | exact PRN.nil | apply PRN.cons | exact RN.self rfl | exact RN.top | exact RN.ptr rfl | exact RN.sl rfl | exact RN.slf rfl | apply RN.agg | apply RN.fn | exact RNs.nil | apply RNs.cons)) (.cons rfl rfl (by first | (apply PRN.flat; rfl) | (apply PRN.flat; simp; done) | (repeat' first | exact PRN.nil | apply PRN.cons | exact RN.self rfl | exact RN.top | exact RN.ptr rfl | exact RN.sl rfl | exact RN.slf rfl | apply RN.agg | apply RN.fn | exact RNs.nil | apply RNs.cons)) .nil)) (by rw [show begins A C = false from begins_no (by omega) hc2]; exact (by repeat' first | exact RN.self rfl | exact RN.top | exact RN.ptr rfl | exact RN.sl rfl | exact RN.slf rfl | apply RN.agg | apply RN.tuple | apply RN.fn | exact RNs.nil | apply RNs.cons | (apply RNs.flat; simp; done)))
        · try simp only [decide_eq_true_eq, decide_eq_false_iff_not, bne_iff_ne, beq_iff_eq, bne_eq_false_iff_eq, beq_eq_false_iff_ne, ne_eq, Bool.not_eq_true', Bool.not_eq_false'] at hc2
          have hc2 : A.getD i default = C.getD i default := by simpa using hc2
          refine AW.skip ?_
          refine AW.region (by kernel_rfl) ?_
          refine RunF.q (o_move rfl) rfl ?_
          refine RunF.q (o_add rfl rfl (by first | exact i64_in _ (by omega) | rfl)) rfl ?_
          refine RunF.q (o_assign rfl) rfl ?_
          exact ⟨⟨i + 1, by omega, upto_succ hxs hc2⟩, Wk.same rfl (.cons rfl (.cons rfl (.cons rfl .nil))), by dsimp only; omega⟩
      · try simp only [decide_eq_true_eq, decide_eq_false_iff_not, bne_iff_ne, beq_iff_eq, bne_eq_false_iff_eq, beq_eq_false_iff_ne, ne_eq, Bool.not_eq_true', Bool.not_eq_false'] at hc1
        refine AW.exit ?_
        refine AW.seq ?_
        refine AW.region (by kernel_rfl) ?_
        refine RunF.q (o_assign rfl) rfl ?_
        refine AW.ret ?_
        exact FinQ.ret [] [] (ress_tmp rfl ress_nil) rfl .nil (.cons rfl rfl (by first | (apply PRN.flat; rfl) | (apply PRN.flat; simp; done) | (repeat' first | exact PRN.nil | apply PRN.cons | exact RN.self rfl | exact RN.top | exact RN.ptr rfl | exact RN.sl rfl | exact RN.slf rfl | apply RN.agg | apply RN.fn | exact RNs.nil | apply RNs.cons)) (.cons rfl rfl (by first | (apply PRN.flat; rfl) | (apply PRN.flat; simp; done) | (repeat' first | exact PRN.nil | apply PRN.cons | exact RN.self rfl | exact RN.top | exact RN.ptr rfl | exact RN.sl rfl | exact RN.slf rfl | apply RN.agg | apply RN.fn | exact RNs.nil | apply RNs.cons)) .nil)) (by rw [show begins A C = true from begins_iff.2 ⟨hAC, fun j hj => hxs j (by omega)⟩]; exact (by repeat' first | exact RN.self rfl | exact RN.top | exact RN.ptr rfl | exact RN.sl rfl | exact RN.slf rfl | apply RN.agg | apply RN.tuple | apply RN.fn | exact RNs.nil | apply RNs.cons | (apply RNs.flat; simp; done)))
    · exact Wk.same rfl (.cons rfl (.cons rfl (.cons rfl .nil)))

set_option maxHeartbeats 1000000 in
theorem rises_ok (L : List Tk) (f : Bool) (hL : L.length ≤ 1000000) : SoundC Try.prog 58 [.sl (.r 0) 0 L.length 5 f] ⟨[tks L], []⟩ { val := .bool (rises L) } := by
  refine SoundC.of (N := 54) Try.func58 rfl rfl rfl rfl ?_
  refine AW.seq ?_
  refine AW.region (by kernel_rfl) ?_
  refine RunF.q (o_assign rfl) rfl ?_
  refine AW.seq ?_
  refine AW.seq ?_
  refine AW.region (by kernel_rfl) ?_
  refine RunF.q (o_move rfl) rfl ?_
  first | refine RunF.q (o_len tk94 rfl) rfl ?_ | refine RunF.q (o_len_nil tk94 rfl) rfl ?_
  refine RunF.q (o_move rfl) rfl ?_
  refine AW.block ?_
  refine AW.loop (α := {i : Nat // i ≤ L.length ∧ ∀ j, j < i → 0 < j → up (L.getD (j - 1) default) (L.getD j default) = true}) (fun x : {i : Nat // i ≤ L.length ∧ ∀ j, j < i → 0 < j → up (L.getD (j - 1) default) (L.getD j default) = true} => ([(0, .sl (.r 0) 0 L.length 5 f), (5, .int .i64 L.length), (6, .int .i64 x.1)], ⟨[tks L], []⟩)) (fun x => L.length - x.1) (fun x => ?_) ⟨0, by omega, fun j hj => absurd hj (by omega)⟩ ?_
  · obtain ⟨i, hx, hxs⟩ := x
    try dsimp only at hx hxs
    try dsimp only
    refine AW.seq ?_
    refine AW.region (by kernel_rfl) ?_
    refine RunF.q (o_lss rfl rfl) rfl ?_
    refine AW.seq ?_
    refine AW.cond rfl (fun hc0 => ?_) (fun hc0 => ?_)
    · try simp only [decide_eq_true_eq, decide_eq_false_iff_not, bne_iff_ne, beq_iff_eq, bne_eq_false_iff_eq, beq_eq_false_iff_ne, ne_eq, Bool.not_eq_true', Bool.not_eq_false'] at hc0
      refine AW.skip ?_
      refine AW.seq ?_
      refine AW.block ?_
      refine AW.seq ?_
      refine AW.region (by kernel_rfl) ?_
      refine RunF.q (o_move rfl) rfl ?_
      refine RunF.q (o_assign rfl) rfl ?_
      refine AW.seq ?_
      refine AW.draws (by kernel_rfl) (by kernel_rfl) ?_
      refine RunV.q (o_move rfl) rfl ?_
      refine RunV.q (o_gtr rfl rfl) rfl ?_
      refine RunV.br (o_move rfl) rfl (fun hb4_2 => ?_) (fun hb4_2 => ?_)
      · try simp only [decide_eq_true_eq, decide_eq_false_iff_not, bne_iff_ne, beq_iff_eq, bne_eq_false_iff_eq, beq_eq_false_iff_ne, ne_eq, Bool.not_eq_true', Bool.not_eq_false'] at hb4_2
        refine RunV.gq rfl (o_move rfl) rfl ?_
        refine RunV.gq rfl (o_move rfl) rfl ?_
        refine RunV.gq rfl (o_indexAddr (m := i * 5) tk94 ts114 rfl rfl (by omega) (by omega)) rfl ?_
        refine RunV.gq rfl (o_fieldAddr rfl tk114 rfl ts2 rfl) rfl ?_
        refine RunV.gq rfl (o_load rfl tk2 ts2 rfl rfl (tks_g (i := i) (by omega))) rfl ?_
        refine RunV.gq rfl (o_move rfl) rfl ?_
        refine RunV.gq rfl (o_move rfl) rfl ?_
        refine RunV.gq rfl (o_sub rfl rfl (by first | exact i64_in _ (by omega) | rfl)) rfl ?_
        refine RunV.gq rfl (o_indexAddr (m := (i - 1) * 5) tk94 ts114 rfl rfl (by omega) (by omega)) rfl ?_
        refine RunV.gq rfl (o_fieldAddr rfl tk114 rfl ts2 rfl) rfl ?_
        refine RunV.gq rfl (o_load rfl tk2 ts2 rfl rfl (tks_g (i := (i - 1)) (by omega))) rfl ?_
        refine RunV.gq rfl (o_lss rfl rfl) rfl ?_
        refine RunV.gb rfl (o_move rfl) rfl (fun hb4_15 => ?_) (fun hb4_15 => ?_)
        · try simp only [decide_eq_true_eq, decide_eq_false_iff_not, bne_iff_ne, beq_iff_eq, bne_eq_false_iff_eq, beq_eq_false_iff_ne, ne_eq, Bool.not_eq_true', Bool.not_eq_false'] at hb4_15
          refine RunV.gs (b := true) rfl rfl ?_
          refine RunV.gs (b := true) rfl rfl ?_
          refine RunV.gs (b := true) rfl rfl ?_
          refine RunV.gs (b := true) rfl rfl ?_
          refine RunV.gs (b := true) rfl rfl ?_
          refine RunV.gs (b := true) rfl rfl ?_
          refine RunV.gs (b := true) rfl rfl ?_
          refine RunV.gs (b := true) rfl rfl ?_
          refine RunV.gs (b := true) rfl rfl ?_
          refine RunV.gs (b := true) rfl rfl ?_
          refine RunV.gs (b := true) rfl rfl ?_
          refine RunV.gs (b := true) rfl rfl ?_
          refine RunV.gs (b := true) rfl rfl ?_
          refine RunV.gt rfl ?_
          refine RunV.gt rfl ?_
          refine RunV.gt rfl ?_
          refine RunV.gt rfl ?_
          refine RunV.gt rfl ?_
          refine RunV.gt rfl ?_
          refine RunV.gt rfl ?_
          refine RunV.gt rfl ?_
          refine RunV.gt rfl ?_
          refine RunV.gt rfl ?_
          refine RunV.gt rfl ?_
          refine RunV.gt rfl ?_
          refine RunV.gs (b := true) rfl rfl ?_
          refine RunV.gq rfl (o_pick_t rfl rfl) rfl ?_
          refine RunV.q (o_pick_t rfl rfl) rfl ?_
          refine And.intro (by kernel_rfl) ?_
          refine AW.cond rfl (fun hc1 => ?_) (fun hc1 => absurd hc1 (by simp))
          refine AW.seq ?_
          refine AW.region (by kernel_rfl) ?_
          refine RunF.q (o_assign rfl) rfl ?_
          refine AW.ret ?_
          exact FinQ.ret [] [] (ress_tmp rfl ress_nil) rfl .nil (.cons rfl rfl (by first | (apply PRN.flat; rfl) | (apply PRN.flat; simp; done) | (repeat' first | exact PRN.nil | apply PRN.cons | exact RN.self rfl | exact RN.top | exact RN.ptr rfl | exact RN.sl rfl | exact RN.slf rfl | apply RN.agg | apply RN.fn | exact RNs.nil | apply RNs.cons)) .nil) (by rw [show rises L = false from rises_no (i := i) (by omega) (by omega) (up_no (by first | exact .inl (by omega) | exact .inr ⟨by omega, by omega⟩))]; exact (by repeat' first | exact RN.self rfl | exact RN.top | exact RN.ptr rfl | exact RN.sl rfl | exact RN.slf rfl | apply RN.agg | apply RN.tuple | apply RN.fn | exact RNs.nil | apply RNs.cons | (apply RNs.flat; simp; done)))
        · try simp only [decide_eq_true_eq, decide_eq_false_iff_not, bne_iff_ne, beq_iff_eq, bne_eq_false_iff_eq, beq_eq_false_iff_ne, ne_eq, Bool.not_eq_true', Bool.not_eq_false'] at hb4_15
          refine RunV.gq rfl (o_move rfl) rfl ?_
          refine RunV.gq rfl (o_move rfl) rfl ?_
          refine RunV.gq rfl (o_indexAddr (m := i * 5) tk94 ts114 rfl rfl (by omega) (by omega)) rfl ?_
          refine RunV.gq rfl (o_fieldAddr rfl tk114 rfl ts2 rfl) rfl ?_
          refine RunV.gq rfl (o_load rfl tk2 ts2 rfl rfl (tks_g (i := i) (by omega))) rfl ?_
          refine RunV.gq rfl (o_move rfl) rfl ?_
          refine RunV.gq rfl (o_move rfl) rfl ?_
          refine RunV.gq rfl (o_sub rfl rfl (by first | exact i64_in _ (by omega) | rfl)) rfl ?_
          refine RunV.gq rfl (o_indexAddr (m := (i - 1) * 5) tk94 ts114 rfl rfl (by omega) (by omega)) rfl ?_
          refine RunV.gq rfl (o_fieldAddr rfl tk114 rfl ts2 rfl) rfl ?_
          refine RunV.gq rfl (o_load rfl tk2 ts2 rfl rfl (tks_g (i := (i - 1)) (by omega))) rfl ?_
          refine RunV.gq rfl (o_eql rfl rfl) rfl ?_
          refine RunV.gb rfl (o_move rfl) rfl (fun hb4_28 => ?_) (fun hb4_28 => ?_)
          · try simp only [decide_eq_true_eq, decide_eq_false_iff_not, bne_iff_ne, beq_iff_eq, bne_eq_false_iff_eq, beq_eq_false_iff_ne, ne_eq, Bool.not_eq_true', Bool.not_eq_false'] at hb4_28
            refine RunV.gq rfl (o_move rfl) rfl ?_
            refine RunV.gq rfl (o_move rfl) rfl ?_
            refine RunV.gq rfl (o_indexAddr (m := i * 5) tk94 ts114 rfl rfl (by omega) (by omega)) rfl ?_
            refine RunV.gq rfl (o_fieldAddr rfl tk114 rfl ts2 rfl) rfl ?_
            refine RunV.gq rfl (o_load rfl tk2 ts2 rfl rfl (tks_k (i := i) (by omega))) rfl ?_
            refine RunV.gq rfl (o_move rfl) rfl ?_
            refine RunV.gq rfl (o_move rfl) rfl ?_
            refine RunV.gq rfl (o_sub rfl rfl (by first | exact i64_in _ (by omega) | rfl)) rfl ?_
            refine RunV.gq rfl (o_indexAddr (m := (i - 1) * 5) tk94 ts114 rfl rfl (by omega) (by omega)) rfl ?_
            refine RunV.gq rfl (o_fieldAddr rfl tk114 rfl ts2 rfl) rfl ?_
            refine RunV.gq rfl (o_load rfl tk2 ts2 rfl rfl (tks_k (i := (i - 1)) (by omega))) rfl ?_
            refine RunV.gq rfl (o_leq rfl rfl) rfl ?_
            refine RunV.gq rfl (o_pick_t rfl rfl) rfl ?_
            refine RunV.gq rfl (o_pick_f rfl rfl) rfl ?_
            refine RunV.q (o_pick_t rfl rfl) rfl ?_
            refine And.intro (by kernel_rfl) ?_
            refine AW.cond rfl (fun hc1 => ?_) (fun hc1 => ?_)
            · try simp only [decide_eq_true_eq, decide_eq_false_iff_not, bne_iff_ne, beq_iff_eq, bne_eq_false_iff_eq, beq_eq_false_iff_ne, ne_eq, Bool.not_eq_true', Bool.not_eq_false'] at hc1
              refine AW.seq ?_
              refine AW.region (by kernel_rfl) ?_
              refine RunF.q (o_assign rfl) rfl ?_
              refine AW.ret ?_
              exact FinQ.ret [] [] (ress_tmp rfl ress_nil) rfl .nil (.cons rfl rfl (by first | (apply PRN.flat; rfl) | (apply PRN.flat; simp; done) | (repeat' first | exact PRN.nil | apply PRN.cons | exact RN.self rfl | exact RN.top | exact RN.ptr rfl | exact RN.sl rfl | exact RN.slf rfl | apply RN.agg | apply RN.fn | exact RNs.nil | apply RNs.cons)) .nil) (by rw [show rises L = false from rises_no (i := i) (by omega) (by omega) (up_no (by first | exact .inl (by omega) | exact .inr ⟨by omega, by omega⟩))]; exact (by repeat' first | exact RN.self rfl | exact RN.top | exact RN.ptr rfl | exact RN.sl rfl | exact RN.slf rfl | apply RN.agg | apply RN.tuple | apply RN.fn | exact RNs.nil | apply RNs.cons | (apply RNs.flat; simp; done)))
            · try simp only [decide_eq_true_eq, decide_eq_false_iff_not, bne_iff_ne, beq_iff_eq, bne_eq_false_iff_eq, beq_eq_false_iff_ne, ne_eq, Bool.not_eq_true', Bool.not_eq_false'] at hc1
              refine AW.skip ?_
              refine AW.region (by kernel_rfl) ?_
              refine RunF.q (o_add rfl rfl (by first | exact i64_in _ (by omega) | rfl)) rfl ?_
              refine RunF.q (o_move rfl) rfl ?_
              exact ⟨⟨i + 1, by omega, upto_succ hxs (fun h0 => by first | (exfalso; omega) | (refine up_yes ?_; omega))⟩, Wk.same rfl (.cons rfl (.cons rfl (.cons rfl .nil))), by dsimp only; omega⟩
          · try simp only [decide_eq_true_eq, decide_eq_false_iff_not, bne_iff_ne, beq_iff_eq, bne_eq_false_iff_eq, beq_eq_false_iff_ne, ne_eq, Bool.not_eq_true', Bool.not_eq_false'] at hb4_28
            refine RunV.gs (b := false) rfl rfl ?_
            refine RunV.gs (b := false) rfl rfl ?_
            refine RunV.gs (b := false) rfl rfl ?_
            refine RunV.gs (b := false) rfl rfl ?_
            refine RunV.gs (b := false) rfl rfl ?_
            refine RunV.gs (b := false) rfl rfl ?_
            refine RunV.gs (b := false) rfl rfl ?_
            refine RunV.gs (b := false) rfl rfl ?_
            refine RunV.gs (b := false) rfl rfl ?_
            refine RunV.gs (b := false) rfl rfl ?_
            refine RunV.gs (b := false) rfl rfl ?_
            refine RunV.gs (b := false) rfl rfl ?_
            refine RunV.gq rfl (o_pick_f rfl rfl) rfl ?_
            refine RunV.gq rfl (o_pick_f rfl rfl) rfl ?_
            refine RunV.q (o_pick_t rfl rfl) rfl ?_
            refine And.intro (by kernel_rfl) ?_
            refine AW.cond rfl (fun hc1 => absurd hc1 (by simp)) (fun hc1 => ?_)
            refine AW.skip ?_
            refine AW.region (by kernel_rfl) ?_
            refine RunF.q (o_add rfl rfl (by first | exact i64_in _ (by omega) | rfl)) rfl ?_
            refine RunF.q (o_move rfl) rfl ?_
            exact ⟨⟨i + 1, by omega, upto_succ hxs (fun h0 => by first | (exfalso; omega) | (refine up_yes ?_; omega))⟩, Wk.same rfl (.cons rfl (.cons rfl (.cons rfl .nil))), by dsimp only; omega⟩
      · try simp only [decide_eq_true_eq, decide_eq_false_iff_not, bne_iff_ne, beq_iff_eq, bne_eq_false_iff_eq, beq_eq_false_iff_ne, ne_eq, Bool.not_eq_true', Bool.not_eq_false'] at hb4_2
        refine RunV.gs (b := false) rfl rfl ?_
        refine RunV.gs (b := false) rfl rfl ?_
        refine RunV.gs (b := false) rfl rfl ?_
        refine RunV.gs (b := false) rfl rfl ?_
        refine RunV.gs (b := false) rfl rfl ?_
        refine RunV.gs (b := false) rfl rfl ?_
        refine RunV.gs (b := false) rfl rfl ?_
        refine RunV.gs (b := false) rfl rfl ?_
        refine RunV.gs (b := false) rfl rfl ?_
        refine RunV.gs (b := false) rfl rfl ?_
        refine RunV.gs (b := false) rfl rfl ?_
        refine RunV.gs (b := false) rfl rfl ?_
        refine RunV.gs (b := false) rfl rfl ?_
        refine RunV.gt rfl ?_
        refine RunV.gt rfl ?_
        refine RunV.gt rfl ?_
        refine RunV.gt rfl ?_
        refine RunV.gt rfl ?_
        refine RunV.gt rfl ?_
        refine RunV.gt rfl ?_
        refine RunV.gt rfl ?_
        refine RunV.gt rfl ?_
        refine RunV.gt rfl ?_
        refine RunV.gt rfl ?_
        refine RunV.gt rfl ?_
        refine RunV.gt rfl ?_
        refine RunV.gt rfl ?_
        refine RunV.gt rfl ?_
        refine RunV.gt rfl ?_
        refine RunV.gt rfl ?_
        refine RunV.gt rfl ?_
        refine RunV.gt rfl ?_
        refine RunV.gt rfl ?_
        refine RunV.gt rfl ?_
        refine RunV.gt rfl ?_
        refine RunV.gt rfl ?_
        refine RunV.gt rfl ?_
        refine RunV.gt rfl ?_
        refine RunV.gt rfl ?_
        refine RunV.gs (b := false) rfl rfl ?_
        refine RunV.q (o_pick_f rfl rfl) rfl ?_
        refine And.intro (by kernel_rfl) ?_
        refine AW.cond rfl (fun hc1 => absurd hc1 (by simp)) (fun hc1 => ?_)
        refine AW.skip ?_
        refine AW.region (by kernel_rfl) ?_
        refine RunF.q (o_add rfl rfl (by first | exact i64_in _ (by omega) | rfl)) rfl ?_
        refine RunF.q (o_move rfl) rfl ?_
        exact ⟨⟨i + 1, by omega, upto_succ hxs (fun h0 => by first | (exfalso; omega) | (refine up_yes ?_; omega))⟩, Wk.same rfl (.cons rfl (.cons rfl (.cons rfl .nil))), by dsimp only; omega⟩
    · try simp only [decide_eq_true_eq, decide_eq_false_iff_not, bne_iff_ne, beq_iff_eq, bne_eq_false_iff_eq, beq_eq_false_iff_ne, ne_eq, Bool.not_eq_true', Bool.not_eq_false'] at hc0
      refine AW.exit ?_
      refine AW.seq ?_
      refine AW.region (by kernel_rfl) ?_
      refine RunF.q (o_assign rfl) rfl ?_
      refine AW.ret ?_
      exact FinQ.ret [] [] (ress_tmp rfl ress_nil) rfl .nil (.cons rfl rfl (by first | (apply PRN.flat; rfl) | (apply PRN.flat; simp; done) | (repeat' first | exact PRN.nil | apply PRN.cons | exact RN.self rfl | exact RN.top | exact RN.ptr rfl | exact RN.sl rfl | exact RN.slf rfl | apply RN.agg | apply RN.fn | exact RNs.nil | apply RNs.cons)) .nil) (by rw [show rises L = true from rises_iff.2 (fun j hj h0 => hxs j (by omega) h0)]; exact (by repeat' first | exact RN.self rfl | exact RN.top | exact RN.ptr rfl | exact RN.sl rfl | exact RN.slf rfl | apply RN.agg | apply RN.tuple | apply RN.fn | exact RNs.nil | apply RNs.cons | (apply RNs.flat; simp; done)))
  · exact Wk.same rfl (.cons rfl (.cons rfl (.cons rfl .nil)))

set_option maxHeartbeats 1000000 in
theorem rrises_ok (L : List Tk) (f : Bool) (hL : L.length ≤ 1000000) : SoundC Try.prog 59 [.sl (.r 0) 0 L.length 5 f] ⟨[tks L], []⟩ { val := .bool (rises L) } := by
  refine SoundC.of (N := 53) Try.func59 rfl rfl rfl rfl ?_
  refine AW.seq ?_
  refine AW.region (by kernel_rfl) ?_
  refine RunF.q (o_assign rfl) rfl ?_
  refine AW.seq ?_
  refine AW.seq ?_
  refine AW.region (by kernel_rfl) ?_
  refine RunF.q (o_assign rfl) rfl ?_
  refine AW.block ?_
  refine AW.loop (α := {i : Nat // 1 ≤ i ∧ ∀ j, j < i → 0 < j → up (L.getD (j - 1) default) (L.getD j default) = true}) (fun x : {i : Nat // 1 ≤ i ∧ ∀ j, j < i → 0 < j → up (L.getD (j - 1) default) (L.getD j default) = true} => ([(0, .sl (.r 0) 0 L.length 5 f), (3, .int .i64 x.1)], ⟨[tks L], []⟩)) (fun x => L.length - x.1) (fun x => ?_) ⟨1, by omega, fun j hj h0 => absurd hj (by omega)⟩ ?_
  · obtain ⟨i, hx, hxs⟩ := x
    try dsimp only at hx hxs
    try dsimp only
    refine AW.seq ?_
    refine AW.seq ?_
    refine AW.region (by kernel_rfl) ?_
    refine RunF.q (o_move rfl) rfl ?_
    refine RunF.q (o_move rfl) rfl ?_
    first | refine RunF.q (o_len tk94 rfl) rfl ?_ | refine RunF.q (o_len_nil tk94 rfl) rfl ?_
    refine RunF.q (o_lss rfl rfl) rfl ?_
    refine AW.cond rfl (fun hc0 => ?_) (fun hc0 => ?_)
    · try simp only [decide_eq_true_eq, decide_eq_false_iff_not, bne_iff_ne, beq_iff_eq, bne_eq_false_iff_eq, beq_eq_false_iff_ne, ne_eq, Bool.not_eq_true', Bool.not_eq_false'] at hc0
      refine AW.skip ?_
      refine AW.seq ?_
      refine AW.block ?_
      refine AW.seq ?_
      refine AW.draws (by kernel_rfl) (by kernel_rfl) ?_
      refine RunV.q (o_move rfl) rfl ?_
      refine RunV.q (o_move rfl) rfl ?_
      refine RunV.q (o_indexAddr (m := i * 5) tk94 ts114 rfl rfl (by omega) (by omega)) rfl ?_
      refine RunV.q (o_fieldAddr rfl tk114 rfl ts2 rfl) rfl ?_
      refine RunV.q (o_load rfl tk2 ts2 rfl rfl (tks_g (i := i) (by omega))) rfl ?_
      refine RunV.q (o_move rfl) rfl ?_
      refine RunV.q (o_move rfl) rfl ?_
      refine RunV.q (o_sub rfl rfl (by first | exact i64_in _ (by omega) | rfl)) rfl ?_
      refine RunV.q (o_indexAddr (m := (i - 1) * 5) tk94 ts114 rfl rfl (by omega) (by omega)) rfl ?_
      refine RunV.q (o_fieldAddr rfl tk114 rfl ts2 rfl) rfl ?_
      refine RunV.q (o_load rfl tk2 ts2 rfl rfl (tks_g (i := (i - 1)) (by omega))) rfl ?_
      refine RunV.q (o_gtr rfl rfl) rfl ?_
      refine RunV.br (o_move rfl) rfl (fun hb4_12 => ?_) (fun hb4_12 => ?_)
      · try simp only [decide_eq_true_eq, decide_eq_false_iff_not, bne_iff_ne, beq_iff_eq, bne_eq_false_iff_eq, beq_eq_false_iff_ne, ne_eq, Bool.not_eq_true', Bool.not_eq_false'] at hb4_12
        refine RunV.gs (b := true) rfl rfl ?_
        refine RunV.gs (b := true) rfl rfl ?_
        refine RunV.gs (b := true) rfl rfl ?_
        refine RunV.gs (b := true) rfl rfl ?_
        refine RunV.gs (b := true) rfl rfl ?_
        refine RunV.gs (b := true) rfl rfl ?_
        refine RunV.gs (b := true) rfl rfl ?_
        refine RunV.gs (b := true) rfl rfl ?_
        refine RunV.gs (b := true) rfl rfl ?_
        refine RunV.gs (b := true) rfl rfl ?_
        refine RunV.gs (b := true) rfl rfl ?_
        refine RunV.gs (b := true) rfl rfl ?_
        refine RunV.gs (b := true) rfl rfl ?_
        refine RunV.gt rfl ?_
        refine RunV.gt rfl ?_
        refine RunV.gt rfl ?_
        refine RunV.gt rfl ?_
        refine RunV.gt rfl ?_
        refine RunV.gt rfl ?_
        refine RunV.gt rfl ?_
        refine RunV.gt rfl ?_
        refine RunV.gt rfl ?_
        refine RunV.gt rfl ?_
        refine RunV.gt rfl ?_
        refine RunV.gt rfl ?_
        refine RunV.gs (b := true) rfl rfl ?_
        refine RunV.q (o_pick_t rfl rfl) rfl ?_
        refine RunV.q (o_assign rfl) rfl ?_
        refine And.intro (by kernel_rfl) ?_
        refine AW.seq ?_
        refine AW.region (by kernel_rfl) ?_
        refine RunF.q (o_move rfl) rfl ?_
        refine RunF.q (o_not rfl) rfl ?_
        refine AW.cond rfl (fun hc1 => absurd hc1 (by simp)) (fun hc1 => ?_)
        refine AW.skip ?_
        refine AW.region (by kernel_rfl) ?_
        refine RunF.q (o_move rfl) rfl ?_
        refine RunF.q (o_add rfl rfl (by first | exact i64_in _ (by omega) | rfl)) rfl ?_
        refine RunF.q (o_assign rfl) rfl ?_
        exact ⟨⟨i + 1, by omega, upto_succ hxs (fun h0 => by refine up_yes ?_; omega)⟩, Wk.same rfl (.cons rfl (.cons rfl .nil)), by dsimp only; omega⟩
      · try simp only [decide_eq_true_eq, decide_eq_false_iff_not, bne_iff_ne, beq_iff_eq, bne_eq_false_iff_eq, beq_eq_false_iff_ne, ne_eq, Bool.not_eq_true', Bool.not_eq_false'] at hb4_12
        refine RunV.gq rfl (o_move rfl) rfl ?_
        refine RunV.gq rfl (o_move rfl) rfl ?_
        refine RunV.gq rfl (o_indexAddr (m := i * 5) tk94 ts114 rfl rfl (by omega) (by omega)) rfl ?_
        refine RunV.gq rfl (o_fieldAddr rfl tk114 rfl ts2 rfl) rfl ?_
        refine RunV.gq rfl (o_load rfl tk2 ts2 rfl rfl (tks_g (i := i) (by omega))) rfl ?_
        refine RunV.gq rfl (o_move rfl) rfl ?_
        refine RunV.gq rfl (o_move rfl) rfl ?_
        refine RunV.gq rfl (o_sub rfl rfl (by first | exact i64_in _ (by omega) | rfl)) rfl ?_
        refine RunV.gq rfl (o_indexAddr (m := (i - 1) * 5) tk94 ts114 rfl rfl (by omega) (by omega)) rfl ?_
        refine RunV.gq rfl (o_fieldAddr rfl tk114 rfl ts2 rfl) rfl ?_
        refine RunV.gq rfl (o_load rfl tk2 ts2 rfl rfl (tks_g (i := (i - 1)) (by omega))) rfl ?_
        refine RunV.gq rfl (o_eql rfl rfl) rfl ?_
        refine RunV.gb rfl (o_move rfl) rfl (fun hb4_25 => ?_) (fun hb4_25 => ?_)
        · try simp only [decide_eq_true_eq, decide_eq_false_iff_not, bne_iff_ne, beq_iff_eq, bne_eq_false_iff_eq, beq_eq_false_iff_ne, ne_eq, Bool.not_eq_true', Bool.not_eq_false'] at hb4_25
          refine RunV.gq rfl (o_move rfl) rfl ?_
          refine RunV.gq rfl (o_move rfl) rfl ?_
          refine RunV.gq rfl (o_indexAddr (m := i * 5) tk94 ts114 rfl rfl (by omega) (by omega)) rfl ?_
          refine RunV.gq rfl (o_fieldAddr rfl tk114 rfl ts2 rfl) rfl ?_
          refine RunV.gq rfl (o_load rfl tk2 ts2 rfl rfl (tks_k (i := i) (by omega))) rfl ?_
          refine RunV.gq rfl (o_move rfl) rfl ?_
          refine RunV.gq rfl (o_move rfl) rfl ?_
          refine RunV.gq rfl (o_sub rfl rfl (by first | exact i64_in _ (by omega) | rfl)) rfl ?_
          refine RunV.gq rfl (o_indexAddr (m := (i - 1) * 5) tk94 ts114 rfl rfl (by omega) (by omega)) rfl ?_
          refine RunV.gq rfl (o_fieldAddr rfl tk114 rfl ts2 rfl) rfl ?_
          refine RunV.gq rfl (o_load rfl tk2 ts2 rfl rfl (tks_k (i := (i - 1)) (by omega))) rfl ?_
          refine RunV.gq rfl (o_gtr rfl rfl) rfl ?_
          refine RunV.gq rfl (o_pick_t rfl rfl) rfl ?_
          refine RunV.q (o_pick_f rfl rfl) rfl ?_
          refine RunV.q (o_assign rfl) rfl ?_
          refine And.intro (by kernel_rfl) ?_
          refine AW.seq ?_
          refine AW.region (by kernel_rfl) ?_
          refine RunF.q (o_move rfl) rfl ?_
          refine RunF.q (o_not rfl) rfl ?_
          refine AW.cond rfl (fun hc1 => ?_) (fun hc1 => ?_)
          · try simp only [decide_eq_true_eq, decide_eq_false_iff_not, bne_iff_ne, beq_iff_eq, bne_eq_false_iff_eq, beq_eq_false_iff_ne, ne_eq, Bool.not_eq_true', Bool.not_eq_false'] at hc1
            refine AW.seq ?_
            refine AW.region (by kernel_rfl) ?_
            refine RunF.q (o_assign rfl) rfl ?_
            refine AW.ret ?_
            exact FinQ.ret [] [] (ress_tmp rfl ress_nil) rfl .nil (.cons rfl rfl (by first | (apply PRN.flat; rfl) | (apply PRN.flat; simp; done) | (repeat' first | exact PRN.nil | apply PRN.cons | exact RN.self rfl | exact RN.top | exact RN.ptr rfl | exact RN.sl rfl | exact RN.slf rfl | apply RN.agg | apply RN.fn | exact RNs.nil | apply RNs.cons)) .nil) (by rw [show rises L = false from rises_no (i := i) (by omega) (by omega) (up_no (by first | exact .inl (by omega) | exact .inr ⟨by omega, by omega⟩))]; exact (by repeat' first | exact RN.self rfl | exact RN.top | exact RN.ptr rfl | exact RN.sl rfl | exact RN.slf rfl | apply RN.agg | apply RN.tuple | apply RN.fn | exact RNs.nil | apply RNs.cons | (apply RNs.flat; simp; done)))
          · try simp only [decide_eq_true_eq, decide_eq_false_iff_not, bne_iff_ne, beq_iff_eq, bne_eq_false_iff_eq, beq_eq_false_iff_ne, ne_eq, Bool.not_eq_true', Bool.not_eq_false'] at hc1
            refine AW.skip ?_
            refine AW.region (by kernel_rfl) ?_
            refine RunF.q (o_move rfl) rfl ?_
            refine RunF.q (o_add rfl rfl (by first | exact i64_in _ (by omega) | rfl)) rfl ?_
            refine RunF.q (o_assign rfl) rfl ?_
            exact ⟨⟨i + 1, by omega, upto_succ hxs (fun h0 => by refine up_yes ?_; omega)⟩, Wk.same rfl (.cons rfl (.cons rfl .nil)), by dsimp only; omega⟩
        · try simp only [decide_eq_true_eq, decide_eq_false_iff_not, bne_iff_ne, beq_iff_eq, bne_eq_false_iff_eq, beq_eq_false_iff_ne, ne_eq, Bool.not_eq_true', Bool.not_eq_false'] at hb4_25
          refine RunV.gs (b := false) rfl rfl ?_
          refine RunV.gs (b := false) rfl rfl ?_
          refine RunV.gs (b := false) rfl rfl ?_
          refine RunV.gs (b := false) rfl rfl ?_
          refine RunV.gs (b := false) rfl rfl ?_
          refine RunV.gs (b := false) rfl rfl ?_
          refine RunV.gs (b := false) rfl rfl ?_
          refine RunV.gs (b := false) rfl rfl ?_
          refine RunV.gs (b := false) rfl rfl ?_
          refine RunV.gs (b := false) rfl rfl ?_
          refine RunV.gs (b := false) rfl rfl ?_
          refine RunV.gs (b := false) rfl rfl ?_
          refine RunV.gq rfl (o_pick_f rfl rfl) rfl ?_
          refine RunV.q (o_pick_f rfl rfl) rfl ?_
          refine RunV.q (o_assign rfl) rfl ?_
          refine And.intro (by kernel_rfl) ?_
          refine AW.seq ?_
          refine AW.region (by kernel_rfl) ?_
          refine RunF.q (o_move rfl) rfl ?_
          refine RunF.q (o_not rfl) rfl ?_
          refine AW.cond rfl (fun hc1 => ?_) (fun hc1 => absurd hc1 (by simp))
          refine AW.seq ?_
          refine AW.region (by kernel_rfl) ?_
          refine RunF.q (o_assign rfl) rfl ?_
          refine AW.ret ?_
          exact FinQ.ret [] [] (ress_tmp rfl ress_nil) rfl .nil (.cons rfl rfl (by first | (apply PRN.flat; rfl) | (apply PRN.flat; simp; done) | (repeat' first | exact PRN.nil | apply PRN.cons | exact RN.self rfl | exact RN.top | exact RN.ptr rfl | exact RN.sl rfl | exact RN.slf rfl | apply RN.agg | apply RN.fn | exact RNs.nil | apply RNs.cons)) .nil) (by rw [show rises L = false from rises_no (i := i) (by omega) (by omega) (up_no (by first | exact .inl (by omega) | exact .inr ⟨by omega, by omega⟩))]; exact (by repeat' first | exact RN.self rfl | exact RN.top | exact RN.ptr rfl | exact RN.sl rfl | exact RN.slf rfl | apply RN.agg | apply RN.tuple | apply RN.fn | exact RNs.nil | apply RNs.cons | (apply RNs.flat; simp; done)))
    · try simp only [decide_eq_true_eq, decide_eq_false_iff_not, bne_iff_ne, beq_iff_eq, bne_eq_false_iff_eq, beq_eq_false_iff_ne, ne_eq, Bool.not_eq_true', Bool.not_eq_false'] at hc0
      refine AW.exit ?_
      refine AW.seq ?_
      refine AW.region (by kernel_rfl) ?_
      refine RunF.q (o_assign rfl) rfl ?_
      refine AW.ret ?_
      exact FinQ.ret [] [] (ress_tmp rfl ress_nil) rfl .nil (.cons rfl rfl (by first | (apply PRN.flat; rfl) | (apply PRN.flat; simp; done) | (repeat' first | exact PRN.nil | apply PRN.cons | exact RN.self rfl | exact RN.top | exact RN.ptr rfl | exact RN.sl rfl | exact RN.slf rfl | apply RN.agg | apply RN.fn | exact RNs.nil | apply RNs.cons)) .nil) (by rw [show rises L = true from rises_iff.2 (fun j hj h0 => hxs j (by omega) h0)]; exact (by repeat' first | exact RN.self rfl | exact RN.top | exact RN.ptr rfl | exact RN.sl rfl | exact RN.slf rfl | apply RN.agg | apply RN.tuple | apply RN.fn | exact RNs.nil | apply RNs.cons | (apply RNs.flat; simp; done)))
  · exact Wk.same rfl (.cons rfl (.cons rfl .nil))

end Go.Proofs.Ytnkijhpikeokfaa

/- Those of a generation. -/
namespace Go.Proofs.Ytnkijhpikeokfaa
open Go Go.Sym Go.IntWalk

def Tk.out (t : Tk) : Ou := ⟨t.k, t.y0, t.y1, t.y2⟩
def ofL (L : List Tk) (gen : Int) : List Ou := (L.filter fun t => decide (t.g = gen)).map Tk.out
def slO (j : Nat) : List Ou → AV
  | [] => .nilsl
  | a :: l => .sl (.o j) 0 (a :: l).length 4 false
def rowO : List Ou → Option (List AV)
  | [] => none
  | a :: l => some (ous (a :: l))
theorem ofL_step {L : List Tk} {gen : Int} {i : Nat} (hi : i < L.length) : ofL (L.take (i + 1)) gen = ofL (L.take i) gen ++ (if (L.getD i default).g = gen then [(L.getD i default).out] else []) := by
  have e : L.getD i default = L[i] := by rw [List.getD_eq_getElem?_getD, List.getElem?_eq_getElem hi, Option.getD_some]
  rw [List.take_succ_eq_append_getElem hi, e]
  unfold ofL
  rw [List.filter_append, List.map_append]
  congr 1
  by_cases h : L[i].g = gen
  · simp [h]
  · simp [h]
theorem ofL_in {L : List Tk} {gen : Int} {i : Nat} (hi : i < L.length) (h : (L.getD i default).g = gen) {y : List Ou} (hy : y = ofL (L.take i) gen) : y ++ [(L.getD i default).out] = ofL (L.take (i + 1)) gen := by
  rw [ofL_step hi, if_pos h, hy]
theorem ofL_out {L : List Tk} {gen : Int} {i : Nat} (hi : i < L.length) (h : ¬ (L.getD i default).g = gen) {y : List Ou} (hy : y = ofL (L.take i) gen) : y = ofL (L.take (i + 1)) gen := by
  rw [ofL_step hi, if_neg h, List.append_nil, hy]
theorem ofL_le (L : List Tk) (gen : Int) : (ofL L gen).length ≤ L.length := by
  unfold ofL; rw [List.length_map]; exact List.length_filter_le _ _
theorem tks_y {L : List Tk} {i : Nat} (hi : i < L.length) : ((tks L).drop (i * 5 + 2)).take 3 = [.int .i64 (L.getD i default).y0, .int .i64 (L.getD i default).y1, .int .i64 (L.getD i default).y2] := by
  have h := rowsF_at Tk.len hi
  have e : ((tks L).drop (i * 5 + 2)).take 3 = (((tks L).drop (i * 5)).take 5).drop 2 := by
    rw [List.drop_take, List.drop_drop]
  rw [e, h]; rfl
theorem tks_yle {L : List Tk} {i : Nat} (hi : i < L.length) : Nat.ble (i * 5 + 2 + 3) (tks L).length = true := by
  have := rowsF_le Tk.len hi; exact this
theorem ous_snoc (y : List Ou) (o : Ou) : ous (y ++ [o]) = ous y ++ o.cells := by simp [rowsF]
theorem PRN.ous {σ : Ren} (a : Ou) (l : List Ou) (o : Ou) : PRN σ (ous ((a :: l) ++ [o])) (ous (a :: l) ++ o.cells) := by rw [ous_snoc]; exact PRN.flat (by rw [← ous_snoc]; exact ous_flat _)

set_option maxHeartbeats 1000000 in
theorem ofL_nil (L : List Tk) (f : Bool) (gen : Int) (hL : L.length ≤ 1000000) (hO : ofL L gen = []) : SoundC Try.prog 61 [.sl (.r 0) 0 L.length 5 f, .int .i64 gen] ⟨[tks L], []⟩ { val := .nilsl } := by
  refine SoundC.of (N := 28) Try.func61 rfl rfl rfl rfl ?_
  refine AW.seq ?_
  refine AW.region (by kernel_rfl) ?_
  refine RunF.q (o_assign rfl) rfl ?_
  refine AW.seq ?_
  refine AW.region (by kernel_rfl) ?_
  refine RunF.q (o_assign rfl) rfl ?_
  refine AW.seq ?_
  refine AW.seq ?_
  refine AW.region (by kernel_rfl) ?_
  refine RunF.q (o_move rfl) rfl ?_
  first | refine RunF.q (o_len tk94 rfl) rfl ?_ | refine RunF.q (o_len_nil tk94 rfl) rfl ?_
  refine RunF.q (o_move rfl) rfl ?_
  refine AW.block ?_
  refine AW.loop (α := {x : Nat × List Ou // x.1 ≤ L.length ∧ x.2 = ofL (L.take x.1) gen}) (fun x : {x : Nat × List Ou // x.1 ≤ L.length ∧ x.2 = ofL (L.take x.1) gen} => ([(1, .int .i64 gen), (5, slO 0 x.1.2), (8, .sl (.r 0) 0 L.length 5 f), (9, .int .i64 L.length), (10, .int .i64 x.1.1)], ⟨[tks L], [rowO x.1.2]⟩)) (fun x => L.length - x.1.1) (fun x => ?_) ⟨(0, []), by simp, by simp [ofL]⟩ ?_
  · obtain ⟨⟨i, y1⟩, hx1, hx2⟩ := x
    try dsimp only at hx1 hx2
    try dsimp only
    refine AW.seq ?_
    refine AW.region (by kernel_rfl) ?_
    refine RunF.q (o_lss rfl rfl) rfl ?_
    refine AW.seq ?_
    refine AW.cond rfl (fun hc0 => ?_) (fun hc0 => ?_)
    · try simp only [decide_eq_true_eq, decide_eq_false_iff_not, bne_iff_ne, beq_iff_eq, bne_eq_false_iff_eq, beq_eq_false_iff_ne, ne_eq, Bool.not_eq_true', Bool.not_eq_false'] at hc0
      refine AW.skip ?_
      refine AW.seq ?_
      refine AW.block ?_
      refine AW.seq ?_
      refine AW.region (by kernel_rfl) ?_
      refine RunF.q (o_indexAddr (m := i * 5) tk94 ts114 rfl rfl (by omega) (by omega)) rfl ?_
      refine RunF.q (o_load_agg (cs := (L.getD i default).cells) rfl tk114 ts114 rfl rfl (rowsF_le Tk.len (by omega)) (rowsF_at Tk.len (by omega))) rfl ?_
      refine RunF.w (o_alloc (nm := 1) tz114 rfl) rfl ?_
      refine RunF.wn (o_store rfl rfl rfl ts114 rfl rfl) rfl ?_
      refine AW.seq ?_
      refine AW.region (by kernel_rfl) ?_
      refine RunF.q (o_fieldAddr rfl tk114 rfl ts2 rfl) rfl ?_
      refine RunF.q (o_load rfl tk2 ts2 rfl rfl rfl) rfl ?_
      refine RunF.q (o_move rfl) rfl ?_
      refine RunF.q (o_eql rfl rfl) rfl ?_
      refine AW.cond rfl (fun hc1 => ?_) (fun hc1 => ?_)
      · try simp only [decide_eq_true_eq, decide_eq_false_iff_not, bne_iff_ne, beq_iff_eq, bne_eq_false_iff_eq, beq_eq_false_iff_ne, ne_eq, Bool.not_eq_true', Bool.not_eq_false'] at hc1
        have hlen : y1.length ≤ L.length := by rw [hx2]; exact Nat.le_trans (ofL_le _ _) (by rw [List.length_take]; omega)
        rcases y1 with _ | ⟨a, l⟩
        · refine AW.region (by kernel_rfl) ?_
          refine RunF.q (o_move rfl) rfl ?_
          refine RunF.q (o_fieldAddr rfl tk114 rfl ts2 rfl) rfl ?_
          refine RunF.q (o_load rfl tk2 ts2 rfl rfl rfl) rfl ?_
          refine RunF.q (o_fieldAddr rfl tk114 rfl ts83 rfl) rfl ?_
          refine RunF.q (o_load_agg rfl tk83 ts83 rfl rfl rfl (by simp only [List.take_succ_cons, List.drop_succ_cons, List.drop_zero, List.take_zero, List.take_nil, List.drop_nil, Nat.zero_add, Nat.reduceAdd]; rfl)) rfl ?_
          refine RunF.q (o_build tk112 tz112 pl112 rfl rfl) rfl ?_
          refine RunF.w (o_buildSlice (nm := 2) tk100 ts112 tz112 rfl rfl rfl rfl) rfl ?_
          refine RunF.w (o_append_nil (nm := 3) tk100 tk100 ts112 tb112 tz112 rfl rfl rfl rfl ⟨by decide, Nat.le_refl 4, by decide, by decide⟩ rfl rfl rfl) rfl ?_
          refine RunF.q (o_assign rfl) rfl ?_
          refine AW.region (by kernel_rfl) ?_
          refine RunF.q (o_add rfl rfl (by first | exact i64_in _ (by omega) | rfl)) rfl ?_
          refine RunF.q (o_move rfl) rfl ?_
          exact ⟨⟨(i + 1, ([] : List Ou) ++ [(L.getD i default).out]), by dsimp only; omega, by dsimp only; first | exact ofL_in (by omega) hc1 hx2 | exact ofL_out (by omega) hc1 hx2⟩, Wk.of [3] [] rfl (.some rfl rfl (by first | (apply PRN.flat; rfl) | (apply PRN.flat; simp; done) | (repeat' first | exact PRN.nil | apply PRN.cons | exact RN.self rfl | exact RN.top | exact RN.ptr rfl | exact RN.sl rfl | exact RN.slf rfl | apply RN.agg | apply RN.fn | exact RNs.nil | apply RNs.cons)) .nil) (.cons rfl rfl (PRN.flat (tks_flat _)) .nil) (.cons rfl (by first | exact RN.self rfl | exact RN.sl rfl) (.cons rfl (.sl rfl) (.cons rfl (by first | exact RN.self rfl | exact RN.sl rfl) (.cons rfl (by first | exact RN.self rfl | exact RN.sl rfl) (.cons rfl (by first | exact RN.self rfl | exact RN.sl rfl) .nil))))), by dsimp only; omega⟩
        · refine AW.region (by kernel_rfl) ?_
          refine RunF.q (o_move rfl) rfl ?_
          refine RunF.q (o_fieldAddr rfl tk114 rfl ts2 rfl) rfl ?_
          refine RunF.q (o_load rfl tk2 ts2 rfl rfl rfl) rfl ?_
          refine RunF.q (o_fieldAddr rfl tk114 rfl ts83 rfl) rfl ?_
          refine RunF.q (o_load_agg rfl tk83 ts83 rfl rfl rfl (by simp only [List.take_succ_cons, List.drop_succ_cons, List.drop_zero, List.take_zero, List.take_nil, List.drop_nil, Nat.zero_add, Nat.reduceAdd]; rfl)) rfl ?_
          refine RunF.q (o_build tk112 tz112 pl112 rfl rfl) rfl ?_
          refine RunF.w (o_buildSlice (nm := 2) tk100 ts112 tz112 rfl rfl rfl rfl) rfl ?_
          refine RunF.w (o_append_own (nm := 3) (mn := ((a :: l) ++ [(L.getD i default).out]).length) tk100 tk100 ts112 tb112 tz112 rfl rfl rfl rfl rfl ⟨by decide, Nat.le_refl 4, by simp only [ous_length]; omega, by simp only [List.length_cons] at hlen ⊢; omega, by simp only [List.length_cons] at hlen ⊢; omega⟩ rfl (rowsF_all Ou.len (a :: l)) rfl rfl (by simp)) rfl ?_
          refine RunF.q (o_assign rfl) rfl ?_
          refine AW.region (by kernel_rfl) ?_
          refine RunF.q (o_add rfl rfl (by first | exact i64_in _ (by omega) | rfl)) rfl ?_
          refine RunF.q (o_move rfl) rfl ?_
          exact ⟨⟨(i + 1, (a :: l) ++ [(L.getD i default).out]), by dsimp only; omega, by dsimp only; first | exact ofL_in (by omega) hc1 hx2 | exact ofL_out (by omega) hc1 hx2⟩, Wk.of [3] [] rfl (.some rfl rfl (PRN.ous a l _) .nil) (.cons rfl rfl (PRN.flat (tks_flat _)) .nil) (.cons rfl (by first | exact RN.self rfl | exact RN.sl rfl) (.cons rfl (.sl rfl) (.cons rfl (by first | exact RN.self rfl | exact RN.sl rfl) (.cons rfl (by first | exact RN.self rfl | exact RN.sl rfl) (.cons rfl (by first | exact RN.self rfl | exact RN.sl rfl) .nil))))), by dsimp only; omega⟩
      · try simp only [decide_eq_true_eq, decide_eq_false_iff_not, bne_iff_ne, beq_iff_eq, bne_eq_false_iff_eq, beq_eq_false_iff_ne, ne_eq, Bool.not_eq_true', Bool.not_eq_false'] at hc1
        refine AW.skip ?_
        refine AW.region (by kernel_rfl) ?_
        refine RunF.q (o_add rfl rfl (by first | exact i64_in _ (by omega) | rfl)) rfl ?_
        refine RunF.q (o_move rfl) rfl ?_
        exact ⟨⟨(i + 1, y1), by dsimp only; omega, by dsimp only; first | exact ofL_in (by omega) hc1 hx2 | exact ofL_out (by omega) hc1 hx2⟩, (by rcases y1 with _ | ⟨a, l⟩ <;> first | exact Wk.of [999] [] rfl (.none .nil) (.cons rfl rfl (PRN.flat (tks_flat _)) .nil) (.cons rfl (by first | exact RN.self rfl | exact RN.sl rfl) (.cons rfl (.self rfl) (.cons rfl (by first | exact RN.self rfl | exact RN.sl rfl) (.cons rfl (by first | exact RN.self rfl | exact RN.sl rfl) (.cons rfl (by first | exact RN.self rfl | exact RN.sl rfl) .nil))))) | exact Wk.of [0] [] rfl (.some rfl rfl (by first | (apply PRN.flat; rfl) | (apply PRN.flat; simp; done) | (repeat' first | exact PRN.nil | apply PRN.cons | exact RN.self rfl | exact RN.top | exact RN.ptr rfl | exact RN.sl rfl | exact RN.slf rfl | apply RN.agg | apply RN.fn | exact RNs.nil | apply RNs.cons)) .nil) (.cons rfl rfl (PRN.flat (tks_flat _)) .nil) (.cons rfl (by first | exact RN.self rfl | exact RN.sl rfl) (.cons rfl (.sl rfl) (.cons rfl (by first | exact RN.self rfl | exact RN.sl rfl) (.cons rfl (by first | exact RN.self rfl | exact RN.sl rfl) (.cons rfl (by first | exact RN.self rfl | exact RN.sl rfl) .nil)))))), by dsimp only; omega⟩
    · try simp only [decide_eq_true_eq, decide_eq_false_iff_not, bne_iff_ne, beq_iff_eq, bne_eq_false_iff_eq, beq_eq_false_iff_ne, ne_eq, Bool.not_eq_true', Bool.not_eq_false'] at hc0
      have hf : y1 = ofL L gen := by rw [hx2, List.take_of_length_le (by omega)]
      rw [hO] at hf
      subst hf
      refine AW.exit ?_
      refine AW.seq ?_
      refine AW.region (by kernel_rfl) ?_
      refine RunF.q (o_move rfl) rfl ?_
      refine RunF.q (o_assign rfl) rfl ?_
      refine AW.ret ?_
      exact FinQ.ret [] [] (ress_tmp rfl ress_nil) rfl .nil (.cons rfl rfl (PRN.flat (tks_flat _)) .nil) (by repeat' first | exact RN.self rfl | exact RN.top | exact RN.ptr rfl | exact RN.sl rfl | exact RN.slf rfl | apply RN.agg | apply RN.tuple | apply RN.fn | exact RNs.nil | apply RNs.cons | (apply RNs.flat; simp; done))
  · exact Wk.of [999] [] rfl (.none .nil) (.cons rfl rfl (PRN.flat (tks_flat _)) .nil) (.cons rfl (by first | exact RN.self rfl | exact RN.sl rfl) (.cons rfl (.self rfl) (.cons rfl (by first | exact RN.self rfl | exact RN.sl rfl) (.cons rfl (by first | exact RN.self rfl | exact RN.sl rfl) (.cons rfl (by first | exact RN.self rfl | exact RN.sl rfl) .nil)))))

set_option maxHeartbeats 1000000 in
theorem ofL_cons (L : List Tk) (f : Bool) (gen : Int) (hL : L.length ≤ 1000000) (a0 : Ou) (l0 : List Ou) (hO : ofL L gen = a0 :: l0) : SoundC Try.prog 61 [.sl (.r 0) 0 L.length 5 f, .int .i64 gen] ⟨[tks L], []⟩ { val := .sl (.o 0) 0 (a0 :: l0).length 4 false, newo := [ous (a0 :: l0)] } := by
  refine SoundC.of (N := 28) Try.func61 rfl rfl rfl rfl ?_
  refine AW.seq ?_
  refine AW.region (by kernel_rfl) ?_
  refine RunF.q (o_assign rfl) rfl ?_
  refine AW.seq ?_
  refine AW.region (by kernel_rfl) ?_
  refine RunF.q (o_assign rfl) rfl ?_
  refine AW.seq ?_
  refine AW.seq ?_
  refine AW.region (by kernel_rfl) ?_
  refine RunF.q (o_move rfl) rfl ?_
  first | refine RunF.q (o_len tk94 rfl) rfl ?_ | refine RunF.q (o_len_nil tk94 rfl) rfl ?_
  refine RunF.q (o_move rfl) rfl ?_
  refine AW.block ?_
  refine AW.loop (α := {x : Nat × List Ou // x.1 ≤ L.length ∧ x.2 = ofL (L.take x.1) gen}) (fun x : {x : Nat × List Ou // x.1 ≤ L.length ∧ x.2 = ofL (L.take x.1) gen} => ([(1, .int .i64 gen), (5, slO 0 x.1.2), (8, .sl (.r 0) 0 L.length 5 f), (9, .int .i64 L.length), (10, .int .i64 x.1.1)], ⟨[tks L], [rowO x.1.2]⟩)) (fun x => L.length - x.1.1) (fun x => ?_) ⟨(0, []), by simp, by simp [ofL]⟩ ?_
  · obtain ⟨⟨i, y1⟩, hx1, hx2⟩ := x
    try dsimp only at hx1 hx2
    try dsimp only
    refine AW.seq ?_
    refine AW.region (by kernel_rfl) ?_
    refine RunF.q (o_lss rfl rfl) rfl ?_
    refine AW.seq ?_
    refine AW.cond rfl (fun hc0 => ?_) (fun hc0 => ?_)
    · try simp only [decide_eq_true_eq, decide_eq_false_iff_not, bne_iff_ne, beq_iff_eq, bne_eq_false_iff_eq, beq_eq_false_iff_ne, ne_eq, Bool.not_eq_true', Bool.not_eq_false'] at hc0
      refine AW.skip ?_
      refine AW.seq ?_
      refine AW.block ?_
      refine AW.seq ?_
      refine AW.region (by kernel_rfl) ?_
      refine RunF.q (o_indexAddr (m := i * 5) tk94 ts114 rfl rfl (by omega) (by omega)) rfl ?_
      refine RunF.q (o_load_agg (cs := (L.getD i default).cells) rfl tk114 ts114 rfl rfl (rowsF_le Tk.len (by omega)) (rowsF_at Tk.len (by omega))) rfl ?_
      refine RunF.w (o_alloc (nm := 1) tz114 rfl) rfl ?_
      refine RunF.wn (o_store rfl rfl rfl ts114 rfl rfl) rfl ?_
      refine AW.seq ?_
      refine AW.region (by kernel_rfl) ?_
      refine RunF.q (o_fieldAddr rfl tk114 rfl ts2 rfl) rfl ?_
      refine RunF.q (o_load rfl tk2 ts2 rfl rfl rfl) rfl ?_
      refine RunF.q (o_move rfl) rfl ?_
      refine RunF.q (o_eql rfl rfl) rfl ?_
      refine AW.cond rfl (fun hc1 => ?_) (fun hc1 => ?_)
      · try simp only [decide_eq_true_eq, decide_eq_false_iff_not, bne_iff_ne, beq_iff_eq, bne_eq_false_iff_eq, beq_eq_false_iff_ne, ne_eq, Bool.not_eq_true', Bool.not_eq_false'] at hc1
        have hlen : y1.length ≤ L.length := by rw [hx2]; exact Nat.le_trans (ofL_le _ _) (by rw [List.length_take]; omega)
        rcases y1 with _ | ⟨a, l⟩
        · refine AW.region (by kernel_rfl) ?_
          refine RunF.q (o_move rfl) rfl ?_
          refine RunF.q (o_fieldAddr rfl tk114 rfl ts2 rfl) rfl ?_
          refine RunF.q (o_load rfl tk2 ts2 rfl rfl rfl) rfl ?_
          refine RunF.q (o_fieldAddr rfl tk114 rfl ts83 rfl) rfl ?_
          refine RunF.q (o_load_agg rfl tk83 ts83 rfl rfl rfl (by simp only [List.take_succ_cons, List.drop_succ_cons, List.drop_zero, List.take_zero, List.take_nil, List.drop_nil, Nat.zero_add, Nat.reduceAdd]; rfl)) rfl ?_
          refine RunF.q (o_build tk112 tz112 pl112 rfl rfl) rfl ?_
          refine RunF.w (o_buildSlice (nm := 2) tk100 ts112 tz112 rfl rfl rfl rfl) rfl ?_
          refine RunF.w (o_append_nil (nm := 3) tk100 tk100 ts112 tb112 tz112 rfl rfl rfl rfl ⟨by decide, Nat.le_refl 4, by decide, by decide⟩ rfl rfl rfl) rfl ?_
          refine RunF.q (o_assign rfl) rfl ?_
          refine AW.region (by kernel_rfl) ?_
          refine RunF.q (o_add rfl rfl (by first | exact i64_in _ (by omega) | rfl)) rfl ?_
          refine RunF.q (o_move rfl) rfl ?_
          exact ⟨⟨(i + 1, ([] : List Ou) ++ [(L.getD i default).out]), by dsimp only; omega, by dsimp only; first | exact ofL_in (by omega) hc1 hx2 | exact ofL_out (by omega) hc1 hx2⟩, Wk.of [3] [] rfl (.some rfl rfl (by first | (apply PRN.flat; rfl) | (apply PRN.flat; simp; done) | (repeat' first | exact PRN.nil | apply PRN.cons | exact RN.self rfl | exact RN.top | exact RN.ptr rfl | exact RN.sl rfl | exact RN.slf rfl | apply RN.agg | apply RN.fn | exact RNs.nil | apply RNs.cons)) .nil) (.cons rfl rfl (PRN.flat (tks_flat _)) .nil) (.cons rfl (by first | exact RN.self rfl | exact RN.sl rfl) (.cons rfl (.sl rfl) (.cons rfl (by first | exact RN.self rfl | exact RN.sl rfl) (.cons rfl (by first | exact RN.self rfl | exact RN.sl rfl) (.cons rfl (by first | exact RN.self rfl | exact RN.sl rfl) .nil))))), by dsimp only; omega⟩
        · refine AW.region (by kernel_rfl) ?_
          refine RunF.q (o_move rfl) rfl ?_
          refine RunF.q (o_fieldAddr rfl tk114 rfl ts2 rfl) rfl ?_
          refine RunF.q (o_load rfl tk2 ts2 rfl rfl rfl) rfl ?_
          refine RunF.q (o_fieldAddr rfl tk114 rfl ts83 rfl) rfl ?_
          refine RunF.q (o_load_agg rfl tk83 ts83 rfl rfl rfl (by simp only [List.take_succ_cons, List.drop_succ_cons, List.drop_zero, List.take_zero, List.take_nil, List.drop_nil, Nat.zero_add, Nat.reduceAdd]; rfl)) rfl ?_
          refine RunF.q (o_build tk112 tz112 pl112 rfl rfl) rfl ?_
          refine RunF.w (o_buildSlice (nm := 2) tk100 ts112 tz112 rfl rfl rfl rfl) rfl ?_
          refine RunF.w (o_append_own (nm := 3) (mn := ((a :: l) ++ [(L.getD i default).out]).length) tk100 tk100 ts112 tb112 tz112 rfl rfl rfl rfl rfl ⟨by decide, Nat.le_refl 4, by simp only [ous_length]; omega, by simp only [List.length_cons] at hlen ⊢; omega, by simp only [List.length_cons] at hlen ⊢; omega⟩ rfl (rowsF_all Ou.len (a :: l)) rfl rfl (by simp)) rfl ?_
          refine RunF.q (o_assign rfl) rfl ?_
          refine AW.region (by kernel_rfl) ?_
          refine RunF.q (o_add rfl rfl (by first | exact i64_in _ (by omega) | rfl)) rfl ?_
          refine RunF.q (o_move rfl) rfl ?_
          exact ⟨⟨(i + 1, (a :: l) ++ [(L.getD i default).out]), by dsimp only; omega, by dsimp only; first | exact ofL_in (by omega) hc1 hx2 | exact ofL_out (by omega) hc1 hx2⟩, Wk.of [3] [] rfl (.some rfl rfl (PRN.ous a l _) .nil) (.cons rfl rfl (PRN.flat (tks_flat _)) .nil) (.cons rfl (by first | exact RN.self rfl | exact RN.sl rfl) (.cons rfl (.sl rfl) (.cons rfl (by first | exact RN.self rfl | exact RN.sl rfl) (.cons rfl (by first | exact RN.self rfl | exact RN.sl rfl) (.cons rfl (by first | exact RN.self rfl | exact RN.sl rfl) .nil))))), by dsimp only; omega⟩
      · try simp only [decide_eq_true_eq, decide_eq_false_iff_not, bne_iff_ne, beq_iff_eq, bne_eq_false_iff_eq, beq_eq_false_iff_ne, ne_eq, Bool.not_eq_true', Bool.not_eq_false'] at hc1
        refine AW.skip ?_
        refine AW.region (by kernel_rfl) ?_
        refine RunF.q (o_add rfl rfl (by first | exact i64_in _ (by omega) | rfl)) rfl ?_
        refine RunF.q (o_move rfl) rfl ?_
        exact ⟨⟨(i + 1, y1), by dsimp only; omega, by dsimp only; first | exact ofL_in (by omega) hc1 hx2 | exact ofL_out (by omega) hc1 hx2⟩, (by rcases y1 with _ | ⟨a, l⟩ <;> first | exact Wk.of [999] [] rfl (.none .nil) (.cons rfl rfl (PRN.flat (tks_flat _)) .nil) (.cons rfl (by first | exact RN.self rfl | exact RN.sl rfl) (.cons rfl (.self rfl) (.cons rfl (by first | exact RN.self rfl | exact RN.sl rfl) (.cons rfl (by first | exact RN.self rfl | exact RN.sl rfl) (.cons rfl (by first | exact RN.self rfl | exact RN.sl rfl) .nil))))) | exact Wk.of [0] [] rfl (.some rfl rfl (by first | (apply PRN.flat; rfl) | (apply PRN.flat; simp; done) | (repeat' first | exact PRN.nil | apply PRN.cons | exact RN.self rfl | exact RN.top | exact RN.ptr rfl | exact RN.sl rfl | exact RN.slf rfl | apply RN.agg | apply RN.fn | exact RNs.nil | apply RNs.cons)) .nil) (.cons rfl rfl (PRN.flat (tks_flat _)) .nil) (.cons rfl (by first | exact RN.self rfl | exact RN.sl rfl) (.cons rfl (.sl rfl) (.cons rfl (by first | exact RN.self rfl | exact RN.sl rfl) (.cons rfl (by first | exact RN.self rfl | exact RN.sl rfl) (.cons rfl (by first | exact RN.self rfl | exact RN.sl rfl) .nil)))))), by dsimp only; omega⟩
    · try simp only [decide_eq_true_eq, decide_eq_false_iff_not, bne_iff_ne, beq_iff_eq, bne_eq_false_iff_eq, beq_eq_false_iff_ne, ne_eq, Bool.not_eq_true', Bool.not_eq_false'] at hc0
      have hf : y1 = ofL L gen := by rw [hx2, List.take_of_length_le (by omega)]
      rw [hO] at hf
      subst hf
      refine AW.exit ?_
      refine AW.seq ?_
      refine AW.region (by kernel_rfl) ?_
      refine RunF.q (o_move rfl) rfl ?_
      refine RunF.q (o_assign rfl) rfl ?_
      refine AW.ret ?_
      exact FinQ.ret [0] [] (ress_tmp rfl ress_nil) rfl (.some rfl rfl (PRN.flat (ous_flat _)) .nil) (.cons rfl rfl (PRN.flat (tks_flat _)) .nil) (by repeat' first | exact RN.self rfl | exact RN.top | exact RN.ptr rfl | exact RN.sl rfl | exact RN.slf rfl | apply RN.agg | apply RN.tuple | apply RN.fn | exact RNs.nil | apply RNs.cons | (apply RNs.flat; simp; done))
  · exact Wk.of [999] [] rfl (.none .nil) (.cons rfl rfl (PRN.flat (tks_flat _)) .nil) (.cons rfl (by first | exact RN.self rfl | exact RN.sl rfl) (.cons rfl (.self rfl) (.cons rfl (by first | exact RN.self rfl | exact RN.sl rfl) (.cons rfl (by first | exact RN.self rfl | exact RN.sl rfl) (.cons rfl (by first | exact RN.self rfl | exact RN.sl rfl) .nil)))))

set_option maxHeartbeats 1000000 in
theorem rofL_nil (L : List Tk) (f : Bool) (gen : Int) (hL : L.length ≤ 1000000) (hO : ofL L gen = []) : SoundC Try.prog 62 [.sl (.r 0) 0 L.length 5 f, .int .i64 gen] ⟨[tks L], []⟩ { val := .nilsl } := by
  refine SoundC.of (N := 35) Try.func62 rfl rfl rfl rfl ?_
  refine AW.seq ?_
  refine AW.region (by kernel_rfl) ?_
  refine RunF.q (o_assign rfl) rfl ?_
  refine AW.seq ?_
  refine AW.region (by kernel_rfl) ?_
  refine RunF.q (o_assign rfl) rfl ?_
  refine AW.seq ?_
  refine AW.seq ?_
  refine AW.region (by kernel_rfl) ?_
  refine RunF.q (o_assign rfl) rfl ?_
  refine AW.block ?_
  refine AW.loop (α := {x : Nat × List Ou // x.1 ≤ L.length ∧ x.2 = ofL (L.take x.1) gen}) (fun x : {x : Nat × List Ou // x.1 ≤ L.length ∧ x.2 = ofL (L.take x.1) gen} => ([(0, .sl (.r 0) 0 L.length 5 f), (1, .int .i64 gen), (5, slO 0 x.1.2), (6, .int .i64 x.1.1)], ⟨[tks L], [rowO x.1.2]⟩)) (fun x => L.length - x.1.1) (fun x => ?_) ⟨(0, []), by simp, by simp [ofL]⟩ ?_
  · obtain ⟨⟨i, y1⟩, hx1, hx2⟩ := x
    try dsimp only at hx1 hx2
    try dsimp only
    refine AW.seq ?_
    refine AW.seq ?_
    refine AW.region (by kernel_rfl) ?_
    refine RunF.q (o_move rfl) rfl ?_
    refine RunF.q (o_move rfl) rfl ?_
    first | refine RunF.q (o_len tk94 rfl) rfl ?_ | refine RunF.q (o_len_nil tk94 rfl) rfl ?_
    refine RunF.q (o_lss rfl rfl) rfl ?_
    refine AW.cond rfl (fun hc0 => ?_) (fun hc0 => ?_)
    · try simp only [decide_eq_true_eq, decide_eq_false_iff_not, bne_iff_ne, beq_iff_eq, bne_eq_false_iff_eq, beq_eq_false_iff_ne, ne_eq, Bool.not_eq_true', Bool.not_eq_false'] at hc0
      refine AW.skip ?_
      refine AW.seq ?_
      refine AW.block ?_
      refine AW.seq ?_
      refine AW.region (by kernel_rfl) ?_
      refine RunF.q (o_move rfl) rfl ?_
      refine RunF.q (o_move rfl) rfl ?_
      refine RunF.q (o_indexAddr (m := i * 5) tk94 ts114 rfl rfl (by omega) (by omega)) rfl ?_
      refine RunF.q (o_fieldAddr rfl tk114 rfl ts2 rfl) rfl ?_
      refine RunF.q (o_load rfl tk2 ts2 rfl rfl (tks_g (i := i) (by omega))) rfl ?_
      refine RunF.q (o_move rfl) rfl ?_
      refine RunF.q (o_eql rfl rfl) rfl ?_
      refine AW.cond rfl (fun hc1 => ?_) (fun hc1 => ?_)
      · try simp only [decide_eq_true_eq, decide_eq_false_iff_not, bne_iff_ne, beq_iff_eq, bne_eq_false_iff_eq, beq_eq_false_iff_ne, ne_eq, Bool.not_eq_true', Bool.not_eq_false'] at hc1
        have hlen : y1.length ≤ L.length := by rw [hx2]; exact Nat.le_trans (ofL_le _ _) (by rw [List.length_take]; omega)
        rcases y1 with _ | ⟨a, l⟩
        · refine AW.draws (by kernel_rfl) (by kernel_rfl) ?_
          refine RunV.q (o_move rfl) rfl ?_
          refine RunV.q (o_move rfl) rfl ?_
          refine RunV.q (o_move rfl) rfl ?_
          refine RunV.q (o_indexAddr (m := i * 5) tk94 ts114 rfl rfl (by omega) (by omega)) rfl ?_
          refine RunV.q (o_fieldAddr rfl tk114 rfl ts2 rfl) rfl ?_
          refine RunV.q (o_load rfl tk2 ts2 rfl rfl (tks_k (i := i) (by omega))) rfl ?_
          refine RunV.q (o_move rfl) rfl ?_
          refine RunV.q (o_move rfl) rfl ?_
          refine RunV.q (o_indexAddr (m := i * 5) tk94 ts114 rfl rfl (by omega) (by omega)) rfl ?_
          refine RunV.q (o_fieldAddr rfl tk114 rfl ts83 rfl) rfl ?_
          refine RunV.q (o_load_agg rfl tk83 ts83 rfl rfl (tks_yle (by omega)) (tks_y (by omega))) rfl ?_
          refine RunV.q (o_build tk112 tz112 pl112 rfl rfl) rfl ?_
          refine RunV.w (o_buildSlice (nm := 1) tk100 ts112 tz112 rfl rfl rfl rfl) rfl ?_
          refine RunV.w (o_append_nil (nm := 2) tk100 tk100 ts112 tb112 tz112 rfl rfl rfl rfl ⟨by decide, Nat.le_refl 4, by decide, by decide⟩ rfl rfl rfl) rfl ?_
          refine RunV.q (o_assign rfl) rfl ?_
          refine And.intro (by kernel_rfl) ?_
          refine AW.region (by kernel_rfl) ?_
          refine RunF.q (o_move rfl) rfl ?_
          refine RunF.q (o_add rfl rfl (by first | exact i64_in _ (by omega) | rfl)) rfl ?_
          refine RunF.q (o_assign rfl) rfl ?_
          exact ⟨⟨(i + 1, ([] : List Ou) ++ [(L.getD i default).out]), by dsimp only; omega, by dsimp only; first | exact ofL_in (by omega) hc1 hx2 | exact ofL_out (by omega) hc1 hx2⟩, Wk.of [2] [] rfl (.some rfl rfl (by first | (apply PRN.flat; rfl) | (apply PRN.flat; simp; done) | (repeat' first | exact PRN.nil | apply PRN.cons | exact RN.self rfl | exact RN.top | exact RN.ptr rfl | exact RN.sl rfl | exact RN.slf rfl | apply RN.agg | apply RN.fn | exact RNs.nil | apply RNs.cons)) .nil) (.cons rfl rfl (PRN.flat (tks_flat _)) .nil) (.cons rfl (by first | exact RN.self rfl | exact RN.sl rfl) (.cons rfl (by first | exact RN.self rfl | exact RN.sl rfl) (.cons rfl (.sl rfl) (.cons rfl (by first | exact RN.self rfl | exact RN.sl rfl) .nil)))), by dsimp only; omega⟩
        · refine AW.draws (by kernel_rfl) (by kernel_rfl) ?_
          refine RunV.q (o_move rfl) rfl ?_
          refine RunV.q (o_move rfl) rfl ?_
          refine RunV.q (o_move rfl) rfl ?_
          refine RunV.q (o_indexAddr (m := i * 5) tk94 ts114 rfl rfl (by omega) (by omega)) rfl ?_
          refine RunV.q (o_fieldAddr rfl tk114 rfl ts2 rfl) rfl ?_
          refine RunV.q (o_load rfl tk2 ts2 rfl rfl (tks_k (i := i) (by omega))) rfl ?_
          refine RunV.q (o_move rfl) rfl ?_
          refine RunV.q (o_move rfl) rfl ?_
          refine RunV.q (o_indexAddr (m := i * 5) tk94 ts114 rfl rfl (by omega) (by omega)) rfl ?_
          refine RunV.q (o_fieldAddr rfl tk114 rfl ts83 rfl) rfl ?_
          refine RunV.q (o_load_agg rfl tk83 ts83 rfl rfl (tks_yle (by omega)) (tks_y (by omega))) rfl ?_
          refine RunV.q (o_build tk112 tz112 pl112 rfl rfl) rfl ?_
          refine RunV.w (o_buildSlice (nm := 1) tk100 ts112 tz112 rfl rfl rfl rfl) rfl ?_
          refine RunV.w (o_append_own (nm := 2) (mn := ((a :: l) ++ [(L.getD i default).out]).length) tk100 tk100 ts112 tb112 tz112 rfl rfl rfl rfl rfl ⟨by decide, Nat.le_refl 4, by simp only [ous_length]; omega, by simp only [List.length_cons] at hlen ⊢; omega, by simp only [List.length_cons] at hlen ⊢; omega⟩ rfl (rowsF_all Ou.len (a :: l)) rfl rfl (by simp)) rfl ?_
          refine RunV.q (o_assign rfl) rfl ?_
          refine And.intro (by kernel_rfl) ?_
          refine AW.region (by kernel_rfl) ?_
          refine RunF.q (o_move rfl) rfl ?_
          refine RunF.q (o_add rfl rfl (by first | exact i64_in _ (by omega) | rfl)) rfl ?_
          refine RunF.q (o_assign rfl) rfl ?_
          exact ⟨⟨(i + 1, (a :: l) ++ [(L.getD i default).out]), by dsimp only; omega, by dsimp only; first | exact ofL_in (by omega) hc1 hx2 | exact ofL_out (by omega) hc1 hx2⟩, Wk.of [2] [] rfl (.some rfl rfl (PRN.ous a l _) .nil) (.cons rfl rfl (PRN.flat (tks_flat _)) .nil) (.cons rfl (by first | exact RN.self rfl | exact RN.sl rfl) (.cons rfl (by first | exact RN.self rfl | exact RN.sl rfl) (.cons rfl (.sl rfl) (.cons rfl (by first | exact RN.self rfl | exact RN.sl rfl) .nil)))), by dsimp only; omega⟩
      · try simp only [decide_eq_true_eq, decide_eq_false_iff_not, bne_iff_ne, beq_iff_eq, bne_eq_false_iff_eq, beq_eq_false_iff_ne, ne_eq, Bool.not_eq_true', Bool.not_eq_false'] at hc1
        refine AW.skip ?_
        refine AW.region (by kernel_rfl) ?_
        refine RunF.q (o_move rfl) rfl ?_
        refine RunF.q (o_add rfl rfl (by first | exact i64_in _ (by omega) | rfl)) rfl ?_
        refine RunF.q (o_assign rfl) rfl ?_
        exact ⟨⟨(i + 1, y1), by dsimp only; omega, by dsimp only; first | exact ofL_in (by omega) hc1 hx2 | exact ofL_out (by omega) hc1 hx2⟩, (by rcases y1 with _ | ⟨a, l⟩ <;> first | exact Wk.of [999] [] rfl (.none .nil) (.cons rfl rfl (PRN.flat (tks_flat _)) .nil) (.cons rfl (by first | exact RN.self rfl | exact RN.sl rfl) (.cons rfl (by first | exact RN.self rfl | exact RN.sl rfl) (.cons rfl (.self rfl) (.cons rfl (by first | exact RN.self rfl | exact RN.sl rfl) .nil)))) | exact Wk.of [0] [] rfl (.some rfl rfl (by first | (apply PRN.flat; rfl) | (apply PRN.flat; simp; done) | (repeat' first | exact PRN.nil | apply PRN.cons | exact RN.self rfl | exact RN.top | exact RN.ptr rfl | exact RN.sl rfl | exact RN.slf rfl | apply RN.agg | apply RN.fn | exact RNs.nil | apply RNs.cons)) .nil) (.cons rfl rfl (PRN.flat (tks_flat _)) .nil) (.cons rfl (by first | exact RN.self rfl | exact RN.sl rfl) (.cons rfl (by first | exact RN.self rfl | exact RN.sl rfl) (.cons rfl (.sl rfl) (.cons rfl (by first | exact RN.self rfl | exact RN.sl rfl) .nil))))), by dsimp only; omega⟩
    · try simp only [decide_eq_true_eq, decide_eq_false_iff_not, bne_iff_ne, beq_iff_eq, bne_eq_false_iff_eq, beq_eq_false_iff_ne, ne_eq, Bool.not_eq_true', Bool.not_eq_false'] at hc0
      have hf : y1 = ofL L gen := by rw [hx2, List.take_of_length_le (by omega)]
      rw [hO] at hf
      subst hf
      refine AW.exit ?_
      refine AW.seq ?_
      refine AW.region (by kernel_rfl) ?_
      refine RunF.q (o_move rfl) rfl ?_
      refine RunF.q (o_assign rfl) rfl ?_
      refine AW.ret ?_
      exact FinQ.ret [] [] (ress_tmp rfl ress_nil) rfl .nil (.cons rfl rfl (PRN.flat (tks_flat _)) .nil) (by repeat' first | exact RN.self rfl | exact RN.top | exact RN.ptr rfl | exact RN.sl rfl | exact RN.slf rfl | apply RN.agg | apply RN.tuple | apply RN.fn | exact RNs.nil | apply RNs.cons | (apply RNs.flat; simp; done))
  · exact Wk.of [999] [] rfl (.none .nil) (.cons rfl rfl (PRN.flat (tks_flat _)) .nil) (.cons rfl (by first | exact RN.self rfl | exact RN.sl rfl) (.cons rfl (by first | exact RN.self rfl | exact RN.sl rfl) (.cons rfl (.self rfl) (.cons rfl (by first | exact RN.self rfl | exact RN.sl rfl) .nil))))

set_option maxHeartbeats 1000000 in
theorem rofL_cons (L : List Tk) (f : Bool) (gen : Int) (hL : L.length ≤ 1000000) (a0 : Ou) (l0 : List Ou) (hO : ofL L gen = a0 :: l0) : SoundC Try.prog 62 [.sl (.r 0) 0 L.length 5 f, .int .i64 gen] ⟨[tks L], []⟩ { val := .sl (.o 0) 0 (a0 :: l0).length 4 false, newo := [ous (a0 :: l0)] } := by
  refine SoundC.of (N := 35) Try.func62 rfl rfl rfl rfl ?_
  refine AW.seq ?_
  refine AW.region (by kernel_rfl) ?_
  refine RunF.q (o_assign rfl) rfl ?_
  refine AW.seq ?_
  refine AW.region (by kernel_rfl) ?_
  refine RunF.q (o_assign rfl) rfl ?_
  refine AW.seq ?_
  refine AW.seq ?_
  refine AW.region (by kernel_rfl) ?_
  refine RunF.q (o_assign rfl) rfl ?_
  refine AW.block ?_
  refine AW.loop (α := {x : Nat × List Ou // x.1 ≤ L.length ∧ x.2 = ofL (L.take x.1) gen}) (fun x : {x : Nat × List Ou // x.1 ≤ L.length ∧ x.2 = ofL (L.take x.1) gen} => ([(0, .sl (.r 0) 0 L.length 5 f), (1, .int .i64 gen), (5, slO 0 x.1.2), (6, .int .i64 x.1.1)], ⟨[tks L], [rowO x.1.2]⟩)) (fun x => L.length - x.1.1) (fun x => ?_) ⟨(0, []), by simp, by simp [ofL]⟩ ?_
  · obtain ⟨⟨i, y1⟩, hx1, hx2⟩ := x
    try dsimp only at hx1 hx2
    try dsimp only
    refine AW.seq ?_
    refine AW.seq ?_
    refine AW.region (by kernel_rfl) ?_
    refine RunF.q (o_move rfl) rfl ?_
    refine RunF.q (o_move rfl) rfl ?_
    first | refine RunF.q (o_len tk94 rfl) rfl ?_ | refine RunF.q (o_len_nil tk94 rfl) rfl ?_
    refine RunF.q (o_lss rfl rfl) rfl ?_
    refine AW.cond rfl (fun hc0 => ?_) (fun hc0 => ?_)
    · try simp only [decide_eq_true_eq, decide_eq_false_iff_not, bne_iff_ne, beq_iff_eq, bne_eq_false_iff_eq, beq_eq_false_iff_ne, ne_eq, Bool.not_eq_true', Bool.not_eq_false'] at hc0
      refine AW.skip ?_
      refine AW.seq ?_
      refine AW.block ?_
      refine AW.seq ?_
      refine AW.region (by kernel_rfl) ?_
      refine RunF.q (o_move rfl) rfl ?_
      refine RunF.q (o_move rfl) rfl ?_
      refine RunF.q (o_indexAddr (m := i * 5) tk94 ts114 rfl rfl (by omega) (by omega)) rfl ?_
      refine RunF.q (o_fieldAddr rfl tk114 rfl ts2 rfl) rfl ?_
      refine RunF.q (o_load rfl tk2 ts2 rfl rfl (tks_g (i := i) (by omega))) rfl ?_
      refine RunF.q (o_move rfl) rfl ?_
      refine RunF.q (o_eql rfl rfl) rfl ?_
      refine AW.cond rfl (fun hc1 => ?_) (fun hc1 => ?_)
      · try simp only [decide_eq_true_eq, decide_eq_false_iff_not, bne_iff_ne, beq_iff_eq, bne_eq_false_iff_eq, beq_eq_false_iff_ne, ne_eq, Bool.not_eq_true', Bool.not_eq_false'] at hc1
        have hlen : y1.length ≤ L.length := by rw [hx2]; exact Nat.le_trans (ofL_le _ _) (by rw [List.length_take]; omega)
        rcases y1 with _ | ⟨a, l⟩
        · refine AW.draws (by kernel_rfl) (by kernel_rfl) ?_
          refine RunV.q (o_move rfl) rfl ?_
          refine RunV.q (o_move rfl) rfl ?_
          refine RunV.q (o_move rfl) rfl ?_
          refine RunV.q (o_indexAddr (m := i * 5) tk94 ts114 rfl rfl (by omega) (by omega)) rfl ?_
          refine RunV.q (o_fieldAddr rfl tk114 rfl ts2 rfl) rfl ?_
          refine RunV.q (o_load rfl tk2 ts2 rfl rfl (tks_k (i := i) (by omega))) rfl ?_
          refine RunV.q (o_move rfl) rfl ?_
          refine RunV.q (o_move rfl) rfl ?_
          refine RunV.q (o_indexAddr (m := i * 5) tk94 ts114 rfl rfl (by omega) (by omega)) rfl ?_
          refine RunV.q (o_fieldAddr rfl tk114 rfl ts83 rfl) rfl ?_
          refine RunV.q (o_load_agg rfl tk83 ts83 rfl rfl (tks_yle (by omega)) (tks_y (by omega))) rfl ?_
          refine RunV.q (o_build tk112 tz112 pl112 rfl rfl) rfl ?_
          refine RunV.w (o_buildSlice (nm := 1) tk100 ts112 tz112 rfl rfl rfl rfl) rfl ?_
          refine RunV.w (o_append_nil (nm := 2) tk100 tk100 ts112 tb112 tz112 rfl rfl rfl rfl ⟨by decide, Nat.le_refl 4, by decide, by decide⟩ rfl rfl rfl) rfl ?_
          refine RunV.q (o_assign rfl) rfl ?_
          refine And.intro (by kernel_rfl) ?_
          refine AW.region (by kernel_rfl) ?_
          refine RunF.q (o_move rfl) rfl ?_
          refine RunF.q (o_add rfl rfl (by first | exact i64_in _ (by omega) | rfl)) rfl ?_
          refine RunF.q (o_assign rfl) rfl ?_
          exact ⟨⟨(i + 1, ([] : List Ou) ++ [(L.getD i default).out]), by dsimp only; omega, by dsimp only; first | exact ofL_in (by omega) hc1 hx2 | exact ofL_out (by omega) hc1 hx2⟩, Wk.of [2] [] rfl (.some rfl rfl (by first | (apply PRN.flat; rfl) | (apply PRN.flat; simp; done) | (repeat' first | exact PRN.nil | apply PRN.cons | exact RN.self rfl | exact RN.top | exact RN.ptr rfl | exact RN.sl rfl | exact RN.slf rfl | apply RN.agg | apply RN.fn | exact RNs.nil | apply RNs.cons)) .nil) (.cons rfl rfl (PRN.flat (tks_flat _)) .nil) (.cons rfl (by first | exact RN.self rfl | exact RN.sl rfl) (.cons rfl (by first | exact RN.self rfl | exact RN.sl rfl) (.cons rfl (.sl rfl) (.cons rfl (by first | exact RN.self rfl | exact RN.sl rfl) .nil)))), by dsimp only; omega⟩
        · refine AW.draws (by kernel_rfl) (by kernel_rfl) ?_
          refine RunV.q (o_move rfl) rfl ?_
          refine RunV.q (o_move rfl) rfl ?_
          refine RunV.q (o_move rfl) rfl ?_
          refine RunV.q (o_indexAddr (m := i * 5) tk94 ts114 rfl rfl (by omega) (by omega)) rfl ?_
          refine RunV.q (o_fieldAddr rfl tk114 rfl ts2 rfl) rfl ?_
          refine RunV.q (o_load rfl tk2 ts2 rfl rfl (tks_k (i := i) (by omega))) rfl ?_
          refine RunV.q (o_move rfl) rfl ?_
          refine RunV.q (o_move rfl) rfl ?_
          refine RunV.q (o_indexAddr (m := i * 5) tk94 ts114 rfl rfl (by omega) (by omega)) rfl ?_
          refine RunV.q (o_fieldAddr rfl tk114 rfl ts83 rfl) rfl ?_
          refine RunV.q (o_load_agg rfl tk83 ts83 rfl rfl (tks_yle (by omega)) (tks_y (by omega))) rfl ?_
          refine RunV.q (o_build tk112 tz112 pl112 rfl rfl) rfl ?_
          refine RunV.w (o_buildSlice (nm := 1) tk100 ts112 tz112 rfl rfl rfl rfl) rfl ?_
          refine RunV.w (o_append_own (nm := 2) (mn := ((a :: l) ++ [(L.getD i default).out]).length) tk100 tk100 ts112 tb112 tz112 rfl rfl rfl rfl rfl ⟨by decide, Nat.le_refl 4, by simp only [ous_length]; omega, by simp only [List.length_cons] at hlen ⊢; omega, by simp only [List.length_cons] at hlen ⊢; omega⟩ rfl (rowsF_all Ou.len (a :: l)) rfl rfl (by simp)) rfl ?_
          refine RunV.q (o_assign rfl) rfl ?_
          refine And.intro (by kernel_rfl) ?_
          refine AW.region (by kernel_rfl) ?_
          refine RunF.q (o_move rfl) rfl ?_
          refine RunF.q (o_add rfl rfl (by first | exact i64_in _ (by omega) | rfl)) rfl ?_
          refine RunF.q (o_assign rfl) rfl ?_
          exact ⟨⟨(i + 1, (a :: l) ++ [(L.getD i default).out]), by dsimp only; omega, by dsimp only; first | exact ofL_in (by omega) hc1 hx2 | exact ofL_out (by omega) hc1 hx2⟩, Wk.of [2] [] rfl (.some rfl rfl (PRN.ous a l _) .nil) (.cons rfl rfl (PRN.flat (tks_flat _)) .nil) (.cons rfl (by first | exact RN.self rfl | exact RN.sl rfl) (.cons rfl (by first | exact RN.self rfl | exact RN.sl rfl) (.cons rfl (.sl rfl) (.cons rfl (by first | exact RN.self rfl | exact RN.sl rfl) .nil)))), by dsimp only; omega⟩
      · try simp only [decide_eq_true_eq, decide_eq_false_iff_not, bne_iff_ne, beq_iff_eq, bne_eq_false_iff_eq, beq_eq_false_iff_ne, ne_eq, Bool.not_eq_true', Bool.not_eq_false'] at hc1
        refine AW.skip ?_
        refine AW.region (by kernel_rfl) ?_
        refine RunF.q (o_move rfl) rfl ?_
        refine RunF.q (o_add rfl rfl (by first | exact i64_in _ (by omega) | rfl)) rfl ?_
        refine RunF.q (o_assign rfl) rfl ?_
        exact ⟨⟨(i + 1, y1), by dsimp only; omega, by dsimp only; first | exact ofL_in (by omega) hc1 hx2 | exact ofL_out (by omega) hc1 hx2⟩, (by rcases y1 with _ | ⟨a, l⟩ <;> first | exact Wk.of [999] [] rfl (.none .nil) (.cons rfl rfl (PRN.flat (tks_flat _)) .nil) (.cons rfl (by first | exact RN.self rfl | exact RN.sl rfl) (.cons rfl (by first | exact RN.self rfl | exact RN.sl rfl) (.cons rfl (.self rfl) (.cons rfl (by first | exact RN.self rfl | exact RN.sl rfl) .nil)))) | exact Wk.of [0] [] rfl (.some rfl rfl (by first | (apply PRN.flat; rfl) | (apply PRN.flat; simp; done) | (repeat' first | exact PRN.nil | apply PRN.cons | exact RN.self rfl | exact RN.top | exact RN.ptr rfl | exact RN.sl rfl | exact RN.slf rfl | apply RN.agg | apply RN.fn | exact RNs.nil | apply RNs.cons)) .nil) (.cons rfl rfl (PRN.flat (tks_flat _)) .nil) (.cons rfl (by first | exact RN.self rfl | exact RN.sl rfl) (.cons rfl (by first | exact RN.self rfl | exact RN.sl rfl) (.cons rfl (.sl rfl) (.cons rfl (by first | exact RN.self rfl | exact RN.sl rfl) .nil))))), by dsimp only; omega⟩
    · try simp only [decide_eq_true_eq, decide_eq_false_iff_not, bne_iff_ne, beq_iff_eq, bne_eq_false_iff_eq, beq_eq_false_iff_ne, ne_eq, Bool.not_eq_true', Bool.not_eq_false'] at hc0
      have hf : y1 = ofL L gen := by rw [hx2, List.take_of_length_le (by omega)]
      rw [hO] at hf
      subst hf
      refine AW.exit ?_
      refine AW.seq ?_
      refine AW.region (by kernel_rfl) ?_
      refine RunF.q (o_move rfl) rfl ?_
      refine RunF.q (o_assign rfl) rfl ?_
      refine AW.ret ?_
      exact FinQ.ret [0] [] (ress_tmp rfl ress_nil) rfl (.some rfl rfl (PRN.flat (ous_flat _)) .nil) (.cons rfl rfl (PRN.flat (tks_flat _)) .nil) (by repeat' first | exact RN.self rfl | exact RN.top | exact RN.ptr rfl | exact RN.sl rfl | exact RN.slf rfl | apply RN.agg | apply RN.tuple | apply RN.fn | exact RNs.nil | apply RNs.cons | (apply RNs.flat; simp; done))
  · exact Wk.of [999] [] rfl (.none .nil) (.cons rfl rfl (PRN.flat (tks_flat _)) .nil) (.cons rfl (by first | exact RN.self rfl | exact RN.sl rfl) (.cons rfl (by first | exact RN.self rfl | exact RN.sl rfl) (.cons rfl (.self rfl) (.cons rfl (by first | exact RN.self rfl | exact RN.sl rfl) .nil))))


theorem outs_same (L : List Ou) (fa fb : Bool) (hL : L.length ≤ 1000000) : SoundC Try.prog 60 [.sl (.r 0) 0 L.length 4 fa, .sl (.r 1) 0 L.length 4 fb] ⟨[ous L, ous L], []⟩ { val := .bool true } := by
  have := outs_ok L L fa fb (by omega)
  rwa [decide_eq_true rfl] at this
end Go.Proofs.Ytnkijhpikeokfaa
