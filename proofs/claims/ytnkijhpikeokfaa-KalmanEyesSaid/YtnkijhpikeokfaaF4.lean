/- The product of two numbers of 64 bits; products of numbers in bounds. -/
import Derived.Test.YtnkijhpikeokfaaF1
import Derived.Lib.Mul64
import Derived.Laws.Bits64
import Derived.Laws.BitsLemmas
set_option linter.unusedSimpArgs false
set_option linter.unusedVariables false
namespace Go.Proofs.Ytnkijhpikeokfaa
open Go Go.Sym Go.IntWalk

theorem bv_and_nat (a b : Nat) (ha : a < 18446744073709551616) (hb : b < 18446744073709551616) : ((BitVec.ofInt 64 (a : Int) &&& BitVec.ofInt 64 (b : Int)).toNat) = a &&& b := by
  rw [BitVec.toNat_and, BitVec.toNat_ofInt, BitVec.toNat_ofInt]
  have e1 : ((a : Int) % ((2 ^ 64 : Nat) : Int)).toNat = a := by omega
  have e2 : ((b : Int) % ((2 ^ 64 : Nat) : Int)).toNat = b := by omega
  rw [e1, e2]
theorem bv_or_nat (a b : Nat) (ha : a < 18446744073709551616) (hb : b < 18446744073709551616) : ((BitVec.ofInt 64 (a : Int) ||| BitVec.ofInt 64 (b : Int)).toNat) = a ||| b := by
  rw [BitVec.toNat_or, BitVec.toNat_ofInt, BitVec.toNat_ofInt]
  have e1 : ((a : Int) % ((2 ^ 64 : Nat) : Int)).toNat = a := by omega
  have e2 : ((b : Int) % ((2 ^ 64 : Nat) : Int)).toNat = b := by omega
  rw [e1, e2]
theorem u64n (a : Nat) (ha : a < 18446744073709551616) : IntKind.u64.wrap (a : Int) = (a : Int) := by rw [IntKind.wrap_u64]; omega
theorem mask32 (a : Nat) (ha : a < 18446744073709551616) : IntKind.u64.wrap ((BitVec.ofInt IntKind.u64.bits (a : Int) &&& BitVec.ofInt IntKind.u64.bits 4294967295).toNat : Int) = ((a % 4294967296 : Nat) : Int) := by
  have h := bv_and_nat a 4294967295 ha (by omega)
  have e : a &&& 4294967295 = a % 4294967296 := Nat.and_two_pow_sub_one_eq_mod a 32
  rw [e] at h
  have h2 : (BitVec.ofInt IntKind.u64.bits (a : Int) &&& BitVec.ofInt IntKind.u64.bits 4294967295).toNat = a % 4294967296 := h
  rw [h2]
  exact u64n _ (by omega)
theorem shr32 (a : Nat) : (a : Int).fdiv (2 ^ (min (32 : Int).toNat IntKind.u64.bits)) = ((a / 4294967296 : Nat) : Int) := by
  rw [Int.fdiv_eq_ediv_of_nonneg _ (by decide)]
  show (a : Int) / 4294967296 = _
  omega
theorem mulN (a b : Nat) (h : a * b < 18446744073709551616) : IntKind.u64.wrap ((a : Int) * (b : Int)) = ((a * b : Nat) : Int) := by
  rw [← Int.natCast_mul]; exact u64n _ h
theorem addN (a b : Nat) (h : a + b < 18446744073709551616) : IntKind.u64.wrap ((a : Int) + (b : Int)) = ((a + b : Nat) : Int) := by
  rw [← Int.natCast_add]; exact u64n _ h
theorem mulM (a b : Nat) : IntKind.u64.wrap ((a : Int) * (b : Int)) = ((a * b % 18446744073709551616 : Nat) : Int) := by
  rw [← Int.natCast_mul, IntKind.wrap_u64]; omega

set_option maxHeartbeats 1000000 in
theorem mul64_ok (x y : Nat) (hx : x < 18446744073709551616) (hy : y < 18446744073709551616) : SoundC Try.prog 118 [.int .u64 x, .int .u64 y] ⟨[], []⟩ { val := .tuple [.int .u64 ((x * y / 18446744073709551616 : Nat) : Int), .int .u64 ((x * y % 18446744073709551616 : Nat) : Int)] } := by
  obtain ⟨bd, bt, bw, hhi⟩ := Lib.mul64_hi x y hx hy
  have ba := Lib.half_mul_le (a := x / 4294967296) (b := y / 4294967296) (by omega) (by omega)
  have bb := Lib.half_mul_le (a := x / 4294967296) (b := y % 4294967296) (by omega) (by omega)
  have bc := Lib.half_mul_le (a := x % 4294967296) (b := y / 4294967296) (by omega) (by omega)
  refine SoundC.of (N := 51) Try.func118 rfl rfl rfl rfl ?_
  refine AW.seq ?_
  refine AW.region (by kernel_rfl) ?_
  refine RunF.q (o_assign rfl) rfl ?_
  refine RunF.q (o_assign rfl) rfl ?_
  refine AW.seq ?_
  refine AW.region (by kernel_rfl) ?_
  refine RunF.q (o_move rfl) rfl ?_
  refine RunF.q (o_and rfl rfl (mask32 x hx)) rfl ?_
  refine RunF.q (o_assign rfl) rfl ?_
  refine AW.seq ?_
  refine AW.region (by kernel_rfl) ?_
  refine RunF.q (o_move rfl) rfl ?_
  refine RunF.q (o_shr rfl rfl (by decide) (shr32 x)) rfl ?_
  refine RunF.q (o_assign rfl) rfl ?_
  refine AW.seq ?_
  refine AW.region (by kernel_rfl) ?_
  refine RunF.q (o_move rfl) rfl ?_
  refine RunF.q (o_and rfl rfl (mask32 y hy)) rfl ?_
  refine RunF.q (o_assign rfl) rfl ?_
  refine AW.seq ?_
  refine AW.region (by kernel_rfl) ?_
  refine RunF.q (o_move rfl) rfl ?_
  refine RunF.q (o_shr rfl rfl (by decide) (shr32 y)) rfl ?_
  refine RunF.q (o_assign rfl) rfl ?_
  refine AW.seq ?_
  refine AW.region (by kernel_rfl) ?_
  refine RunF.q (o_move rfl) rfl ?_
  refine RunF.q (o_move rfl) rfl ?_
  refine RunF.q (o_mul rfl rfl (mulN (x % 4294967296) (y % 4294967296) bd)) rfl ?_
  refine RunF.q (o_assign rfl) rfl ?_
  refine AW.seq ?_
  refine AW.region (by kernel_rfl) ?_
  refine RunF.q (o_move rfl) rfl ?_
  refine RunF.q (o_move rfl) rfl ?_
  refine RunF.q (o_mul rfl rfl (mulN (x / 4294967296) (y % 4294967296) (by omega))) rfl ?_
  refine RunF.q (o_move rfl) rfl ?_
  refine RunF.q (o_shr rfl rfl (by decide) (shr32 ((x % 4294967296) * (y % 4294967296)))) rfl ?_
  refine RunF.q (o_add rfl rfl (addN _ _ bt)) rfl ?_
  refine RunF.q (o_assign rfl) rfl ?_
  refine AW.seq ?_
  refine AW.region (by kernel_rfl) ?_
  refine RunF.q (o_move rfl) rfl ?_
  refine RunF.q (o_and rfl rfl (mask32 ((x / 4294967296) * (y % 4294967296) + ((x % 4294967296) * (y % 4294967296)) / 4294967296) bt)) rfl ?_
  refine RunF.q (o_assign rfl) rfl ?_
  refine AW.seq ?_
  refine AW.region (by kernel_rfl) ?_
  refine RunF.q (o_move rfl) rfl ?_
  refine RunF.q (o_shr rfl rfl (by decide) (shr32 ((x / 4294967296) * (y % 4294967296) + ((x % 4294967296) * (y % 4294967296)) / 4294967296))) rfl ?_
  refine RunF.q (o_assign rfl) rfl ?_
  refine AW.seq ?_
  refine AW.region (by kernel_rfl) ?_
  refine RunF.q (o_move rfl) rfl ?_
  refine RunF.q (o_move rfl) rfl ?_
  refine RunF.q (o_move rfl) rfl ?_
  refine RunF.q (o_mul rfl rfl (mulN (x % 4294967296) (y / 4294967296) (by omega))) rfl ?_
  refine RunF.q (o_add rfl rfl (addN _ _ bw)) rfl ?_
  refine RunF.q (o_assign rfl) rfl ?_
  refine AW.seq ?_
  refine AW.region (by kernel_rfl) ?_
  refine RunF.q (o_move rfl) rfl ?_
  refine RunF.q (o_move rfl) rfl ?_
  refine RunF.q (o_mul rfl rfl (mulN (x / 4294967296) (y / 4294967296) (by omega))) rfl ?_
  refine RunF.q (o_move rfl) rfl ?_
  refine RunF.q (o_add rfl rfl (addN _ _ (by omega))) rfl ?_
  refine RunF.q (o_move rfl) rfl ?_
  refine RunF.q (o_shr rfl rfl (by decide) (shr32 ((((x / 4294967296) * (y % 4294967296) + ((x % 4294967296) * (y % 4294967296)) / 4294967296) % 4294967296) + (x % 4294967296) * (y / 4294967296)))) rfl ?_
  refine RunF.q (o_add rfl rfl ((addN _ _ (by omega)).trans (congrArg _ hhi))) rfl ?_
  refine RunF.q (o_assign rfl) rfl ?_
  refine AW.seq ?_
  refine AW.region (by kernel_rfl) ?_
  refine RunF.q (o_move rfl) rfl ?_
  refine RunF.q (o_move rfl) rfl ?_
  refine RunF.q (o_mul rfl rfl (mulM x y)) rfl ?_
  refine RunF.q (o_assign rfl) rfl ?_
  refine AW.ret ?_
  exact FinQ.ret [] [] (ress_tmp rfl (ress_tmp rfl ress_nil)) rfl (by first | exact RowsO.nil | skip) (by first | exact RowsR.nil | skip) (by repeat' first | exact RN.self rfl | exact RN.top | exact RN.ptr rfl | exact RN.sl rfl | exact RN.slf rfl | apply RN.agg | apply RN.tuple | apply RN.fn | exact RNs.nil | apply RNs.cons | (apply RNs.flat; simp; done))


/-- a product's size without its 24 bits behind the point: to the nearest, halves to the even one -/
def rnd24 (n : Nat) : Nat := if 8388608 < n % 16777216 ∨ (n % 16777216 = 8388608 ∧ n / 16777216 % 2 = 1) then n / 16777216 + 1 else n / 16777216
def mulN2 (a b : Int) : Nat := rnd24 ((clampQ a).natAbs * (clampQ b).natAbs)
def mulZ (a b : Int) : Bool := decide (clampQ a < 0) != decide (clampQ b < 0)
def mulQ (a b : Int) : Int := signedQ ((mulN2 a b / 18446744073709551616 : Nat) : Int) ((mulN2 a b % 18446744073709551616 : Nat) : Int) (mulZ a b)
def mulF (a b : Int) : Bool := both2 a b || signedF ((mulN2 a b / 18446744073709551616 : Nat) : Int) ((mulN2 a b % 18446744073709551616 : Nat) : Int) (mulZ a b)

theorem mask24 (a : Nat) (ha : a < 18446744073709551616) : IntKind.u64.wrap ((BitVec.ofInt IntKind.u64.bits (a : Int) &&& BitVec.ofInt IntKind.u64.bits 16777215).toNat : Int) = ((a % 16777216 : Nat) : Int) := by
  have h := bv_and_nat a 16777215 ha (by omega)
  have e : a &&& 16777215 = a % 16777216 := Nat.and_two_pow_sub_one_eq_mod a 24
  rw [e] at h
  have h2 : (BitVec.ofInt IntKind.u64.bits (a : Int) &&& BitVec.ofInt IntKind.u64.bits 16777215).toNat = a % 16777216 := h
  rw [h2]
  exact u64n _ (by omega)
theorem mask1 (a : Nat) (ha : a < 18446744073709551616) : IntKind.u64.wrap ((BitVec.ofInt IntKind.u64.bits (a : Int) &&& BitVec.ofInt IntKind.u64.bits 1).toNat : Int) = ((a % 2 : Nat) : Int) := by
  have h := bv_and_nat a 1 ha (by omega)
  have e : a &&& 1 = a % 2 := Nat.and_two_pow_sub_one_eq_mod a 1
  rw [e] at h
  have h2 : (BitVec.ofInt IntKind.u64.bits (a : Int) &&& BitVec.ofInt IntKind.u64.bits 1).toNat = a % 2 := h
  rw [h2]
  exact u64n _ (by omega)
theorem shr24 (a : Nat) : (a : Int).fdiv (2 ^ (min (24 : Int).toNat IntKind.u64.bits)) = ((a / 16777216 : Nat) : Int) := by
  rw [Int.fdiv_eq_ediv_of_nonneg _ (by decide)]
  show (a : Int) / 16777216 = _
  omega
theorem shl40 (a : Nat) : IntKind.u64.wrap ((a : Int) * 2 ^ (min (40 : Int).toNat IntKind.u64.bits)) = ((a % 16777216 * 1099511627776 : Nat) : Int) := by
  show IntKind.u64.wrap ((a : Int) * 1099511627776) = _
  rw [IntKind.wrap_u64]; omega
theorem or40 (lo hi : Nat) (hl : lo < 1099511627776) (hh : hi < 16777216) : IntKind.u64.wrap ((BitVec.ofInt IntKind.u64.bits (lo : Int) ||| BitVec.ofInt IntKind.u64.bits ((hi * 1099511627776 : Nat) : Int)).toNat : Int) = ((hi * 1099511627776 + lo : Nat) : Int) := by
  have h := bv_or_nat lo (hi * 1099511627776) (by omega) (by omega)
  have e : lo ||| hi * 1099511627776 = hi * 1099511627776 + lo := by
    rw [Nat.or_comm, Nat.mul_comm]
    exact (Nat.two_pow_add_eq_or_of_lt (i := 40) (by simpa using hl) hi).symm
  rw [e] at h
  have h2 : (BitVec.ofInt IntKind.u64.bits (lo : Int) ||| BitVec.ofInt IntKind.u64.bits ((hi * 1099511627776 : Nat) : Int)).toNat = hi * 1099511627776 + lo := h
  rw [h2]
  exact u64n _ (by omega)
theorem parts (n : Nat) (hn : n ≤ 4951760157141521099596496896) : n % 18446744073709551616 % 16777216 = n % 16777216 ∧ n / 18446744073709551616 % 16777216 * 1099511627776 + n % 18446744073709551616 / 16777216 = n / 16777216 % 18446744073709551616 ∧
    n / 18446744073709551616 / 16777216 = n / 16777216 / 18446744073709551616 := by omega

theorem mul_small {x y : Nat} (hx : x ≤ 70368744177664) (hy : y ≤ 70368744177664) : x * y ≤ 4951760157141521099596496896 := Nat.mul_le_mul hx hy
theorem inc64 (q : Nat) : IntKind.u64.wrap (((q % 18446744073709551616 : Nat) : Int) + 1) = (((q + 1) % 18446744073709551616 : Nat) : Int) := by
  rw [IntKind.wrap_u64]; omega
theorem inc64h (q : Nat) (h : (((q + 1) % 18446744073709551616 : Nat) : Int) = 0) (hq : q ≤ 295147905179352825856) : IntKind.u64.wrap (((q / 18446744073709551616 : Nat) : Int) + 1) = (((q + 1) / 18446744073709551616 : Nat) : Int) := by
  rw [IntKind.wrap_u64]; omega
theorem noinc (q : Nat) (h : ¬ (((q + 1) % 18446744073709551616 : Nat) : Int) = 0) : q / 18446744073709551616 = (q + 1) / 18446744073709551616 := by omega

set_option maxHeartbeats 1000000 in
theorem mul_ok (a b : Int) : SoundC Try.prog 81 [.int .i64 a, .int .i64 b] ⟨[], []⟩ { val := .tuple [.int .i64 (mulQ a b), .bool (mulF a b)] } := by
  have ha := clampQ_in a
  have hb := clampQ_in b
  have hn : ((clampQ a).natAbs * (clampQ b).natAbs) ≤ 4951760157141521099596496896 := mul_small (by omega) (by omega)
  obtain ⟨p1, p2, p3⟩ := parts _ hn
  have hq : (((clampQ a).natAbs * (clampQ b).natAbs) / 16777216) ≤ 295147905179352825856 := by omega
  refine SoundC.of (N := 69) Try.func81 rfl rfl rfl rfl ?_
  refine AW.seq ?_
  refine AW.region (by kernel_rfl) ?_
  refine RunF.q (o_assign rfl) rfl ?_
  refine RunF.q (o_assign rfl) rfl ?_
  refine AW.seq ?_
  refine AW.region (by kernel_rfl) ?_
  refine RunF.q (o_move rfl) rfl ?_
  refine RunF.q (o_move rfl) rfl ?_
  refine RunF.q (o_call (no := 0) (nr := 0) rfl rfl rfl (by (repeat' first | exact cl_nil | exact cL_flat rfl | exact cL_flat (ints_flat _) | apply cL_vs | apply cl_cons | exact cv_flat rfl | apply cv_agg | apply cv_ptr_o | apply cv_sl_o rfl | apply cv_func | exact cO_old rfl | (apply cO_new; (focus rfl); (focus rfl)) | (apply cv_sl_r; (focus rfl); (focus rfl); (focus (simp; done)); (focus (first | exact ints_all _ | rfl))) | (apply cv_ptr_r rfl ?_ rfl rfl) | (simp only [List.nil_append, List.cons_append, List.length_cons, List.length_nil, Nat.zero_add, Nat.reduceAdd, List.set_cons_zero, List.set_cons_succ]; rfl) | rfl)) (by rfl) (by exact both_ok a b) (by rfl) rfl rfl (by first | exact reV_bare _ _ rfl | (simp only [reV, reVs, List.all_cons, List.all_nil, AV.flat, Bool.and_true, Bool.true_and, Bool.false_and, Bool.and_false, Bool.false_eq_true, reduceIte, CS.de, List.getElem?_cons_zero, List.getElem?_cons_succ, List.getElem?_nil, List.length_cons, List.length_nil, Nat.reduceSub, Nat.reduceAdd, Nat.zero_add, Nat.add_zero, Nat.sub_self]; rfl)) rfl) (by rfl) ?_
  refine RunF.q (o_move rfl) rfl ?_
  refine RunF.q (o_extract rfl rfl) rfl ?_
  refine RunF.q (o_extract rfl rfl) rfl ?_
  refine RunF.q (o_extract rfl rfl) rfl ?_
  refine RunF.q (o_assign rfl) rfl ?_
  refine RunF.q (o_assign rfl) rfl ?_
  refine RunF.q (o_assign rfl) rfl ?_
  refine AW.seq ?_
  refine AW.region (by kernel_rfl) ?_
  refine RunF.q (o_move rfl) rfl ?_
  refine RunF.q (o_call (no := 0) (nr := 0) rfl rfl rfl (by (repeat' first | exact cl_nil | exact cL_flat rfl | exact cL_flat (ints_flat _) | apply cL_vs | apply cl_cons | exact cv_flat rfl | apply cv_agg | apply cv_ptr_o | apply cv_sl_o rfl | apply cv_func | exact cO_old rfl | (apply cO_new; (focus rfl); (focus rfl)) | (apply cv_sl_r; (focus rfl); (focus rfl); (focus (simp; done)); (focus (first | exact ints_all _ | rfl))) | (apply cv_ptr_r rfl ?_ rfl rfl) | (simp only [List.nil_append, List.cons_append, List.length_cons, List.length_nil, Nat.zero_add, Nat.reduceAdd, List.set_cons_zero, List.set_cons_succ]; rfl) | rfl)) (by rfl) (by exact size_ok _ (by omega)) (by rfl) rfl rfl (by first | exact reV_bare _ _ rfl | (simp only [reV, reVs, List.all_cons, List.all_nil, AV.flat, Bool.and_true, Bool.true_and, Bool.false_and, Bool.and_false, Bool.false_eq_true, reduceIte, CS.de, List.getElem?_cons_zero, List.getElem?_cons_succ, List.getElem?_nil, List.length_cons, List.length_nil, Nat.reduceSub, Nat.reduceAdd, Nat.zero_add, Nat.add_zero, Nat.sub_self]; rfl)) rfl) (by rfl) ?_
  refine RunF.q (o_move rfl) rfl ?_
  refine RunF.q (o_call (no := 0) (nr := 0) rfl rfl rfl (by (repeat' first | exact cl_nil | exact cL_flat rfl | exact cL_flat (ints_flat _) | apply cL_vs | apply cl_cons | exact cv_flat rfl | apply cv_agg | apply cv_ptr_o | apply cv_sl_o rfl | apply cv_func | exact cO_old rfl | (apply cO_new; (focus rfl); (focus rfl)) | (apply cv_sl_r; (focus rfl); (focus rfl); (focus (simp; done)); (focus (first | exact ints_all _ | rfl))) | (apply cv_ptr_r rfl ?_ rfl rfl) | (simp only [List.nil_append, List.cons_append, List.length_cons, List.length_nil, Nat.zero_add, Nat.reduceAdd, List.set_cons_zero, List.set_cons_succ]; rfl) | rfl)) (by rfl) (by exact size_ok _ (by omega)) (by rfl) rfl rfl (by first | exact reV_bare _ _ rfl | (simp only [reV, reVs, List.all_cons, List.all_nil, AV.flat, Bool.and_true, Bool.true_and, Bool.false_and, Bool.and_false, Bool.false_eq_true, reduceIte, CS.de, List.getElem?_cons_zero, List.getElem?_cons_succ, List.getElem?_nil, List.length_cons, List.length_nil, Nat.reduceSub, Nat.reduceAdd, Nat.zero_add, Nat.add_zero, Nat.sub_self]; rfl)) rfl) (by rfl) ?_
  refine RunF.q (o_call (no := 0) (nr := 0) rfl rfl rfl (by (repeat' first | exact cl_nil | exact cL_flat rfl | exact cL_flat (ints_flat _) | apply cL_vs | apply cl_cons | exact cv_flat rfl | apply cv_agg | apply cv_ptr_o | apply cv_sl_o rfl | apply cv_func | exact cO_old rfl | (apply cO_new; (focus rfl); (focus rfl)) | (apply cv_sl_r; (focus rfl); (focus rfl); (focus (simp; done)); (focus (first | exact ints_all _ | rfl))) | (apply cv_ptr_r rfl ?_ rfl rfl) | (simp only [List.nil_append, List.cons_append, List.length_cons, List.length_nil, Nat.zero_add, Nat.reduceAdd, List.set_cons_zero, List.set_cons_succ]; rfl) | rfl)) (by rfl) (by exact mul64_ok (clampQ a).natAbs (clampQ b).natAbs (by omega) (by omega)) (by rfl) rfl rfl (by first | exact reV_bare _ _ rfl | (simp only [reV, reVs, List.all_cons, List.all_nil, AV.flat, Bool.and_true, Bool.true_and, Bool.false_and, Bool.and_false, Bool.false_eq_true, reduceIte, CS.de, List.getElem?_cons_zero, List.getElem?_cons_succ, List.getElem?_nil, List.length_cons, List.length_nil, Nat.reduceSub, Nat.reduceAdd, Nat.zero_add, Nat.add_zero, Nat.sub_self]; rfl)) rfl) (by rfl) ?_
  refine RunF.q (o_move rfl) rfl ?_
  refine RunF.q (o_extract rfl rfl) rfl ?_
  refine RunF.q (o_extract rfl rfl) rfl ?_
  refine RunF.q (o_assign rfl) rfl ?_
  refine RunF.q (o_assign rfl) rfl ?_
  refine AW.seq ?_
  refine AW.region (by kernel_rfl) ?_
  refine RunF.q (o_move rfl) rfl ?_
  refine RunF.q (o_and (m := ((((clampQ a).natAbs * (clampQ b).natAbs) % 16777216 : Nat) : Int)) rfl rfl (by rw [mask24 _ (by omega), p1])) rfl ?_
  refine RunF.q (o_assign rfl) rfl ?_
  refine AW.seq ?_
  refine AW.region (by kernel_rfl) ?_
  refine RunF.q (o_move rfl) rfl ?_
  refine RunF.q (o_shr rfl rfl (by decide) (shr24 _)) rfl ?_
  refine RunF.q (o_move rfl) rfl ?_
  refine RunF.q (o_shl rfl rfl (by decide) (shl40 _)) rfl ?_
  refine RunF.q (o_or (m := (((((clampQ a).natAbs * (clampQ b).natAbs) / 16777216) % 18446744073709551616 : Nat) : Int)) rfl rfl (by rw [or40 _ _ (by omega) (by omega), p2])) rfl ?_
  refine RunF.q (o_assign rfl) rfl ?_
  refine AW.seq ?_
  refine AW.region (by kernel_rfl) ?_
  refine RunF.q (o_move rfl) rfl ?_
  refine RunF.q (o_shr (m := (((((clampQ a).natAbs * (clampQ b).natAbs) / 16777216) / 18446744073709551616 : Nat) : Int)) rfl rfl (by decide) (by rw [shr24, p3])) rfl ?_
  refine RunF.q (o_assign rfl) rfl ?_
  refine AW.seq ?_
  refine AW.seq ?_
  refine AW.region (by kernel_rfl) ?_
  refine RunF.q (o_move rfl) rfl ?_
  refine RunF.q (o_gtr rfl rfl) rfl ?_
  refine RunF.br (o_move rfl) rfl (fun hb6_2 => ?_) (fun hb6_2 => ?_)
  · try simp only [decide_eq_true_eq, decide_eq_false_iff_not, bne_iff_ne, beq_iff_eq, bne_eq_false_iff_eq, beq_eq_false_iff_ne, ne_eq, Bool.not_eq_true', Bool.not_eq_false'] at hb6_2
    refine RunF.gs (b := true) rfl rfl ?_
    refine RunF.gs (b := true) rfl rfl ?_
    refine RunF.gs (b := true) rfl rfl ?_
    refine RunF.gt rfl ?_
    refine RunF.gt rfl ?_
    refine RunF.gt rfl ?_
    refine RunF.gs (b := true) rfl rfl ?_
    refine RunF.q (o_pick_t rfl rfl) rfl ?_
    refine AW.cond rfl (fun hc0 => ?_) (fun hc0 => absurd hc0 (by simp))
    have eM : mulN2 a b = (((clampQ a).natAbs * (clampQ b).natAbs) / 16777216) + 1 := by unfold mulN2 rnd24; rw [if_pos (by omega)]
    refine AW.seq ?_
    refine AW.region (by kernel_rfl) ?_
    refine RunF.q (o_move rfl) rfl ?_
    refine RunF.q (o_add rfl rfl (inc64 _)) rfl ?_
    refine RunF.q (o_assign rfl) rfl ?_
    refine AW.seq ?_
    refine AW.region (by kernel_rfl) ?_
    refine RunF.q (o_move rfl) rfl ?_
    refine RunF.q (o_eql rfl rfl) rfl ?_
    refine AW.cond rfl (fun hc1 => ?_) (fun hc1 => ?_)
    · try simp only [decide_eq_true_eq, decide_eq_false_iff_not, bne_iff_ne, beq_iff_eq, bne_eq_false_iff_eq, beq_eq_false_iff_ne, ne_eq, Bool.not_eq_true', Bool.not_eq_false'] at hc1
      have e1 : mulQ a b = signedQ ((((((clampQ a).natAbs * (clampQ b).natAbs) / 16777216) + 1) / 18446744073709551616 : Nat) : Int) ((((((clampQ a).natAbs * (clampQ b).natAbs) / 16777216) + 1) % 18446744073709551616 : Nat) : Int) (mulZ a b) := by unfold mulQ; rw [eM]
      have e2 : mulF a b = (both2 a b || signedF ((((((clampQ a).natAbs * (clampQ b).natAbs) / 16777216) + 1) / 18446744073709551616 : Nat) : Int) ((((((clampQ a).natAbs * (clampQ b).natAbs) / 16777216) + 1) % 18446744073709551616 : Nat) : Int) (mulZ a b)) := by unfold mulF; rw [eM]
      refine AW.region (by kernel_rfl) ?_
      refine RunF.q (o_move rfl) rfl ?_
      refine RunF.q (o_add rfl rfl (inc64h _ hc1 hq)) rfl ?_
      refine RunF.q (o_assign rfl) rfl ?_
      refine AW.seq ?_
      refine AW.region (by kernel_rfl) ?_
      refine RunF.q (o_move rfl) rfl ?_
      refine RunF.q (o_move rfl) rfl ?_
      refine RunF.q (o_move rfl) rfl ?_
      refine RunF.q (o_lss rfl rfl) rfl ?_
      refine RunF.q (o_move rfl) rfl ?_
      refine RunF.q (o_lss rfl rfl) rfl ?_
      refine RunF.q (o_neb tk4 rfl rfl) rfl ?_
      refine RunF.q (o_call (no := 0) (nr := 0) rfl rfl rfl (by (repeat' first | exact cl_nil | exact cL_flat rfl | exact cL_flat (ints_flat _) | apply cL_vs | apply cl_cons | exact cv_flat rfl | apply cv_agg | apply cv_ptr_o | apply cv_sl_o rfl | apply cv_func | exact cO_old rfl | (apply cO_new; (focus rfl); (focus rfl)) | (apply cv_sl_r; (focus rfl); (focus rfl); (focus (simp; done)); (focus (first | exact ints_all _ | rfl))) | (apply cv_ptr_r rfl ?_ rfl rfl) | (simp only [List.nil_append, List.cons_append, List.length_cons, List.length_nil, Nat.zero_add, Nat.reduceAdd, List.set_cons_zero, List.set_cons_succ]; rfl) | rfl)) (by rfl) (by exact signed_ok _ _ _ (by omega)) (by rfl) rfl rfl (by first | exact reV_bare _ _ rfl | (simp only [reV, reVs, List.all_cons, List.all_nil, AV.flat, Bool.and_true, Bool.true_and, Bool.false_and, Bool.and_false, Bool.false_eq_true, reduceIte, CS.de, List.getElem?_cons_zero, List.getElem?_cons_succ, List.getElem?_nil, List.length_cons, List.length_nil, Nat.reduceSub, Nat.reduceAdd, Nat.zero_add, Nat.add_zero, Nat.sub_self]; rfl)) rfl) (by rfl) ?_
      refine RunF.q (o_move rfl) rfl ?_
      refine RunF.q (o_extract rfl rfl) rfl ?_
      refine RunF.q (o_extract rfl rfl) rfl ?_
      refine RunF.q (o_assign rfl) rfl ?_
      refine RunF.q (o_assign rfl) rfl ?_
      refine AW.seq ?_
      refine AW.region (by kernel_rfl) ?_
      refine RunF.q (o_move rfl) rfl ?_
      refine RunF.q (o_move rfl) rfl ?_
      refine RunF.q (o_move rfl) rfl ?_
      refine RunF.gm rfl (o_move rfl) ?_
      first | refine RunF.q (o_pick_t rfl rfl) rfl ?_ | refine RunF.q (o_pick_f rfl rfl) rfl ?_ | refine RunF.q (o_pick_b rfl rfl rfl) rfl ?_ | refine RunF.q (o_pick_or rfl rfl rfl) rfl ?_ | refine RunF.q (o_pick_and rfl rfl rfl) rfl ?_
      refine RunF.q (o_assign rfl) rfl ?_
      refine RunF.q (o_assign rfl) rfl ?_
      refine AW.ret ?_
      exact FinQ.ret [] [] (ress_tmp rfl (ress_tmp rfl ress_nil)) rfl .nil .nil (by rw [e1, e2]; exact (by repeat' first | exact RN.self rfl | exact RN.top | exact RN.ptr rfl | exact RN.sl rfl | exact RN.slf rfl | apply RN.agg | apply RN.tuple | apply RN.fn | exact RNs.nil | apply RNs.cons | (apply RNs.flat; simp; done)))
    · try simp only [decide_eq_true_eq, decide_eq_false_iff_not, bne_iff_ne, beq_iff_eq, bne_eq_false_iff_eq, beq_eq_false_iff_ne, ne_eq, Bool.not_eq_true', Bool.not_eq_false'] at hc1
      have e1 : mulQ a b = signedQ (((((clampQ a).natAbs * (clampQ b).natAbs) / 16777216) / 18446744073709551616 : Nat) : Int) ((((((clampQ a).natAbs * (clampQ b).natAbs) / 16777216) + 1) % 18446744073709551616 : Nat) : Int) (mulZ a b) := by unfold mulQ; rw [eM, ← noinc _ hc1]
      have e2 : mulF a b = (both2 a b || signedF (((((clampQ a).natAbs * (clampQ b).natAbs) / 16777216) / 18446744073709551616 : Nat) : Int) ((((((clampQ a).natAbs * (clampQ b).natAbs) / 16777216) + 1) % 18446744073709551616 : Nat) : Int) (mulZ a b)) := by unfold mulF; rw [eM, ← noinc _ hc1]
      refine AW.skip ?_
      refine AW.seq ?_
      refine AW.region (by kernel_rfl) ?_
      refine RunF.q (o_move rfl) rfl ?_
      refine RunF.q (o_move rfl) rfl ?_
      refine RunF.q (o_move rfl) rfl ?_
      refine RunF.q (o_lss rfl rfl) rfl ?_
      refine RunF.q (o_move rfl) rfl ?_
      refine RunF.q (o_lss rfl rfl) rfl ?_
      refine RunF.q (o_neb tk4 rfl rfl) rfl ?_
      refine RunF.q (o_call (no := 0) (nr := 0) rfl rfl rfl (by (repeat' first | exact cl_nil | exact cL_flat rfl | exact cL_flat (ints_flat _) | apply cL_vs | apply cl_cons | exact cv_flat rfl | apply cv_agg | apply cv_ptr_o | apply cv_sl_o rfl | apply cv_func | exact cO_old rfl | (apply cO_new; (focus rfl); (focus rfl)) | (apply cv_sl_r; (focus rfl); (focus rfl); (focus (simp; done)); (focus (first | exact ints_all _ | rfl))) | (apply cv_ptr_r rfl ?_ rfl rfl) | (simp only [List.nil_append, List.cons_append, List.length_cons, List.length_nil, Nat.zero_add, Nat.reduceAdd, List.set_cons_zero, List.set_cons_succ]; rfl) | rfl)) (by rfl) (by exact signed_ok _ _ _ (by omega)) (by rfl) rfl rfl (by first | exact reV_bare _ _ rfl | (simp only [reV, reVs, List.all_cons, List.all_nil, AV.flat, Bool.and_true, Bool.true_and, Bool.false_and, Bool.and_false, Bool.false_eq_true, reduceIte, CS.de, List.getElem?_cons_zero, List.getElem?_cons_succ, List.getElem?_nil, List.length_cons, List.length_nil, Nat.reduceSub, Nat.reduceAdd, Nat.zero_add, Nat.add_zero, Nat.sub_self]; rfl)) rfl) (by rfl) ?_
      refine RunF.q (o_move rfl) rfl ?_
      refine RunF.q (o_extract rfl rfl) rfl ?_
      refine RunF.q (o_extract rfl rfl) rfl ?_
      refine RunF.q (o_assign rfl) rfl ?_
      refine RunF.q (o_assign rfl) rfl ?_
      refine AW.seq ?_
      refine AW.region (by kernel_rfl) ?_
      refine RunF.q (o_move rfl) rfl ?_
      refine RunF.q (o_move rfl) rfl ?_
      refine RunF.q (o_move rfl) rfl ?_
      refine RunF.gm rfl (o_move rfl) ?_
      first | refine RunF.q (o_pick_t rfl rfl) rfl ?_ | refine RunF.q (o_pick_f rfl rfl) rfl ?_ | refine RunF.q (o_pick_b rfl rfl rfl) rfl ?_ | refine RunF.q (o_pick_or rfl rfl rfl) rfl ?_ | refine RunF.q (o_pick_and rfl rfl rfl) rfl ?_
      refine RunF.q (o_assign rfl) rfl ?_
      refine RunF.q (o_assign rfl) rfl ?_
      refine AW.ret ?_
      exact FinQ.ret [] [] (ress_tmp rfl (ress_tmp rfl ress_nil)) rfl .nil .nil (by rw [e1, e2]; exact (by repeat' first | exact RN.self rfl | exact RN.top | exact RN.ptr rfl | exact RN.sl rfl | exact RN.slf rfl | apply RN.agg | apply RN.tuple | apply RN.fn | exact RNs.nil | apply RNs.cons | (apply RNs.flat; simp; done)))
  · try simp only [decide_eq_true_eq, decide_eq_false_iff_not, bne_iff_ne, beq_iff_eq, bne_eq_false_iff_eq, beq_eq_false_iff_ne, ne_eq, Bool.not_eq_true', Bool.not_eq_false'] at hb6_2
    refine RunF.gq rfl (o_move rfl) rfl ?_
    refine RunF.gq rfl (o_eql rfl rfl) rfl ?_
    refine RunF.gb rfl (o_move rfl) rfl (fun hb6_5 => ?_) (fun hb6_5 => ?_)
    · try simp only [decide_eq_true_eq, decide_eq_false_iff_not, bne_iff_ne, beq_iff_eq, bne_eq_false_iff_eq, beq_eq_false_iff_ne, ne_eq, Bool.not_eq_true', Bool.not_eq_false'] at hb6_5
      refine RunF.gq rfl (o_move rfl) rfl ?_
      refine RunF.gq rfl (o_and rfl rfl (mask1 _ (by omega))) rfl ?_
      refine RunF.gq rfl (o_eql rfl rfl) rfl ?_
      refine RunF.gq rfl (o_pick_t rfl rfl) rfl ?_
      refine RunF.q (o_pick_f rfl rfl) rfl ?_
      refine AW.cond rfl (fun hc0 => ?_) (fun hc0 => ?_)
      · try simp only [decide_eq_true_eq, decide_eq_false_iff_not, bne_iff_ne, beq_iff_eq, bne_eq_false_iff_eq, beq_eq_false_iff_ne, ne_eq, Bool.not_eq_true', Bool.not_eq_false'] at hc0
        have eM : mulN2 a b = (((clampQ a).natAbs * (clampQ b).natAbs) / 16777216) + 1 := by unfold mulN2 rnd24; rw [if_pos (by omega)]
        refine AW.seq ?_
        refine AW.region (by kernel_rfl) ?_
        refine RunF.q (o_move rfl) rfl ?_
        refine RunF.q (o_add rfl rfl (inc64 _)) rfl ?_
        refine RunF.q (o_assign rfl) rfl ?_
        refine AW.seq ?_
        refine AW.region (by kernel_rfl) ?_
        refine RunF.q (o_move rfl) rfl ?_
        refine RunF.q (o_eql rfl rfl) rfl ?_
        refine AW.cond rfl (fun hc1 => ?_) (fun hc1 => ?_)
        · try simp only [decide_eq_true_eq, decide_eq_false_iff_not, bne_iff_ne, beq_iff_eq, bne_eq_false_iff_eq, beq_eq_false_iff_ne, ne_eq, Bool.not_eq_true', Bool.not_eq_false'] at hc1
          have e1 : mulQ a b = signedQ ((((((clampQ a).natAbs * (clampQ b).natAbs) / 16777216) + 1) / 18446744073709551616 : Nat) : Int) ((((((clampQ a).natAbs * (clampQ b).natAbs) / 16777216) + 1) % 18446744073709551616 : Nat) : Int) (mulZ a b) := by unfold mulQ; rw [eM]
          have e2 : mulF a b = (both2 a b || signedF ((((((clampQ a).natAbs * (clampQ b).natAbs) / 16777216) + 1) / 18446744073709551616 : Nat) : Int) ((((((clampQ a).natAbs * (clampQ b).natAbs) / 16777216) + 1) % 18446744073709551616 : Nat) : Int) (mulZ a b)) := by unfold mulF; rw [eM]
          refine AW.region (by kernel_rfl) ?_
          refine RunF.q (o_move rfl) rfl ?_
          refine RunF.q (o_add rfl rfl (inc64h _ hc1 hq)) rfl ?_
          refine RunF.q (o_assign rfl) rfl ?_
          refine AW.seq ?_
          refine AW.region (by kernel_rfl) ?_
          refine RunF.q (o_move rfl) rfl ?_
          refine RunF.q (o_move rfl) rfl ?_
          refine RunF.q (o_move rfl) rfl ?_
          refine RunF.q (o_lss rfl rfl) rfl ?_
          refine RunF.q (o_move rfl) rfl ?_
          refine RunF.q (o_lss rfl rfl) rfl ?_
          refine RunF.q (o_neb tk4 rfl rfl) rfl ?_
          refine RunF.q (o_call (no := 0) (nr := 0) rfl rfl rfl (by (repeat' first | exact cl_nil | exact cL_flat rfl | exact cL_flat (ints_flat _) | apply cL_vs | apply cl_cons | exact cv_flat rfl | apply cv_agg | apply cv_ptr_o | apply cv_sl_o rfl | apply cv_func | exact cO_old rfl | (apply cO_new; (focus rfl); (focus rfl)) | (apply cv_sl_r; (focus rfl); (focus rfl); (focus (simp; done)); (focus (first | exact ints_all _ | rfl))) | (apply cv_ptr_r rfl ?_ rfl rfl) | (simp only [List.nil_append, List.cons_append, List.length_cons, List.length_nil, Nat.zero_add, Nat.reduceAdd, List.set_cons_zero, List.set_cons_succ]; rfl) | rfl)) (by rfl) (by exact signed_ok _ _ _ (by omega)) (by rfl) rfl rfl (by first | exact reV_bare _ _ rfl | (simp only [reV, reVs, List.all_cons, List.all_nil, AV.flat, Bool.and_true, Bool.true_and, Bool.false_and, Bool.and_false, Bool.false_eq_true, reduceIte, CS.de, List.getElem?_cons_zero, List.getElem?_cons_succ, List.getElem?_nil, List.length_cons, List.length_nil, Nat.reduceSub, Nat.reduceAdd, Nat.zero_add, Nat.add_zero, Nat.sub_self]; rfl)) rfl) (by rfl) ?_
          refine RunF.q (o_move rfl) rfl ?_
          refine RunF.q (o_extract rfl rfl) rfl ?_
          refine RunF.q (o_extract rfl rfl) rfl ?_
          refine RunF.q (o_assign rfl) rfl ?_
          refine RunF.q (o_assign rfl) rfl ?_
          refine AW.seq ?_
          refine AW.region (by kernel_rfl) ?_
          refine RunF.q (o_move rfl) rfl ?_
          refine RunF.q (o_move rfl) rfl ?_
          refine RunF.q (o_move rfl) rfl ?_
          refine RunF.gm rfl (o_move rfl) ?_
          first | refine RunF.q (o_pick_t rfl rfl) rfl ?_ | refine RunF.q (o_pick_f rfl rfl) rfl ?_ | refine RunF.q (o_pick_b rfl rfl rfl) rfl ?_ | refine RunF.q (o_pick_or rfl rfl rfl) rfl ?_ | refine RunF.q (o_pick_and rfl rfl rfl) rfl ?_
          refine RunF.q (o_assign rfl) rfl ?_
          refine RunF.q (o_assign rfl) rfl ?_
          refine AW.ret ?_
          exact FinQ.ret [] [] (ress_tmp rfl (ress_tmp rfl ress_nil)) rfl .nil .nil (by rw [e1, e2]; exact (by repeat' first | exact RN.self rfl | exact RN.top | exact RN.ptr rfl | exact RN.sl rfl | exact RN.slf rfl | apply RN.agg | apply RN.tuple | apply RN.fn | exact RNs.nil | apply RNs.cons | (apply RNs.flat; simp; done)))
        · try simp only [decide_eq_true_eq, decide_eq_false_iff_not, bne_iff_ne, beq_iff_eq, bne_eq_false_iff_eq, beq_eq_false_iff_ne, ne_eq, Bool.not_eq_true', Bool.not_eq_false'] at hc1
          have e1 : mulQ a b = signedQ (((((clampQ a).natAbs * (clampQ b).natAbs) / 16777216) / 18446744073709551616 : Nat) : Int) ((((((clampQ a).natAbs * (clampQ b).natAbs) / 16777216) + 1) % 18446744073709551616 : Nat) : Int) (mulZ a b) := by unfold mulQ; rw [eM, ← noinc _ hc1]
          have e2 : mulF a b = (both2 a b || signedF (((((clampQ a).natAbs * (clampQ b).natAbs) / 16777216) / 18446744073709551616 : Nat) : Int) ((((((clampQ a).natAbs * (clampQ b).natAbs) / 16777216) + 1) % 18446744073709551616 : Nat) : Int) (mulZ a b)) := by unfold mulF; rw [eM, ← noinc _ hc1]
          refine AW.skip ?_
          refine AW.seq ?_
          refine AW.region (by kernel_rfl) ?_
          refine RunF.q (o_move rfl) rfl ?_
          refine RunF.q (o_move rfl) rfl ?_
          refine RunF.q (o_move rfl) rfl ?_
          refine RunF.q (o_lss rfl rfl) rfl ?_
          refine RunF.q (o_move rfl) rfl ?_
          refine RunF.q (o_lss rfl rfl) rfl ?_
          refine RunF.q (o_neb tk4 rfl rfl) rfl ?_
          refine RunF.q (o_call (no := 0) (nr := 0) rfl rfl rfl (by (repeat' first | exact cl_nil | exact cL_flat rfl | exact cL_flat (ints_flat _) | apply cL_vs | apply cl_cons | exact cv_flat rfl | apply cv_agg | apply cv_ptr_o | apply cv_sl_o rfl | apply cv_func | exact cO_old rfl | (apply cO_new; (focus rfl); (focus rfl)) | (apply cv_sl_r; (focus rfl); (focus rfl); (focus (simp; done)); (focus (first | exact ints_all _ | rfl))) | (apply cv_ptr_r rfl ?_ rfl rfl) | (simp only [List.nil_append, List.cons_append, List.length_cons, List.length_nil, Nat.zero_add, Nat.reduceAdd, List.set_cons_zero, List.set_cons_succ]; rfl) | rfl)) (by rfl) (by exact signed_ok _ _ _ (by omega)) (by rfl) rfl rfl (by first | exact reV_bare _ _ rfl | (simp only [reV, reVs, List.all_cons, List.all_nil, AV.flat, Bool.and_true, Bool.true_and, Bool.false_and, Bool.and_false, Bool.false_eq_true, reduceIte, CS.de, List.getElem?_cons_zero, List.getElem?_cons_succ, List.getElem?_nil, List.length_cons, List.length_nil, Nat.reduceSub, Nat.reduceAdd, Nat.zero_add, Nat.add_zero, Nat.sub_self]; rfl)) rfl) (by rfl) ?_
          refine RunF.q (o_move rfl) rfl ?_
          refine RunF.q (o_extract rfl rfl) rfl ?_
          refine RunF.q (o_extract rfl rfl) rfl ?_
          refine RunF.q (o_assign rfl) rfl ?_
          refine RunF.q (o_assign rfl) rfl ?_
          refine AW.seq ?_
          refine AW.region (by kernel_rfl) ?_
          refine RunF.q (o_move rfl) rfl ?_
          refine RunF.q (o_move rfl) rfl ?_
          refine RunF.q (o_move rfl) rfl ?_
          refine RunF.gm rfl (o_move rfl) ?_
          first | refine RunF.q (o_pick_t rfl rfl) rfl ?_ | refine RunF.q (o_pick_f rfl rfl) rfl ?_ | refine RunF.q (o_pick_b rfl rfl rfl) rfl ?_ | refine RunF.q (o_pick_or rfl rfl rfl) rfl ?_ | refine RunF.q (o_pick_and rfl rfl rfl) rfl ?_
          refine RunF.q (o_assign rfl) rfl ?_
          refine RunF.q (o_assign rfl) rfl ?_
          refine AW.ret ?_
          exact FinQ.ret [] [] (ress_tmp rfl (ress_tmp rfl ress_nil)) rfl .nil .nil (by rw [e1, e2]; exact (by repeat' first | exact RN.self rfl | exact RN.top | exact RN.ptr rfl | exact RN.sl rfl | exact RN.slf rfl | apply RN.agg | apply RN.tuple | apply RN.fn | exact RNs.nil | apply RNs.cons | (apply RNs.flat; simp; done)))
      · try simp only [decide_eq_true_eq, decide_eq_false_iff_not, bne_iff_ne, beq_iff_eq, bne_eq_false_iff_eq, beq_eq_false_iff_ne, ne_eq, Bool.not_eq_true', Bool.not_eq_false'] at hc0
        have eM : mulN2 a b = (((clampQ a).natAbs * (clampQ b).natAbs) / 16777216) := by unfold mulN2 rnd24; rw [if_neg (by omega)]
        have e1 : mulQ a b = signedQ (((((clampQ a).natAbs * (clampQ b).natAbs) / 16777216) / 18446744073709551616 : Nat) : Int) (((((clampQ a).natAbs * (clampQ b).natAbs) / 16777216) % 18446744073709551616 : Nat) : Int) (mulZ a b) := by unfold mulQ; rw [eM]
        have e2 : mulF a b = (both2 a b || signedF (((((clampQ a).natAbs * (clampQ b).natAbs) / 16777216) / 18446744073709551616 : Nat) : Int) (((((clampQ a).natAbs * (clampQ b).natAbs) / 16777216) % 18446744073709551616 : Nat) : Int) (mulZ a b)) := by unfold mulF; rw [eM]
        refine AW.skip ?_
        refine AW.seq ?_
        refine AW.region (by kernel_rfl) ?_
        refine RunF.q (o_move rfl) rfl ?_
        refine RunF.q (o_move rfl) rfl ?_
        refine RunF.q (o_move rfl) rfl ?_
        refine RunF.q (o_lss rfl rfl) rfl ?_
        refine RunF.q (o_move rfl) rfl ?_
        refine RunF.q (o_lss rfl rfl) rfl ?_
        refine RunF.q (o_neb tk4 rfl rfl) rfl ?_
        refine RunF.q (o_call (no := 0) (nr := 0) rfl rfl rfl (by (repeat' first | exact cl_nil | exact cL_flat rfl | exact cL_flat (ints_flat _) | apply cL_vs | apply cl_cons | exact cv_flat rfl | apply cv_agg | apply cv_ptr_o | apply cv_sl_o rfl | apply cv_func | exact cO_old rfl | (apply cO_new; (focus rfl); (focus rfl)) | (apply cv_sl_r; (focus rfl); (focus rfl); (focus (simp; done)); (focus (first | exact ints_all _ | rfl))) | (apply cv_ptr_r rfl ?_ rfl rfl) | (simp only [List.nil_append, List.cons_append, List.length_cons, List.length_nil, Nat.zero_add, Nat.reduceAdd, List.set_cons_zero, List.set_cons_succ]; rfl) | rfl)) (by rfl) (by exact signed_ok _ _ _ (by omega)) (by rfl) rfl rfl (by first | exact reV_bare _ _ rfl | (simp only [reV, reVs, List.all_cons, List.all_nil, AV.flat, Bool.and_true, Bool.true_and, Bool.false_and, Bool.and_false, Bool.false_eq_true, reduceIte, CS.de, List.getElem?_cons_zero, List.getElem?_cons_succ, List.getElem?_nil, List.length_cons, List.length_nil, Nat.reduceSub, Nat.reduceAdd, Nat.zero_add, Nat.add_zero, Nat.sub_self]; rfl)) rfl) (by rfl) ?_
        refine RunF.q (o_move rfl) rfl ?_
        refine RunF.q (o_extract rfl rfl) rfl ?_
        refine RunF.q (o_extract rfl rfl) rfl ?_
        refine RunF.q (o_assign rfl) rfl ?_
        refine RunF.q (o_assign rfl) rfl ?_
        refine AW.seq ?_
        refine AW.region (by kernel_rfl) ?_
        refine RunF.q (o_move rfl) rfl ?_
        refine RunF.q (o_move rfl) rfl ?_
        refine RunF.q (o_move rfl) rfl ?_
        refine RunF.gm rfl (o_move rfl) ?_
        first | refine RunF.q (o_pick_t rfl rfl) rfl ?_ | refine RunF.q (o_pick_f rfl rfl) rfl ?_ | refine RunF.q (o_pick_b rfl rfl rfl) rfl ?_ | refine RunF.q (o_pick_or rfl rfl rfl) rfl ?_ | refine RunF.q (o_pick_and rfl rfl rfl) rfl ?_
        refine RunF.q (o_assign rfl) rfl ?_
        refine RunF.q (o_assign rfl) rfl ?_
        refine AW.ret ?_
        exact FinQ.ret [] [] (ress_tmp rfl (ress_tmp rfl ress_nil)) rfl .nil .nil (by rw [e1, e2]; exact (by repeat' first | exact RN.self rfl | exact RN.top | exact RN.ptr rfl | exact RN.sl rfl | exact RN.slf rfl | apply RN.agg | apply RN.tuple | apply RN.fn | exact RNs.nil | apply RNs.cons | (apply RNs.flat; simp; done)))
    · try simp only [decide_eq_true_eq, decide_eq_false_iff_not, bne_iff_ne, beq_iff_eq, bne_eq_false_iff_eq, beq_eq_false_iff_ne, ne_eq, Bool.not_eq_true', Bool.not_eq_false'] at hb6_5
      refine RunF.gs (b := false) rfl rfl ?_
      refine RunF.gs (b := false) rfl rfl ?_
      refine RunF.gs (b := false) rfl rfl ?_
      refine RunF.gq rfl (o_pick_f rfl rfl) rfl ?_
      refine RunF.q (o_pick_f rfl rfl) rfl ?_
      refine AW.cond rfl (fun hc0 => absurd hc0 (by simp)) (fun hc0 => ?_)
      have eM : mulN2 a b = (((clampQ a).natAbs * (clampQ b).natAbs) / 16777216) := by unfold mulN2 rnd24; rw [if_neg (by omega)]
      have e1 : mulQ a b = signedQ (((((clampQ a).natAbs * (clampQ b).natAbs) / 16777216) / 18446744073709551616 : Nat) : Int) (((((clampQ a).natAbs * (clampQ b).natAbs) / 16777216) % 18446744073709551616 : Nat) : Int) (mulZ a b) := by unfold mulQ; rw [eM]
      have e2 : mulF a b = (both2 a b || signedF (((((clampQ a).natAbs * (clampQ b).natAbs) / 16777216) / 18446744073709551616 : Nat) : Int) (((((clampQ a).natAbs * (clampQ b).natAbs) / 16777216) % 18446744073709551616 : Nat) : Int) (mulZ a b)) := by unfold mulF; rw [eM]
      refine AW.skip ?_
      refine AW.seq ?_
      refine AW.region (by kernel_rfl) ?_
      refine RunF.q (o_move rfl) rfl ?_
      refine RunF.q (o_move rfl) rfl ?_
      refine RunF.q (o_move rfl) rfl ?_
      refine RunF.q (o_lss rfl rfl) rfl ?_
      refine RunF.q (o_move rfl) rfl ?_
      refine RunF.q (o_lss rfl rfl) rfl ?_
      refine RunF.q (o_neb tk4 rfl rfl) rfl ?_
      refine RunF.q (o_call (no := 0) (nr := 0) rfl rfl rfl (by (repeat' first | exact cl_nil | exact cL_flat rfl | exact cL_flat (ints_flat _) | apply cL_vs | apply cl_cons | exact cv_flat rfl | apply cv_agg | apply cv_ptr_o | apply cv_sl_o rfl | apply cv_func | exact cO_old rfl | (apply cO_new; (focus rfl); (focus rfl)) | (apply cv_sl_r; (focus rfl); (focus rfl); (focus (simp; done)); (focus (first | exact ints_all _ | rfl))) | (apply cv_ptr_r rfl ?_ rfl rfl) | (simp only [List.nil_append, List.cons_append, List.length_cons, List.length_nil, Nat.zero_add, Nat.reduceAdd, List.set_cons_zero, List.set_cons_succ]; rfl) | rfl)) (by rfl) (by exact signed_ok _ _ _ (by omega)) (by rfl) rfl rfl (by first | exact reV_bare _ _ rfl | (simp only [reV, reVs, List.all_cons, List.all_nil, AV.flat, Bool.and_true, Bool.true_and, Bool.false_and, Bool.and_false, Bool.false_eq_true, reduceIte, CS.de, List.getElem?_cons_zero, List.getElem?_cons_succ, List.getElem?_nil, List.length_cons, List.length_nil, Nat.reduceSub, Nat.reduceAdd, Nat.zero_add, Nat.add_zero, Nat.sub_self]; rfl)) rfl) (by rfl) ?_
      refine RunF.q (o_move rfl) rfl ?_
      refine RunF.q (o_extract rfl rfl) rfl ?_
      refine RunF.q (o_extract rfl rfl) rfl ?_
      refine RunF.q (o_assign rfl) rfl ?_
      refine RunF.q (o_assign rfl) rfl ?_
      refine AW.seq ?_
      refine AW.region (by kernel_rfl) ?_
      refine RunF.q (o_move rfl) rfl ?_
      refine RunF.q (o_move rfl) rfl ?_
      refine RunF.q (o_move rfl) rfl ?_
      refine RunF.gm rfl (o_move rfl) ?_
      first | refine RunF.q (o_pick_t rfl rfl) rfl ?_ | refine RunF.q (o_pick_f rfl rfl) rfl ?_ | refine RunF.q (o_pick_b rfl rfl rfl) rfl ?_ | refine RunF.q (o_pick_or rfl rfl rfl) rfl ?_ | refine RunF.q (o_pick_and rfl rfl rfl) rfl ?_
      refine RunF.q (o_assign rfl) rfl ?_
      refine RunF.q (o_assign rfl) rfl ?_
      refine AW.ret ?_
      exact FinQ.ret [] [] (ress_tmp rfl (ress_tmp rfl ress_nil)) rfl .nil .nil (by rw [e1, e2]; exact (by repeat' first | exact RN.self rfl | exact RN.top | exact RN.ptr rfl | exact RN.sl rfl | exact RN.slf rfl | apply RN.agg | apply RN.tuple | apply RN.fn | exact RNs.nil | apply RNs.cons | (apply RNs.flat; simp; done)))

end Go.Proofs.Ytnkijhpikeokfaa
