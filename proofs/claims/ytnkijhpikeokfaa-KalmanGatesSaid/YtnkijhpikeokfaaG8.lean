/- The texts F27, F28, F29, F30. -/
import Derived.Test.YtnkijhpikeokfaaG7
import Derived.Shelf.Small.Bits
import Derived.Test.YtnkijhpikeokfaaG5
set_option linter.unusedSimpArgs false
set_option linter.unusedVariables false
/- What is measured of a number alone: plain law. -/
namespace Go.Proofs.Ytnkijhpikeokfaa
open Go Go.Sym Go.IntWalk
namespace Shr

theorem rnd_le (n : Nat) : 2 * (16777216 * rnd24 n) ≤ 2 * n + 16777216 := by unfold rnd24; split <;> omega
theorem rnd_bound {n m : Nat} (h : n ≤ 16777216 * m) : rnd24 n ≤ m := by unfold rnd24; split <;> omega
theorem clamp_id {x : Int} (h : inQ x) : clampQ x = x := by unfold inQ at h; unfold clampQ; omega
theorem inQ_of (x : Int) (h1 : -70368744177664 ≤ x) (h2 : x ≤ 70368744177663) : inQ x := by unfold inQ; omega
theorem add_id {x y : Int} (hx : inQ x) (hy : inQ y) (h : inQ (x + y)) : addQ x y = x + y := by unfold addQ; rw [clamp_id hx, clamp_id hy, clamp_id h]
theorem sub_id {x y : Int} (hx : inQ x) (hy : inQ y) (h : inQ (x - y)) : subQ x y = x - y := by unfold subQ; rw [clamp_id hx, clamp_id hy, clamp_id h]
theorem signed_id {n : Nat} (z : Bool) (h : n ≤ 70368744177663) : signedQ ((n / 18446744073709551616 : Nat) : Int) ((n % 18446744073709551616 : Nat) : Int) z = if z then - (n : Int) else n := by
  have e1 : n / 18446744073709551616 = 0 := by omega
  have e2 : n % 18446744073709551616 = n := by omega
  rw [e1, e2]
  unfold signedQ
  rw [if_neg (by omega)]
  cases z
  · exact clamp_id (inQ_of _ (by simp; try omega) (by simp; try omega))
  · simp only [if_true]
    rw [clamp_id (inQ_of _ (by omega) (by omega))]; try omega
theorem mul_nat {x y : Nat} (hx : x ≤ 70368744177663) (hy : y ≤ 70368744177663) (h : rnd24 (x * y) ≤ 70368744177663) : mulQ x y = (rnd24 (x * y) : Nat) := by
  have ex : clampQ (x : Int) = x := clamp_id (inQ_of _ (by omega) (by omega))
  have ey : clampQ (y : Int) = y := clamp_id (inQ_of _ (by omega) (by omega))
  have ez : mulZ (x : Int) (y : Int) = false := by unfold mulZ; rw [ex, ey, decide_eq_false (by omega), decide_eq_false (by omega)]; rfl
  have en : mulN2 (x : Int) (y : Int) = rnd24 (x * y) := by unfold mulN2; rw [ex, ey]; rfl
  unfold mulQ; rw [en, ez, signed_id _ h]; rfl
theorem mul_neg {x y : Nat} (hx : x ≤ 70368744177663) (hy : y ≤ 70368744177663) (h : rnd24 (x * y) ≤ 70368744177663) : ∃ m : Nat, m ≤ rnd24 (x * y) ∧ mulQ x (-(y : Int)) = -(m : Int) := by
  have ex : clampQ (x : Int) = x := clamp_id (inQ_of _ (by omega) (by omega))
  have ey : clampQ (-(y : Int)) = -(y : Int) := clamp_id (inQ_of _ (by omega) (by omega))
  have en : mulN2 (x : Int) (-(y : Int)) = rnd24 (x * y) := by unfold mulN2; rw [ex, ey, Int.natAbs_neg]; rfl
  by_cases h0 : y = 0
  · subst h0
    refine ⟨0, Nat.zero_le _, ?_⟩
    have h1 := mul_nat hx (Nat.zero_le _) h
    have e : (-((0 : Nat) : Int)) = ((0 : Nat) : Int) := rfl
    rw [e, h1, Nat.mul_zero]; rfl
  · have ez : mulZ (x : Int) (-(y : Int)) = true := by unfold mulZ; rw [ex, ey, decide_eq_false (by omega), decide_eq_true (by omega)]; rfl
    refine ⟨_, Nat.le_refl _, ?_⟩
    unfold mulQ; rw [en, ez, signed_id _ h]; rfl

/-- the gain of a number alone -/
theorem gain1 {v s : Nat} (hv : v ≤ 4294967296) (hs : s ≤ 4294967296) (hvs : v ≤ s) (hs0 : 0 < s) (hb : v = 0 ∨ s ≤ 2 * (v * 16777216)) :
    ∃ k : Nat, divQ v s = k ∧ k ≤ 16777216 ∧ k * s ≤ 2 * (v * 16777216) := by
  have ev : clampQ (v : Int) = v := clamp_id (inQ_of _ (by omega) (by omega))
  have es : clampQ (s : Int) = s := clamp_id (inQ_of _ (by omega) (by omega))
  have hd := Nat.div_add_mod (v * 16777216) s
  have hm := Nat.mod_lt (v * 16777216) hs0
  generalize hq : v * 16777216 / s = q at *
  generalize hr : v * 16777216 % s = r at *
  have hk : ∃ k : Nat, rq q r s = (k : Int) ∧ k ≤ 16777216 ∧ k * s ≤ 2 * (v * 16777216) := by
    have h1 : s * q ≤ s * 16777216 := by
      have : v * 16777216 ≤ s * 16777216 := Nat.mul_le_mul_right _ hvs
      omega
    have h2 : q ≤ 16777216 := Nat.le_of_mul_le_mul_left h1 hs0
    unfold rq
    split
    · rename_i hc
      refine ⟨q + 1, rfl, ?_, ?_⟩
      · by_cases h3 : q = 16777216
        · subst h3
          have : v * 16777216 ≤ s * 16777216 := Nat.mul_le_mul_right _ hvs
          omega
        · omega
      · have e : (q + 1) * s = s * q + s := by rw [Nat.add_mul, Nat.one_mul, Nat.mul_comm]
        rw [e]
        omega
    · refine ⟨q, rfl, h2, ?_⟩
      rw [Nat.mul_comm]; omega
  obtain ⟨k, h1, h2, h3⟩ := hk
  refine ⟨k, ?_, h2, h3⟩
  unfold divQ
  rw [ev, es]
  show signedQ 0 (rq (v * 16777216 / s) (v * 16777216 % s) s) (decide ((v : Int) < 0) != decide ((s : Int) < 0)) = _
  rw [hq, hr, h1, decide_eq_false (by omega), decide_eq_false (by omega)]
  have := signed_id (n := k) false (by omega)
  rw [show k / 18446744073709551616 = 0 from by omega, show k % 18446744073709551616 = k from by omega] at this
  exact this

theorem vary (O i k v r s m1 m2 m3 m4 : Int) (hO : 0 < O) (hk0 : 0 ≤ k) (hk : k ≤ O) (hi : i = O - k) (hs : s = v + r) (h5 : k * s ≤ 2 * (v * O))
  (h1 : 2 * (O * m1) ≤ 2 * (i * v) + O) (h2 : 2 * (O * m2) ≤ 2 * (m1 * i) + O) (h3 : 2 * (O * m3) ≤ 2 * (k * r) + O) (h4 : 2 * (O * m4) ≤ 2 * (m3 * k) + O) : m2 + m4 ≤ v + 2 := by
  have hi0 : 0 ≤ i := by omega
  have a1 : 2 * (O * m1) * i ≤ (2 * (i * v) + O) * i := Int.mul_le_mul_of_nonneg_right h1 hi0
  have a2 : 2 * (O * m2) * O ≤ (2 * (m1 * i) + O) * O := Int.mul_le_mul_of_nonneg_right h2 (by omega)
  have a3 : 2 * (O * m3) * k ≤ (2 * (k * r) + O) * k := Int.mul_le_mul_of_nonneg_right h3 hk0
  have a4 : 2 * (O * m4) * O ≤ (2 * (m3 * k) + O) * O := Int.mul_le_mul_of_nonneg_right h4 (by omega)
  have a5 : k * s * k ≤ 2 * (v * O) * k := Int.mul_le_mul_of_nonneg_right h5 hk0
  have a6 : O * i ≤ O * O := Int.mul_le_mul_of_nonneg_left (by omega) (by omega)
  have a7 : O * k ≤ O * O := Int.mul_le_mul_of_nonneg_left (by omega) (by omega)
  have key : (m2 + m4) * (O * O) ≤ (v + 2) * (O * O) := by
    subst hi hs
    grind
  exact Int.le_of_mul_le_mul_right key (Int.mul_pos hO hO)

theorem bound_nat {x y c d : Nat} (hx : x ≤ c) (hy : y ≤ d) (h : c * d ≤ 16777216 * 70368744177663) : rnd24 (x * y) ≤ 70368744177663 := rnd_bound (Nat.le_trans (Nat.mul_le_mul hx hy) h)
/-- how it varies then -/
theorem varied {k v r : Nat} (hv : v ≤ 4294967296) (hr : r ≤ 4294967296) (hk : k ≤ 16777216) (hs : k * (v + r) ≤ 2 * (v * 16777216)) :
    ∃ m : Nat, addQ (mulQ (mulQ (subQ 16777216 k) v) (subQ 16777216 k)) (mulQ (mulQ k r) k) = m ∧ m ≤ v + 2 := by
  have ei : subQ 16777216 k = ((16777216 - k : Nat) : Int) := by
    rw [sub_id (inQ_of _ (by omega) (by omega)) (inQ_of _ (by omega) (by omega)) (inQ_of _ (by omega) (by omega))]; omega
  have hi : 16777216 - k ≤ 16777216 := by omega
  have b1 : rnd24 ((16777216 - k) * v) ≤ 4294967296 := rnd_bound (Nat.mul_le_mul hi hv)
  have b2 : rnd24 (rnd24 ((16777216 - k) * v) * (16777216 - k)) ≤ 4294967296 := rnd_bound (by have := Nat.mul_le_mul b1 hi; omega)
  have b3 : rnd24 (k * r) ≤ 4294967296 := rnd_bound (Nat.mul_le_mul hk hr)
  have b4 : rnd24 (rnd24 (k * r) * k) ≤ 4294967296 := rnd_bound (by have := Nat.mul_le_mul b3 hk; omega)
  rw [ei, mul_nat (by omega) (by omega) (by omega), mul_nat (by omega) (by omega) (by omega), mul_nat (x := k) (by omega) (by omega) (by omega), mul_nat (by omega) (by omega) (by omega)]
  have r1 := rnd_le ((16777216 - k) * v)
  have r2 := rnd_le (rnd24 ((16777216 - k) * v) * (16777216 - k))
  have r3 := rnd_le (k * r)
  have r4 := rnd_le (rnd24 (k * r) * k)
  generalize rnd24 (rnd24 ((16777216 - k) * v) * (16777216 - k)) = m2 at *
  generalize rnd24 (rnd24 (k * r) * k) = m4 at *
  generalize rnd24 ((16777216 - k) * v) = m1 at *
  generalize rnd24 (k * r) = m3 at *
  refine ⟨m2 + m4, ?_, ?_⟩
  · have := add_id (inQ_of (m2 : Int) (by omega) (by omega)) (inQ_of (m4 : Int) (by omega) (by omega)) (inQ_of _ (by omega) (by omega))
    rw [this]; omega
  · have := vary 16777216 ((16777216 - k : Nat) : Int) k v r ((v + r : Nat) : Int) m1 m2 m3 m4 (by decide) (by omega) (by omega) (by omega) (by omega) (by omega) (by omega) (by omega) (by omega) (by omega)
    omega
/-- where it comes to lie -/
theorem between {k : Nat} {a b : Int} (ha : 0 ≤ a) (ha2 : a ≤ 17179869184) (hb : 0 ≤ b) (hb2 : b ≤ 17179869184) (hk : k ≤ 16777216) : min a b ≤ addQ a (mulQ k (subQ b a)) ∧ addQ a (mulQ k (subQ b a)) ≤ max a b := by
  have ey : subQ b a = b - a := sub_id (inQ_of _ (by omega) (by omega)) (inQ_of _ (by omega) (by omega)) (inQ_of _ (by omega) (by omega))
  have fin : ∀ m : Int, -17179869184 ≤ m → m ≤ 17179869184 → addQ a m = a + m := fun m h1 h2 => add_id (inQ_of _ (by omega) (by omega)) (inQ_of _ (by omega) (by omega)) (inQ_of _ (by omega) (by omega))
  rw [ey]
  by_cases h : a ≤ b
  · obtain ⟨y, hy⟩ : ∃ y : Nat, b - a = y := ⟨(b - a).toNat, by omega⟩
    have b1 : rnd24 (k * y) ≤ y := rnd_bound (Nat.mul_le_mul_right _ hk)
    rw [hy, mul_nat (by omega) (by omega) (by omega), fin _ (by omega) (by omega)]
    omega
  · obtain ⟨y, hy⟩ : ∃ y : Nat, b - a = -(y : Int) := ⟨(a - b).toNat, by omega⟩
    have b1 : rnd24 (k * y) ≤ y := rnd_bound (Nat.mul_le_mul_right _ hk)
    obtain ⟨m, h1, h2⟩ := mul_neg (x := k) (y := y) (by omega) (by omega) (by omega)
    rw [hy, h2, fin _ (by omega) (by omega)]
    omega
end Shr

end Go.Proofs.Ytnkijhpikeokfaa

/- What is measured of a number alone: the program's contracts. -/
namespace Go.Proofs.Ytnkijhpikeokfaa
open Go Go.Sym Go.IntWalk
namespace Shr

theorem inQ_clamp (a : Int) : inQ (clampQ a) := by have := clampQ_in a; unfold inQ; omega
theorem inQ_mul (a b : Int) : inQ (mulQ a b) := by unfold mulQ signedQ; split <;> exact inQ_clamp _
theorem zero_add {w : Int} (h : inQ w) : addQ 0 w = w := by rw [add_id inQ_zero' h (by rw [Int.zero_add]; exact h), Int.zero_add]
theorem mul1 (x y : Int) : mulL [x] [y] 1 1 1 = [mulQ x y] := by
  show [addQ 0 (mulQ x y)] = _
  rw [zero_add (inQ_mul _ _)]
theorem one_eye : [(16777216 : Int)] = eyeL 1 := by kernel_rfl
theorem tr1 (x : Int) : trL [x] 1 1 = [x] := rfl
theorem all1 {x : Int} (h : inQ x) : ∀ v ∈ [x], inQ v := by intro v hv; simp at hv; rw [hv]; exact h
theorem mulOne {x : Int} (h : inQ x) : mulL [x] [16777216] 1 1 1 = [x] := by rw [one_eye]; exact mulL_eye (r := 1) (m := 1) rfl (all1 h)
theorem oneMul {x : Int} (h : inQ x) : mulL [16777216] [x] 1 1 1 = [x] := by rw [one_eye]; exact mulL_eye_left (n := 1) (c := 1) rfl (all1 h)
theorem gain0_1 {v : Int} (h : inQ v) : gain0 [v] [16777216] 1 = [v] := by unfold gain0; rw [tr1]; exact mulOne h
theorem offY_1 {a : Int} (h : inQ a) (z : Int) : offY [16777216] [a] 1 z = subQ z a := by unfold offY; rw [oneMul h]; rfl
theorem offS_1 {v : Int} (h : inQ v) (r : Int) : offS [16777216] [v] 1 r = addQ v r := by unfold offS betL; rw [oneMul h, tr1, mulOne h]; rfl
theorem gain_1 {v : Int} (h : inQ v) (D : Int → Int × Bool) : gain [v] [16777216] 1 D = [(D v).1] := by unfold gain; rw [gain0_1 h]; rfl
theorem takeX_1 (a k y : Int) : takeX [a] [k] y 1 = [addQ a (mulQ k y)] := rfl
theorem good_1 {q : Int} (h : 0 ≤ q) : goodL [q] 1 = [q] := goodL_of (n := 1) rfl (fun i k hi hk => by
  obtain rfl : i = 0 := by omega
  obtain rfl : k = 0 := by omega
  rfl) fun i hi => by
  obtain rfl : i = 0 := by omega
  exact h
theorem takeI_1 {k : Int} (h : inQ k) : takeI [k] [16777216] 1 = [subQ 16777216 k] := by unfold takeI; rw [mulOne h]; rfl
theorem takeP_1 {v r k : Int} (h : inQ k) (hq : 0 ≤ addQ (mulQ (mulQ (subQ 16777216 k) v) (subQ 16777216 k)) (mulQ (mulQ k r) k)) :
    takeP [k] [16777216] [v] r 1 = [addQ (mulQ (mulQ (subQ 16777216 k) v) (subQ 16777216 k)) (mulQ (mulQ k r) k)] := by
  have e : takeQ [k] [16777216] [v] r 1 = [addQ (mulQ (mulQ (subQ 16777216 k) v) (subQ 16777216 k)) (mulQ (mulQ k r) k)] := by
    unfold takeQ takeR betL
    rw [takeI_1 h, mul1, tr1, mul1, show scaleL [k] r 1 1 = [mulQ k r] from rfl, tr1, mul1]; rfl
  unfold takeP
  rw [e, good_1 hq]
theorem right_1 {a v : Int} (ha : inQ a) (hv : inQ v) (h0 : 0 ≤ v) : rightT 1 1 [a] 1 1 [v] = true := by
  refine rightT_yes ⟨?_, ?_, rfl, rfl, rfl, ?_, ?_⟩
  · exact rightM_of (r := 1) (c := 1) (by decide) (by decide) (by decide) (by decide) rfl (all1 ha)
  · exact rightM_of (r := 1) (c := 1) (by decide) (by decide) (by decide) (by decide) rfl (all1 hv)
  · show ∀ i k, i < 1 → k < 1 → [v].getD (i * 1 + k) 0 = [v].getD (k * 1 + i) 0
    intro i k hi hk
    obtain rfl : i = 0 := by omega
    obtain rfl : k = 0 := by omega
    rfl
  · show ∀ i, i < 1 → 0 ≤ [v].getD (i * 1 + i) 0
    intro i hi
    obtain rfl : i = 0 := by omega
    exact h0
theorem diag_1 (v : Int) : diagL [v] = [v] := by simp [diagL, tab, List.range, List.range.loop]
/-- where it comes to lie, and how it varies then: what is said of them -/
theorem taken_1 {a b v r : Nat} (ha : a ≤ 17179869184) (hb : b ≤ 17179869184) (hv : v ≤ 2147483648) (hr : r ≤ 2147483648) (hr0 : 0 < r) (hs : v = 0 ∨ v + r ≤ 2 * (v * 16777216)) :
    ∃ n m : Int, ∃ k : Nat, divQ v (v + r : Nat) = k ∧ takeX [(a : Int)] [(k : Int)] (subQ b a) 1 = [n] ∧ takeP [(k : Int)] [16777216] [(v : Int)] r 1 = [m] ∧ min (a : Int) b ≤ n ∧ n ≤ max (a : Int) b ∧ m ≤ v + 2 := by
  obtain ⟨k, h1, h2, h3⟩ := gain1 (v := v) (s := v + r) (by omega) (by omega) (by omega) (by omega) hs
  obtain ⟨m, h4, h5⟩ := varied (k := k) (v := v) (r := r) (by omega) (by omega) h2 h3
  obtain ⟨h6, h7⟩ := between (k := k) (a := a) (b := b) (by omega) (by omega) (by omega) (by omega) h2
  refine ⟨_, (m : Int), k, h1, takeX_1 _ _ _, ?_, h6, h7, by omega⟩
  rw [takeP_1 (inQ_of _ (by omega) (by omega)) (by rw [h4]; omega), h4]

theorem o_remN {P : Program} {fs : Fs} {h : H} {t u : TypeId} {x y : Operand} {k : IntKind} {a b : Nat} (hx : evO fs x = some (.int k (a : Int))) (hy : evO fs y = some (.int k (b : Int))) (h0 : b ≠ 0) : OpV P fs h (.binOp .rem t x y u) (.int k ((a % b : Nat) : Int)) {} := by
  have := o_rem (P := P) (h := h) (t := t) (u := u) hx hy (by omega)
  rw [remN] at this
  exact this
theorem mulI (a b : Nat) (h : a * b < 9223372036854775808) : IntKind.i64.wrap ((a : Int) * (b : Int)) = ((a * b : Nat) : Int) := by
  rw [i64_in _ (by rw [← Int.natCast_mul]; omega), Int.natCast_mul]
end Shr


theorem shr_new (a v : Nat) (ha : a ≤ 17179869184) (hv : v ≤ 2147483648) : SoundC Try.prog 36 [.sl (.r 0) 0 1 1 true, .sl (.r 1) 0 1 1 true] ⟨[ints [(a : Int)], ints [(v : Int)]], []⟩ { val := .tuple [.agg [.int .i64 1, .int .i64 1, .sl (.o 0) 0 1 1 false, .int .i64 1, .int .i64 1, .sl (.o 1) 0 1 1 false], .int .i64 0], newo := [ints [(a : Int)], ints [(v : Int)]] } := by
  have qa := Shr.inQ_of (a : Int) (by omega) (by omega)
  have qv := Shr.inQ_of (v : Int) (by omega) (by omega)
  have h := knew_ok [(a : Int)] [(v : Int)] true true (by simp) (by simp) (by simp) (by simp) (Shr.all1 qv) (by rw [Shr.diag_1]; exact Shr.right_1 qa qv (by omega))
  rw [Shr.diag_1] at h
  exact h
theorem shr_stay (a b v r : Nat) (h1 : 0 < r) (hs : (mulQ (offY [16777216] [(a : Int)] 1 b) (offY [16777216] [(a : Int)] 1 b) > mulQ 67108864000 (offS [16777216] [(v : Int)] 1 r) ∨ offS [16777216] [(v : Int)] 1 r ≤ 0)) :
    ∃ w, SoundC Try.prog 37 [.agg [.int .i64 1, .int .i64 1, .sl (.r 0) 0 1 1 false, .int .i64 1, .int .i64 1, .sl (.r 1) 0 1 1 false], .agg [.int .i64 1, .int .i64 1, .sl (.r 2) 0 1 1 true], .int .i64 b, .int .i64 r, .int .i64 67108864000] ⟨[ints [(a : Int)], ints [(v : Int)], ints [16777216]], []⟩ { val := .tuple [.agg [.int .i64 1, .int .i64 1, .sl (.r 0) 0 1 1 false, .int .i64 1, .int .i64 1, .sl (.r 1) 0 1 1 false], .bool false, .bool w, .int .i64 0] } :=
  ⟨_, update_stay 1 (by decide) (by decide) [(a : Int)] [(v : Int)] [16777216] rfl rfl rfl false false true b r (by omega) 67108864000 hs⟩
theorem shr_take (a b v r : Nat) (ha : a ≤ 17179869184) (hb : b ≤ 17179869184) (hv : v ≤ 2147483648) (hr : r ≤ 2147483648) (h1 : 0 < r) (hv2 : v = 0 ∨ v + r ≤ 2 * (v * 16777216)) (hs : ¬ (mulQ (offY [16777216] [(a : Int)] 1 b) (offY [16777216] [(a : Int)] 1 b) > mulQ 67108864000 (offS [16777216] [(v : Int)] 1 r) ∨ offS [16777216] [(v : Int)] 1 r ≤ 0)) :
    ∃ (w : Bool) (n m : Int), (min (a : Int) b ≤ n ∧ n ≤ max (a : Int) b ∧ m ≤ v + 2) ∧ SoundC Try.prog 37 [.agg [.int .i64 1, .int .i64 1, .sl (.r 0) 0 1 1 false, .int .i64 1, .int .i64 1, .sl (.r 1) 0 1 1 false], .agg [.int .i64 1, .int .i64 1, .sl (.r 2) 0 1 1 true], .int .i64 b, .int .i64 r, .int .i64 67108864000] ⟨[ints [(a : Int)], ints [(v : Int)], ints [16777216]], []⟩ { val := .tuple [.agg [.int .i64 1, .int .i64 1, .sl (.o 0) 0 1 1 false, .int .i64 1, .int .i64 1, .sl (.o 1) 0 1 1 false], .bool true, .bool w, .int .i64 0], newo := [ints [n], ints [m]] } := by
  have qa := Shr.inQ_of (a : Int) (by omega) (by omega)
  have qv := Shr.inQ_of (v : Int) (by omega) (by omega)
  have eS : offS [16777216] [(v : Int)] 1 r = ((v + r : Nat) : Int) := by rw [Shr.offS_1 qv, Shr.add_id qv (Shr.inQ_of _ (by omega) (by omega)) (Shr.inQ_of _ (by omega) (by omega))]; omega
  have hc : clampQ (offS [16777216] [(v : Int)] 1 r) ≠ 0 := by rw [eS, Shr.clamp_id (Shr.inQ_of _ (by omega) (by omega))]; omega
  have hX : (clampQ (v : Int)).natAbs < 1099511627776 := by rw [Shr.clamp_id qv]; omega
  obtain ⟨n, m, k, g1, g2, g3, g4, g5, g6⟩ := Shr.taken_1 ha hb hv hr h1 hv2
  have h := update_take 1 (by decide) (by decide) [(a : Int)] [(v : Int)] [16777216] rfl rfl rfl false false true b r (by omega) 67108864000 hs (fun c => (divQ c (offS [16777216] [(v : Int)] 1 r), divF c (offS [16777216] [(v : Int)] 1 r))) (fun i hi => by
    obtain rfl : i = 0 := by omega
    rw [Shr.gain0_1 qv]
    have hd := div_small (v : Int) (offS [16777216] [(v : Int)] 1 r) hX hc
    exact hd)
  rw [Shr.gain_1 qv] at h
  dsimp only at h
  generalize takeO _ _ _ _ _ _ _ _ = w at h
  rw [eS, g1, Shr.offY_1 qa, g2, g3] at h
  exact ⟨w, n, m, ⟨g4, g5, g6⟩, h⟩

theorem u8n (a : Nat) (h : a < 100) : IntKind.u8.wrap ((a : Int) + 1) = ((a + 1 : Nat) : Int) := by rw [IntKind.wrap_u8]; omega
theorem leT {x y : Int} (h : x ≤ y) : decide (x ≤ y) = true := decide_eq_true h
theorem nearA {x : Int} (h1 : 0 ≤ x) (h2 : x ≤ 17179869184) : IntKind.i64.wrap (x + 1024) = x + 1024 := i64_in _ (by omega)
theorem nearS {x : Int} (h1 : 0 ≤ x) (h2 : x ≤ 17179869184) : IntKind.i64.wrap (x - 1024) = x - 1024 := i64_in _ (by omega)
theorem minI (x y : Int) : (if y < x then y else x) = min x y := by omega
theorem maxI (x y : Int) : (if y > x then y else x) = max x y := by omega

set_option maxHeartbeats 1000000 in
theorem kShr_stay (X Z V R a b v r : Nat) (hX : X < 65536) (hZ : Z < 65536) (hV : V < 256) (hR : R < 256) (ea : a = X % 1000 * 16777216) (eb : b = Z % 1000 * 16777216) (ev : v = V % 100 * 16777216) (er : r = (R % 100 + 1) * 16777216) (hs : (mulQ (offY [16777216] [(a : Int)] 1 b) (offY [16777216] [(a : Int)] 1 b) > mulQ 67108864000 (offS [16777216] [(v : Int)] 1 r) ∨ offS [16777216] [(v : Int)] 1 r ≤ 0)) : SoundC Try.prog 8 [.agg [.int .u16 X, .int .u16 Z, .int .u8 V, .int .u8 R]] ⟨[], []⟩ { val := .bool true } := by
  have ba : a ≤ 17179869184 := by omega
  have bb : b ≤ 17179869184 := by omega
  have bv : v ≤ 2147483648 := by omega
  have br : r ≤ 2147483648 := by omega
  have br0 : 0 < r := by omega
  have bs : v = 0 ∨ v + r ≤ 2 * (v * 16777216) := by omega
  obtain ⟨w, hu⟩ := shr_stay a b v r br0 hs
  clear hs
  refine SoundC.of (N := 122) Try.func8 rfl rfl rfl rfl ?_
  refine AW.seq ?_
  refine AW.region (by kernel_rfl) ?_
  refine RunF.w (o_box (nm := 0) rfl rfl rfl) nH2 ?_
  refine RunF.q (o_assign rfl) rfl ?_
  refine AW.seq ?_
  refine AW.region (by kernel_rfl) ?_
  refine RunF.q (o_fieldAddr rfl tk49 rfl ts47 rfl) rfl ?_
  refine RunF.q (o_load rfl tk47 ts47 rfl rfl rfl) rfl ?_
  refine RunF.q (o_assign rfl) rfl ?_
  refine AW.seq ?_
  refine AW.region (by kernel_rfl) ?_
  refine RunF.q (o_fieldAddr rfl tk49 rfl ts47 rfl) rfl ?_
  refine RunF.q (o_load rfl tk47 ts47 rfl rfl rfl) rfl ?_
  refine RunF.q (o_assign rfl) rfl ?_
  refine AW.seq ?_
  refine AW.region (by kernel_rfl) ?_
  refine RunF.q (o_fieldAddr rfl tk49 rfl ts5 rfl) rfl ?_
  refine RunF.q (o_load rfl tk5 ts5 rfl rfl rfl) rfl ?_
  refine RunF.q (o_assign rfl) rfl ?_
  refine AW.seq ?_
  refine AW.region (by kernel_rfl) ?_
  refine RunF.q (o_fieldAddr rfl tk49 rfl ts5 rfl) rfl ?_
  refine RunF.q (o_load rfl tk5 ts5 rfl rfl rfl) rfl ?_
  refine RunF.q (o_assign rfl) rfl ?_
  refine AW.seq ?_
  refine AW.region (by kernel_rfl) ?_
  refine RunF.q (o_call (no := 1) (nr := 0) rfl rfl rfl nC (by rfl) (by exact shown05_ok) (by rfl) rfl rfl nV rfl) (by rfl) ?_
  refine RunF.q (o_assign rfl) rfl ?_
  refine AW.seq ?_
  refine AW.region (by kernel_rfl) ?_
  refine RunF.q (o_move rfl) rfl ?_
  refine RunF.q (Shr.o_remN (b := 1000) rfl rfl (by decide)) rfl ?_
  refine RunF.q (o_convert tk47 tk30 rfl (by first | exact i64_in _ (by omega) | exact u64_in _ (by omega) | rfl)) rfl ?_
  refine RunF.q (o_mul (m := (a : Int)) rfl rfl (by rw [ea]; exact Shr.mulI (X % 1000) 16777216 (by omega))) rfl ?_
  refine RunF.q (o_assign rfl) rfl ?_
  refine AW.seq ?_
  refine AW.region (by kernel_rfl) ?_
  refine RunF.q (o_move rfl) rfl ?_
  refine RunF.q (Shr.o_remN (b := 1000) rfl rfl (by decide)) rfl ?_
  refine RunF.q (o_convert tk47 tk30 rfl (by first | exact i64_in _ (by omega) | exact u64_in _ (by omega) | rfl)) rfl ?_
  refine RunF.q (o_mul (m := (b : Int)) rfl rfl (by rw [eb]; exact Shr.mulI (Z % 1000) 16777216 (by omega))) rfl ?_
  refine RunF.q (o_assign rfl) rfl ?_
  refine AW.seq ?_
  refine AW.region (by kernel_rfl) ?_
  refine RunF.q (o_move rfl) rfl ?_
  refine RunF.q (Shr.o_remN (b := 100) rfl rfl (by decide)) rfl ?_
  refine RunF.q (o_convert tk5 tk30 rfl (by first | exact i64_in _ (by omega) | exact u64_in _ (by omega) | rfl)) rfl ?_
  refine RunF.q (o_mul (m := (v : Int)) rfl rfl (by rw [ev]; exact Shr.mulI (V % 100) 16777216 (by omega))) rfl ?_
  refine RunF.q (o_assign rfl) rfl ?_
  refine AW.seq ?_
  refine AW.region (by kernel_rfl) ?_
  refine RunF.q (o_move rfl) rfl ?_
  refine RunF.w (o_buildSlice (nm := 1) tk22 ts30 tz30 rfl rfl rfl rfl) nH2 ?_
  refine RunF.q (o_move rfl) rfl ?_
  refine RunF.w (o_buildSlice (nm := 2) tk22 ts30 tz30 rfl rfl rfl rfl) nH2 ?_
  refine RunF.w (o_call (no := 3) (nr := 0) rfl rfl rfl nC (by rfl) (by exact shr_new a v ba bv) (by rfl) rfl rfl nV nE) nH2 ?_
  refine RunF.q (o_move rfl) rfl ?_
  refine RunF.q (o_extract rfl rfl) rfl ?_
  refine RunF.q (o_extract rfl rfl) rfl ?_
  refine RunF.w (o_alloc (nm := 5) tz41 rfl) nH2 ?_
  refine RunF.wn (o_store rfl rfl rfl ts41 rfl rfl) nH2 ?_
  refine RunF.q (o_assign rfl) rfl ?_
  refine AW.seq ?_
  refine AW.region (by kernel_rfl) ?_
  refine RunF.w (o_buildSlice (nm := 6) tk22 ts30 tz30 rfl rfl rfl rfl) nH2 ?_
  refine RunF.q (o_build tk24 tz24 pl24 rfl rfl) rfl ?_
  refine RunF.w (o_alloc (nm := 7) tz24 rfl) nH2 ?_
  refine RunF.wn (o_store rfl rfl rfl ts24 rfl rfl) nH2 ?_
  refine AW.seq ?_
  refine AW.region (by kernel_rfl) ?_
  refine RunF.q (o_load_agg rfl tk41 ts41 rfl rfl rfl nL) rfl ?_
  refine RunF.q (o_load_agg rfl tk24 ts24 rfl rfl rfl nL) rfl ?_
  refine RunF.q (o_move rfl) rfl ?_
  refine RunF.q (o_move rfl) rfl ?_
  refine RunF.q (Shr.o_remN (b := 100) rfl rfl (by decide)) rfl ?_
  refine RunF.q (o_add rfl rfl (u8n (R % 100) (by omega))) rfl ?_
  refine RunF.q (o_convert tk5 tk30 rfl (by first | exact i64_in _ (by omega) | exact u64_in _ (by omega) | rfl)) rfl ?_
  refine RunF.q (o_mul (m := (r : Int)) rfl rfl (by rw [er]; exact Shr.mulI (R % 100 + 1) 16777216 (by omega))) rfl ?_
  refine RunF.q (o_call (no := 8) (nr := 0) rfl rfl rfl nC (by rfl) (by exact hu) (by rfl) rfl rfl nV rfl) (by rfl) ?_
  refine RunF.q (o_move rfl) rfl ?_
  refine RunF.q (o_extract rfl rfl) rfl ?_
  refine RunF.q (o_extract rfl rfl) rfl ?_
  refine RunF.q (o_extract rfl rfl) rfl ?_
  refine RunF.q (o_extract rfl rfl) rfl ?_
  refine RunF.w (o_alloc (nm := 8) tz41 rfl) nH2 ?_
  refine RunF.wn (o_store rfl rfl rfl ts41 rfl rfl) nH2 ?_
  refine RunF.q (o_assign rfl) rfl ?_
  refine RunF.q (o_assign rfl) rfl ?_
  refine RunF.q (o_assign rfl) rfl ?_
  refine AW.seq ?_
  refine AW.seq ?_
  refine AW.region (by kernel_rfl) ?_
  refine RunF.q (o_move rfl) rfl ?_
  refine RunF.q (o_neq rfl rfl) rfl ?_
  refine RunF.q (o_move rfl) rfl ?_
  refine RunF.gq rfl (o_move rfl) rfl ?_
  refine RunF.gq rfl (o_neq rfl rfl) rfl ?_
  refine RunF.q (o_pick_f rfl rfl) rfl ?_
  refine RunF.q (o_move rfl) rfl ?_
  refine RunF.gq rfl (o_fieldAddr rfl tk41 rfl ts24 rfl) rfl ?_
  refine RunF.gq rfl (o_fieldAddr rfl tk24 rfl ts22 rfl) rfl ?_
  refine RunF.gq rfl (o_load rfl tk22 ts22 rfl rfl rfl) rfl ?_
  first | refine RunF.gq rfl (o_len tk22 rfl) rfl ?_ | refine RunF.gq rfl (o_len_nil tk22 rfl) rfl ?_
  refine RunF.gq rfl (o_neq rfl rfl) rfl ?_
  refine RunF.q (o_pick_f rfl rfl) rfl ?_
  refine RunF.q (o_move rfl) rfl ?_
  refine RunF.gq rfl (o_fieldAddr rfl tk41 rfl ts24 rfl) rfl ?_
  refine RunF.gq rfl (o_fieldAddr rfl tk24 rfl ts22 rfl) rfl ?_
  refine RunF.gq rfl (o_load rfl tk22 ts22 rfl rfl rfl) rfl ?_
  first | refine RunF.gq rfl (o_len tk22 rfl) rfl ?_ | refine RunF.gq rfl (o_len_nil tk22 rfl) rfl ?_
  refine RunF.gq rfl (o_neq rfl rfl) rfl ?_
  refine RunF.q (o_pick_f rfl rfl) rfl ?_
  refine AW.cond rfl (fun hc0 => absurd hc0 (by simp)) (fun hc0 => ?_)
  refine AW.skip ?_
  refine AW.seq ?_
  refine AW.seq ?_
  refine AW.region (by kernel_rfl) ?_
  refine RunF.q (o_move rfl) rfl ?_
  refine RunF.q (o_not rfl) rfl ?_
  refine RunF.q (o_move rfl) rfl ?_
  refine RunF.gs (b := true) rfl rfl ?_
  refine RunF.q (o_pick_t rfl rfl) rfl ?_
  refine AW.cond rfl (fun hc1 => ?_) (fun hc1 => absurd hc1 (by simp))
  refine AW.seq ?_
  refine AW.region (by kernel_rfl) ?_
  refine RunF.q (o_move rfl) rfl ?_
  refine RunF.q (o_assign rfl) rfl ?_
  refine AW.ret ?_
  exact FinQ.ret [] [] (ress_tmp rfl ress_nil) rfl (by first | exact RowsO.nil | skip) (by first | exact RowsR.nil | skip) nR

set_option maxHeartbeats 1000000 in
theorem kShr_take (X Z V R a b v r : Nat) (hX : X < 65536) (hZ : Z < 65536) (hV : V < 256) (hR : R < 256) (ea : a = X % 1000 * 16777216) (eb : b = Z % 1000 * 16777216) (ev : v = V % 100 * 16777216) (er : r = (R % 100 + 1) * 16777216) (hs : ¬ (mulQ (offY [16777216] [(a : Int)] 1 b) (offY [16777216] [(a : Int)] 1 b) > mulQ 67108864000 (offS [16777216] [(v : Int)] 1 r) ∨ offS [16777216] [(v : Int)] 1 r ≤ 0)) : SoundC Try.prog 8 [.agg [.int .u16 X, .int .u16 Z, .int .u8 V, .int .u8 R]] ⟨[], []⟩ { val := .bool true } := by
  have ba : a ≤ 17179869184 := by omega
  have bb : b ≤ 17179869184 := by omega
  have bv : v ≤ 2147483648 := by omega
  have br : r ≤ 2147483648 := by omega
  have br0 : 0 < r := by omega
  have bs : v = 0 ∨ v + r ≤ 2 * (v * 16777216) := by omega
  obtain ⟨w, n, m, ⟨g1, g2, g3⟩, hu⟩ := shr_take a b v r ba bb bv br br0 bs hs
  clear hs
  refine SoundC.of (N := 122) Try.func8 rfl rfl rfl rfl ?_
  refine AW.seq ?_
  refine AW.region (by kernel_rfl) ?_
  refine RunF.w (o_box (nm := 0) rfl rfl rfl) nH2 ?_
  refine RunF.q (o_assign rfl) rfl ?_
  refine AW.seq ?_
  refine AW.region (by kernel_rfl) ?_
  refine RunF.q (o_fieldAddr rfl tk49 rfl ts47 rfl) rfl ?_
  refine RunF.q (o_load rfl tk47 ts47 rfl rfl rfl) rfl ?_
  refine RunF.q (o_assign rfl) rfl ?_
  refine AW.seq ?_
  refine AW.region (by kernel_rfl) ?_
  refine RunF.q (o_fieldAddr rfl tk49 rfl ts47 rfl) rfl ?_
  refine RunF.q (o_load rfl tk47 ts47 rfl rfl rfl) rfl ?_
  refine RunF.q (o_assign rfl) rfl ?_
  refine AW.seq ?_
  refine AW.region (by kernel_rfl) ?_
  refine RunF.q (o_fieldAddr rfl tk49 rfl ts5 rfl) rfl ?_
  refine RunF.q (o_load rfl tk5 ts5 rfl rfl rfl) rfl ?_
  refine RunF.q (o_assign rfl) rfl ?_
  refine AW.seq ?_
  refine AW.region (by kernel_rfl) ?_
  refine RunF.q (o_fieldAddr rfl tk49 rfl ts5 rfl) rfl ?_
  refine RunF.q (o_load rfl tk5 ts5 rfl rfl rfl) rfl ?_
  refine RunF.q (o_assign rfl) rfl ?_
  refine AW.seq ?_
  refine AW.region (by kernel_rfl) ?_
  refine RunF.q (o_call (no := 1) (nr := 0) rfl rfl rfl nC (by rfl) (by exact shown05_ok) (by rfl) rfl rfl nV rfl) (by rfl) ?_
  refine RunF.q (o_assign rfl) rfl ?_
  refine AW.seq ?_
  refine AW.region (by kernel_rfl) ?_
  refine RunF.q (o_move rfl) rfl ?_
  refine RunF.q (Shr.o_remN (b := 1000) rfl rfl (by decide)) rfl ?_
  refine RunF.q (o_convert tk47 tk30 rfl (by first | exact i64_in _ (by omega) | exact u64_in _ (by omega) | rfl)) rfl ?_
  refine RunF.q (o_mul (m := (a : Int)) rfl rfl (by rw [ea]; exact Shr.mulI (X % 1000) 16777216 (by omega))) rfl ?_
  refine RunF.q (o_assign rfl) rfl ?_
  refine AW.seq ?_
  refine AW.region (by kernel_rfl) ?_
  refine RunF.q (o_move rfl) rfl ?_
  refine RunF.q (Shr.o_remN (b := 1000) rfl rfl (by decide)) rfl ?_
  refine RunF.q (o_convert tk47 tk30 rfl (by first | exact i64_in _ (by omega) | exact u64_in _ (by omega) | rfl)) rfl ?_
  refine RunF.q (o_mul (m := (b : Int)) rfl rfl (by rw [eb]; exact Shr.mulI (Z % 1000) 16777216 (by omega))) rfl ?_
  refine RunF.q (o_assign rfl) rfl ?_
  refine AW.seq ?_
  refine AW.region (by kernel_rfl) ?_
  refine RunF.q (o_move rfl) rfl ?_
  refine RunF.q (Shr.o_remN (b := 100) rfl rfl (by decide)) rfl ?_
  refine RunF.q (o_convert tk5 tk30 rfl (by first | exact i64_in _ (by omega) | exact u64_in _ (by omega) | rfl)) rfl ?_
  refine RunF.q (o_mul (m := (v : Int)) rfl rfl (by rw [ev]; exact Shr.mulI (V % 100) 16777216 (by omega))) rfl ?_
  refine RunF.q (o_assign rfl) rfl ?_
  refine AW.seq ?_
  refine AW.region (by kernel_rfl) ?_
  refine RunF.q (o_move rfl) rfl ?_
  refine RunF.w (o_buildSlice (nm := 1) tk22 ts30 tz30 rfl rfl rfl rfl) nH2 ?_
  refine RunF.q (o_move rfl) rfl ?_
  refine RunF.w (o_buildSlice (nm := 2) tk22 ts30 tz30 rfl rfl rfl rfl) nH2 ?_
  refine RunF.w (o_call (no := 3) (nr := 0) rfl rfl rfl nC (by rfl) (by exact shr_new a v ba bv) (by rfl) rfl rfl nV nE) nH2 ?_
  refine RunF.q (o_move rfl) rfl ?_
  refine RunF.q (o_extract rfl rfl) rfl ?_
  refine RunF.q (o_extract rfl rfl) rfl ?_
  refine RunF.w (o_alloc (nm := 5) tz41 rfl) nH2 ?_
  refine RunF.wn (o_store rfl rfl rfl ts41 rfl rfl) nH2 ?_
  refine RunF.q (o_assign rfl) rfl ?_
  refine AW.seq ?_
  refine AW.region (by kernel_rfl) ?_
  refine RunF.w (o_buildSlice (nm := 6) tk22 ts30 tz30 rfl rfl rfl rfl) nH2 ?_
  refine RunF.q (o_build tk24 tz24 pl24 rfl rfl) rfl ?_
  refine RunF.w (o_alloc (nm := 7) tz24 rfl) nH2 ?_
  refine RunF.wn (o_store rfl rfl rfl ts24 rfl rfl) nH2 ?_
  refine AW.seq ?_
  refine AW.region (by kernel_rfl) ?_
  refine RunF.q (o_load_agg rfl tk41 ts41 rfl rfl rfl nL) rfl ?_
  refine RunF.q (o_load_agg rfl tk24 ts24 rfl rfl rfl nL) rfl ?_
  refine RunF.q (o_move rfl) rfl ?_
  refine RunF.q (o_move rfl) rfl ?_
  refine RunF.q (Shr.o_remN (b := 100) rfl rfl (by decide)) rfl ?_
  refine RunF.q (o_add rfl rfl (u8n (R % 100) (by omega))) rfl ?_
  refine RunF.q (o_convert tk5 tk30 rfl (by first | exact i64_in _ (by omega) | exact u64_in _ (by omega) | rfl)) rfl ?_
  refine RunF.q (o_mul (m := (r : Int)) rfl rfl (by rw [er]; exact Shr.mulI (R % 100 + 1) 16777216 (by omega))) rfl ?_
  refine RunF.w (o_call (no := 8) (nr := 0) rfl rfl rfl nC (by rfl) (by exact hu) (by rfl) rfl rfl nV nE) nH2 ?_
  refine RunF.q (o_move rfl) rfl ?_
  refine RunF.q (o_extract rfl rfl) rfl ?_
  refine RunF.q (o_extract rfl rfl) rfl ?_
  refine RunF.q (o_extract rfl rfl) rfl ?_
  refine RunF.q (o_extract rfl rfl) rfl ?_
  refine RunF.w (o_alloc (nm := 10) tz41 rfl) nH2 ?_
  refine RunF.wn (o_store rfl rfl rfl ts41 rfl rfl) nH2 ?_
  refine RunF.q (o_assign rfl) rfl ?_
  refine RunF.q (o_assign rfl) rfl ?_
  refine RunF.q (o_assign rfl) rfl ?_
  refine AW.seq ?_
  refine AW.seq ?_
  refine AW.region (by kernel_rfl) ?_
  refine RunF.q (o_move rfl) rfl ?_
  refine RunF.q (o_neq rfl rfl) rfl ?_
  refine RunF.q (o_move rfl) rfl ?_
  refine RunF.gq rfl (o_move rfl) rfl ?_
  refine RunF.gq rfl (o_neq rfl rfl) rfl ?_
  refine RunF.q (o_pick_f rfl rfl) rfl ?_
  refine RunF.q (o_move rfl) rfl ?_
  refine RunF.gq rfl (o_fieldAddr rfl tk41 rfl ts24 rfl) rfl ?_
  refine RunF.gq rfl (o_fieldAddr rfl tk24 rfl ts22 rfl) rfl ?_
  refine RunF.gq rfl (o_load rfl tk22 ts22 rfl rfl rfl) rfl ?_
  first | refine RunF.gq rfl (o_len tk22 rfl) rfl ?_ | refine RunF.gq rfl (o_len_nil tk22 rfl) rfl ?_
  refine RunF.gq rfl (o_neq rfl rfl) rfl ?_
  refine RunF.q (o_pick_f rfl rfl) rfl ?_
  refine RunF.q (o_move rfl) rfl ?_
  refine RunF.gq rfl (o_fieldAddr rfl tk41 rfl ts24 rfl) rfl ?_
  refine RunF.gq rfl (o_fieldAddr rfl tk24 rfl ts22 rfl) rfl ?_
  refine RunF.gq rfl (o_load rfl tk22 ts22 rfl rfl rfl) rfl ?_
  first | refine RunF.gq rfl (o_len tk22 rfl) rfl ?_ | refine RunF.gq rfl (o_len_nil tk22 rfl) rfl ?_
  refine RunF.gq rfl (o_neq rfl rfl) rfl ?_
  refine RunF.q (o_pick_f rfl rfl) rfl ?_
  refine AW.cond rfl (fun hc0 => absurd hc0 (by simp)) (fun hc0 => ?_)
  refine AW.skip ?_
  refine AW.seq ?_
  refine AW.seq ?_
  refine AW.region (by kernel_rfl) ?_
  refine RunF.q (o_move rfl) rfl ?_
  refine RunF.q (o_not rfl) rfl ?_
  refine RunF.q (o_move rfl) rfl ?_
  refine RunF.gb rfl (o_move rfl) rfl (fun hb14_3 => ?_) (fun hb14_3 => ?_)
  · try simp only [decide_eq_true_eq, decide_eq_false_iff_not, bne_iff_ne, beq_iff_eq, bne_eq_false_iff_eq, beq_eq_false_iff_ne, ne_eq, Bool.not_eq_true', Bool.not_eq_false'] at hb14_3
    refine RunF.q (o_pick_f rfl rfl) rfl ?_
    refine AW.cond rfl (fun hc1 => ?_) (fun hc1 => absurd hc1 (by simp))
    refine AW.seq ?_
    refine AW.region (by kernel_rfl) ?_
    refine RunF.q (o_move rfl) rfl ?_
    refine RunF.q (o_assign rfl) rfl ?_
    refine AW.ret ?_
    exact FinQ.ret [] [] (ress_tmp rfl ress_nil) rfl (by first | exact RowsO.nil | skip) (by first | exact RowsR.nil | skip) nR
  · try simp only [decide_eq_true_eq, decide_eq_false_iff_not, bne_iff_ne, beq_iff_eq, bne_eq_false_iff_eq, beq_eq_false_iff_ne, ne_eq, Bool.not_eq_true', Bool.not_eq_false'] at hb14_3
    refine RunF.q (o_pick_f rfl rfl) rfl ?_
    refine AW.cond rfl (fun hc1 => absurd hc1 (by simp)) (fun hc1 => ?_)
    refine AW.skip ?_
    refine AW.seq ?_
    refine AW.region (by kernel_rfl) ?_
    refine RunF.q (o_fieldAddr rfl tk41 rfl ts24 rfl) rfl ?_
    refine RunF.q (o_fieldAddr rfl tk24 rfl ts22 rfl) rfl ?_
    refine RunF.q (o_load rfl tk22 ts22 rfl rfl rfl) rfl ?_
    refine RunF.q (o_indexAddr tk22 ts30 rfl rfl (by first | decide | (constructor <;> omega)) rfl) rfl ?_
    refine RunF.q (o_load rfl tk30 ts30 rfl rfl rfl) rfl ?_
    refine RunF.q (o_assign rfl) rfl ?_
    refine AW.seq ?_
    refine AW.region (by kernel_rfl) ?_
    refine RunF.q (o_move rfl) rfl ?_
    refine RunF.q (o_move rfl) rfl ?_
    refine RunF.gq rfl (o_fieldAddr rfl tk41 rfl ts24 rfl) rfl ?_
    refine RunF.gq rfl (o_fieldAddr rfl tk24 rfl ts22 rfl) rfl ?_
    refine RunF.gq rfl (o_load rfl tk22 ts22 rfl rfl rfl) rfl ?_
    refine RunF.gq rfl (o_indexAddr tk22 ts30 rfl rfl (by first | decide | (constructor <;> omega)) rfl) rfl ?_
    refine RunF.gq rfl (o_load rfl tk30 ts30 rfl rfl rfl) rfl ?_
    refine RunF.gq rfl (o_move rfl) rfl ?_
    refine RunF.gq rfl (o_add rfl rfl (nearA (x := (v : Int)) (by omega) (by omega))) rfl ?_
    refine RunF.gq rfl (o_bin (v := .bool true) rfl rfl (by simp only [binA, if_true]; rw [leT (show m ≤ (v : Int) + 1024 by omega)])) rfl ?_
    refine RunF.q (o_pick_t rfl rfl) rfl ?_
    refine RunF.q (o_move rfl) rfl ?_
    refine RunF.gq rfl (o_move rfl) rfl ?_
    refine RunF.gq rfl (o_move rfl) rfl ?_
    refine RunF.gq rfl (o_move rfl) rfl ?_
    refine RunF.gq rfl (o_min rfl rfl (minI (a : Int) (b : Int))) rfl ?_
    refine RunF.gq rfl (o_sub rfl rfl (nearS (x := min (a : Int) b) (by omega) (by omega))) rfl ?_
    refine RunF.gq rfl (o_bin (v := .bool true) rfl rfl (by simp only [binA, if_true]; rw [leT (show min (a : Int) b - 1024 ≤ n by omega)])) rfl ?_
    refine RunF.q (o_pick_t rfl rfl) rfl ?_
    refine RunF.q (o_move rfl) rfl ?_
    refine RunF.gq rfl (o_move rfl) rfl ?_
    refine RunF.gq rfl (o_move rfl) rfl ?_
    refine RunF.gq rfl (o_move rfl) rfl ?_
    refine RunF.gq rfl (o_max rfl rfl (maxI (a : Int) (b : Int))) rfl ?_
    refine RunF.gq rfl (o_add rfl rfl (nearA (x := max (a : Int) b) (by omega) (by omega))) rfl ?_
    refine RunF.gq rfl (o_bin (v := .bool true) rfl rfl (by simp only [binA, if_true]; rw [leT (show n ≤ max (a : Int) b + 1024 by omega)])) rfl ?_
    refine RunF.q (o_pick_t rfl rfl) rfl ?_
    refine RunF.q (o_assign rfl) rfl ?_
    refine AW.ret ?_
    exact FinQ.ret [] [] (ress_tmp rfl ress_nil) rfl (by first | exact RowsO.nil | skip) (by first | exact RowsR.nil | skip) nR

end Go.Proofs.Ytnkijhpikeokfaa

/- Leading zeros, off the shelf; quotients of two words. -/
namespace Go.Proofs.Ytnkijhpikeokfaa
open Go Go.Sym Go.IntWalk

def lzRen : Shelf.Ren := ⟨fun k => if k = 129 then 154 else 152, fun t => if t = 53 then 172 else if t = 46 then 173 else t, fun x => x⟩
theorem lzLays : Lays.n134 Try.prog lzRen where
  mixed := by kernel_rfl
  f129 := by show Try.prog.funcs[154]? = _; rw [Try.func154]; kernel_rfl
  f134 := by show Try.prog.funcs[152]? = _; rw [Try.func152]; kernel_rfl
  t3 := Try.underlying3
  a3 := Try.isAgg3
  z3 := Try.sizeOf3
  v3 := Try.zeroValue3
  t4 := Try.underlying4
  a4 := Try.isAgg4
  z4 := Try.sizeOf4
  v4 := Try.zeroValue4
  t5 := Try.underlying5
  a5 := Try.isAgg5
  z5 := Try.sizeOf5
  v5 := Try.zeroValue5
  t9 := Try.underlying9
  a9 := Try.isAgg9
  z9 := Try.sizeOf9
  v9 := Try.zeroValue9
  t46 := Try.underlying173
  a46 := Try.isAgg173
  z46 := Try.sizeOf173
  v46 := Try.zeroValue173
  t53 := Try.underlying172
  a53 := Try.isAgg172
  z53 := Try.sizeOf172
  v53 := Try.zeroValue172


theorem lz_is (y s : Nat) (hy : y < 18446744073709551616) (hs : 64 - Lib.bitLen y = s) (hb : Lib.bitLen y ≤ 64) : SoundC Try.prog 152 [.int .u64 y] ⟨[], []⟩ { val := .int .i64 (s : Int) } := by
  refine ⟨by kernel_rfl, fun ρ w cargs hv hsr hw => ?_⟩
  obtain ⟨c, cs, rfl, hc, hcs⟩ := hv
  obtain rfl : cs = [] := hcs
  obtain rfl : c = .int .u64 (y : Int) := hc
  refine (Any.bits_LeadingZeros64 lzLays (y : Int) w (by omega) (by omega)).mono ?_
  rintro e w' ⟨rfl, rfl⟩
  refine ⟨_, ρ, rfl, ?_, ?_, Tr.refl _ _, hw⟩
  · show Value.int .i64 (64 - (Lib.bitLen (y : Int).toNat : Int)) = Value.int .i64 (s : Int)
    rw [Int.toNat_natCast, ← hs]
    congr 1; omega
  · rw [Eff.app_rd _ _ rfl rfl rfl rfl]; exact hsr
theorem bitLen_range {y : Nat} (h0 : 0 < y) (hy : y < 2 ^ 64) : 0 < Lib.bitLen y ∧ Lib.bitLen y ≤ 64 ∧ 2 ^ (Lib.bitLen y - 1) ≤ y ∧ y < 2 ^ Lib.bitLen y := by
  have h1 := Lib.bitLen_half y (by omega) hy
  have h2 := Lib.bitLen_le y 64 (by omega) hy
  refine ⟨by omega, h2, ?_, ?_⟩
  · apply Nat.le_of_not_lt
    intro hc
    have := Lib.bitLen_le y (Lib.bitLen y - 1) (by omega) hc
    omega
  · apply Nat.lt_of_not_le
    intro hc
    have h3 := Lib.bitLen_shift (Lib.bitLen y) y hc hy
    have h4 : 0 < y / 2 ^ Lib.bitLen y := Nat.div_pos hc (Nat.pow_pos (by omega))
    have h5 := Lib.bitLen_half (y / 2 ^ Lib.bitLen y) (by omega) (Nat.lt_of_le_of_lt (Nat.div_le_self _ _) hy)
    omega

def adjC (yn0 u q r : Int) : Bool := decide (q ≥ 4294967296) || decide (IntKind.u64.wrap (q * yn0) > IntKind.u64.wrap (IntKind.u64.wrap (4294967296 * r) + u))
def adjF (yn1 yn0 u : Int) : Nat → Int → Int → Int
  | 0, q, _ => q
  | n + 1, q, r => if adjC yn0 u q r = true then (if r + yn1 ≥ 4294967296 then IntKind.u64.wrap (q - 1) else adjF yn1 yn0 u n (IntKind.u64.wrap (q - 1)) (r + yn1)) else q
theorem adjC_l {yn0 u q r : Int} (h : q ≥ 4294967296) : adjC yn0 u q r = true := by unfold adjC; rw [decide_eq_true h]; rfl
theorem adjC_r {yn0 u q r : Int} (h : IntKind.u64.wrap (q * yn0) > IntKind.u64.wrap (IntKind.u64.wrap (4294967296 * r) + u)) : adjC yn0 u q r = true := by unfold adjC; rw [decide_eq_true h, Bool.or_true]
theorem adjC_no {yn0 u q r : Int} (h1 : ¬ q ≥ 4294967296) (h : ¬ IntKind.u64.wrap (q * yn0) > IntKind.u64.wrap (IntKind.u64.wrap (4294967296 * r) + u)) : adjC yn0 u q r = false := by unfold adjC; rw [decide_eq_false h, decide_eq_false h1]; rfl
theorem adjF_stop {yn1 yn0 u Q q r : Int} {n : Nat} (hn : n ≠ 0) (h : adjF yn1 yn0 u n q r = Q) (hc : adjC yn0 u q r = false) : q = Q := by
  obtain ⟨m, rfl⟩ := Nat.exists_eq_succ_of_ne_zero hn
  rw [← h]; simp only [adjF]; rw [if_neg (by rw [hc]; decide)]
theorem adjF_last {yn1 yn0 u Q q r : Int} {n : Nat} (hn : n ≠ 0) (h : adjF yn1 yn0 u n q r = Q) (hc : adjC yn0 u q r = true) (hb : r + yn1 ≥ 4294967296) : IntKind.u64.wrap (q - 1) = Q := by
  obtain ⟨m, rfl⟩ := Nat.exists_eq_succ_of_ne_zero hn
  rw [← h]; simp only [adjF]; rw [if_pos hc, if_pos hb]
theorem adjF_go {yn1 yn0 u Q q r : Int} {n : Nat} (hn : n ≠ 0) (h : adjF yn1 yn0 u n q r = Q) (hc : adjC yn0 u q r = true) (hb : ¬ r + yn1 ≥ 4294967296) : adjF yn1 yn0 u (n - 1) (IntKind.u64.wrap (q - 1)) (r + yn1) = Q := by
  obtain ⟨m, rfl⟩ := Nat.exists_eq_succ_of_ne_zero hn
  rw [← h]; simp only [adjF]; rw [if_pos hc, if_neg hb]; rfl
theorem modW {u d q r : Int} (hu : 0 ≤ u) (hu2 : u < 18446744073709551616) (hd : 0 < d) (hq : IntKind.u64.wrap (u.tdiv d) = q) (hr : IntKind.u64.wrap (u - IntKind.u64.wrap (q * d)) = r) : 0 ≤ r ∧ r < d := by
  have e1 : u.tdiv d = u / d := Int.tdiv_eq_ediv_of_nonneg hu
  have h1 := Int.mul_ediv_add_emod u d
  have h2 := Int.emod_nonneg u (by omega : d ≠ 0)
  have h3 := Int.emod_lt_of_pos u hd
  have h4 : 0 ≤ u / d := Int.ediv_nonneg hu (by omega)
  have h5 : u / d ≤ u := Int.ediv_le_self d hu
  have e2 : q = u / d := by rw [← hq, e1, IntKind.wrap_u64]; omega
  have h6 : 0 ≤ d * (u / d) := Int.mul_nonneg (by omega) h4
  rw [← hr, e2, Int.mul_comm (u / d) d, IntKind.wrap_u64, IntKind.wrap_u64]
  omega

set_option maxHeartbeats 4000000 in
theorem div64_at (hi lo y s : Nat) (Y yn1 yn0 u32 u10 u1 u0 q1 r1 Q1 U q0 r0 Q0 A R : Int) (h0 : 0 < hi) (hh : hi < y) (hy : y < 18446744073709551616) (hs : 64 - Lib.bitLen y = s) (hb : Lib.bitLen y ≤ 64) (hyn : 2147483648 ≤ yn1) (hr1 : 0 ≤ r1 ∧ r1 < yn1) (hr0 : 0 ≤ r0 ∧ r0 < yn1) (hyn2 : yn1 < 4294967296) (eY : IntKind.u64.wrap ((y : Int) * 2 ^ (min ((s : Int)).toNat IntKind.u64.bits)) = Y) (e1 : Y.fdiv (2 ^ (min ((32 : Int)).toNat IntKind.u64.bits)) = yn1) (e0 : IntKind.u64.wrap ((BitVec.ofInt IntKind.u64.bits Y &&& BitVec.ofInt IntKind.u64.bits 4294967295).toNat : Int) = yn0) (e32 : IntKind.u64.wrap ((BitVec.ofInt IntKind.u64.bits (IntKind.u64.wrap ((hi : Int) * 2 ^ (min ((s : Int)).toNat IntKind.u64.bits))) ||| BitVec.ofInt IntKind.u64.bits ((lo : Int).fdiv (2 ^ (min (64 - (s : Int)).toNat IntKind.u64.bits)))).toNat : Int) = u32) (e10 : IntKind.u64.wrap ((lo : Int) * 2 ^ (min ((s : Int)).toNat IntKind.u64.bits)) = u10) (eu1 : u10.fdiv (2 ^ (min ((32 : Int)).toNat IntKind.u64.bits)) = u1) (eu0 : IntKind.u64.wrap ((BitVec.ofInt IntKind.u64.bits u10 &&& BitVec.ofInt IntKind.u64.bits 4294967295).toNat : Int) = u0) (eq1 : IntKind.u64.wrap (u32.tdiv yn1) = q1) (er1 : IntKind.u64.wrap (u32 - IntKind.u64.wrap (q1 * yn1)) = r1) (eQ1 : adjF yn1 yn0 u1 2 q1 r1 = Q1) (eU : IntKind.u64.wrap (IntKind.u64.wrap (IntKind.u64.wrap (u32 * 4294967296) + u1) - IntKind.u64.wrap (Q1 * Y)) = U) (eq0 : IntKind.u64.wrap (U.tdiv yn1) = q0) (er0 : IntKind.u64.wrap (U - IntKind.u64.wrap (q0 * yn1)) = r0) (eQ0 : adjF yn1 yn0 u0 2 q0 r0 = Q0) (eA : IntKind.u64.wrap (IntKind.u64.wrap (Q1 * 4294967296) + Q0) = A) (eR : (IntKind.u64.wrap (IntKind.u64.wrap (IntKind.u64.wrap (U * 4294967296) + u0) - IntKind.u64.wrap (Q0 * Y))).fdiv (2 ^ (min ((s : Int)).toNat IntKind.u64.bits)) = R) : SoundC Try.prog 142 [.int .u64 hi, .int .u64 lo, .int .u64 y] ⟨[], []⟩ { val := .tuple [.int .u64 A, .int .u64 R] } := by
  refine SoundC.of (N := 135) Try.func142 rfl rfl rfl rfl ?_
  refine AW.seq ?_
  refine AW.region (by kernel_rfl) ?_
  refine RunF.q (o_assign rfl) rfl ?_
  refine RunF.q (o_assign rfl) rfl ?_
  refine AW.seq ?_
  refine AW.seq ?_
  refine AW.region (by kernel_rfl) ?_
  refine RunF.q (o_move rfl) rfl ?_
  refine RunF.q (o_eql rfl rfl) rfl ?_
  refine AW.cond rfl (fun hc0 => absurd hc0 (by simp; omega)) (fun hc0 => ?_)
  refine AW.skip ?_
  refine AW.seq ?_
  refine AW.seq ?_
  refine AW.region (by kernel_rfl) ?_
  refine RunF.q (o_move rfl) rfl ?_
  refine RunF.q (o_move rfl) rfl ?_
  refine RunF.q (o_leq rfl rfl) rfl ?_
  refine AW.cond rfl (fun hc1 => absurd hc1 (by simp; omega)) (fun hc1 => ?_)
  refine AW.skip ?_
  refine AW.seq ?_
  refine AW.seq ?_
  refine AW.region (by kernel_rfl) ?_
  refine RunF.q (o_move rfl) rfl ?_
  refine RunF.q (o_eql rfl rfl) rfl ?_
  refine AW.cond rfl (fun hc2 => absurd hc2 (by simp; omega)) (fun hc2 => ?_)
  refine AW.skip ?_
  refine AW.seq ?_
  refine AW.region (by kernel_rfl) ?_
  refine RunF.q (o_move rfl) rfl ?_
  refine RunF.q (o_call (no := 0) (nr := 0) rfl rfl rfl nC (by rfl) (by exact lz_is y s hy hs hb) (by rfl) rfl rfl nV rfl) (by rfl) ?_
  refine RunF.q (o_convert tk3 tk173 rfl (by first | exact i64_in _ (by omega) | exact u64_in _ (by omega) | rfl)) rfl ?_
  refine RunF.q (o_assign rfl) rfl ?_
  refine AW.seq ?_
  refine AW.region (by kernel_rfl) ?_
  refine RunF.q (o_move rfl) rfl ?_
  refine RunF.q (o_move rfl) rfl ?_
  refine RunF.q (o_shl (m := Y) rfl rfl (by omega) eY) rfl ?_
  refine RunF.q (o_assign rfl) rfl ?_
  refine AW.seq ?_
  refine AW.region (by kernel_rfl) ?_
  refine RunF.q (o_move rfl) rfl ?_
  refine RunF.q (o_shr (m := yn1) rfl rfl (by decide) e1) rfl ?_
  refine RunF.q (o_assign rfl) rfl ?_
  refine AW.seq ?_
  refine AW.region (by kernel_rfl) ?_
  refine RunF.q (o_move rfl) rfl ?_
  refine RunF.q (o_and (m := yn0) rfl rfl e0) rfl ?_
  refine RunF.q (o_assign rfl) rfl ?_
  refine AW.seq ?_
  refine AW.region (by kernel_rfl) ?_
  refine RunF.q (o_move rfl) rfl ?_
  refine RunF.q (o_move rfl) rfl ?_
  refine RunF.q (o_shl rfl rfl (by omega) rfl) rfl ?_
  refine RunF.q (o_move rfl) rfl ?_
  refine RunF.q (o_move rfl) rfl ?_
  refine RunF.q (o_sub rfl rfl (u64_in _ (by omega))) rfl ?_
  refine RunF.q (o_shr rfl rfl (by omega) rfl) rfl ?_
  refine RunF.q (o_or (m := u32) rfl rfl e32) rfl ?_
  refine RunF.q (o_assign rfl) rfl ?_
  refine AW.seq ?_
  refine AW.region (by kernel_rfl) ?_
  refine RunF.q (o_move rfl) rfl ?_
  refine RunF.q (o_move rfl) rfl ?_
  refine RunF.q (o_shl (m := u10) rfl rfl (by omega) e10) rfl ?_
  refine RunF.q (o_assign rfl) rfl ?_
  refine AW.seq ?_
  refine AW.region (by kernel_rfl) ?_
  refine RunF.q (o_move rfl) rfl ?_
  refine RunF.q (o_shr (m := u1) rfl rfl (by decide) eu1) rfl ?_
  refine RunF.q (o_assign rfl) rfl ?_
  refine AW.seq ?_
  refine AW.region (by kernel_rfl) ?_
  refine RunF.q (o_move rfl) rfl ?_
  refine RunF.q (o_and (m := u0) rfl rfl eu0) rfl ?_
  refine RunF.q (o_assign rfl) rfl ?_
  refine AW.seq ?_
  refine AW.region (by kernel_rfl) ?_
  refine RunF.q (o_move rfl) rfl ?_
  refine RunF.q (o_move rfl) rfl ?_
  refine RunF.q (o_quo (m := q1) rfl rfl (by omega) eq1) rfl ?_
  refine RunF.q (o_assign rfl) rfl ?_
  refine AW.seq ?_
  refine AW.region (by kernel_rfl) ?_
  refine RunF.q (o_move rfl) rfl ?_
  refine RunF.q (o_move rfl) rfl ?_
  refine RunF.q (o_move rfl) rfl ?_
  refine RunF.q (o_mul rfl rfl rfl) rfl ?_
  refine RunF.q (o_sub (m := r1) rfl rfl er1) rfl ?_
  refine RunF.q (o_assign rfl) rfl ?_
  refine AW.seq ?_
  refine AW.block ?_
  refine AW.loop (α := {x : Nat × Int × Int // 0 ≤ x.2.2 ∧ x.2.2 < 4294967296 ∧ 4294967296 ≤ x.2.2 + (x.1 : Int) * 2147483648 ∧ adjF yn1 yn0 u1 x.1 x.2.1 x.2.2 = Q1}) (fun v : {x : Nat × Int × Int // 0 ≤ x.2.2 ∧ x.2.2 < 4294967296 ∧ 4294967296 ≤ x.2.2 + (x.1 : Int) * 2147483648 ∧ adjF yn1 yn0 u1 x.1 x.2.1 x.2.2 = Q1} => ([(2, .int .u64 Y), (8, .int .u64 s), (9, .int .u64 yn1), (10, .int .u64 yn0), (11, .int .u64 u32), (13, .int .u64 u1), (14, .int .u64 u0), (16, .int .u64 v.1.2.2), (15, .int .u64 v.1.2.1)], ⟨[], []⟩)) (fun v => v.1.1) (fun v => ?_) ⟨(2, q1, r1), by dsimp only; omega, by dsimp only; omega, by dsimp only; omega, eQ1⟩ ?_
  · obtain ⟨⟨n, q, r⟩, h1, h2, h3, h4⟩ := v
    dsimp only at h1 h2 h3 h4
    try dsimp only
    have hn : n ≠ 0 := by omega
    refine AW.seq ?_
    refine AW.seq ?_
    refine AW.region (by kernel_rfl) ?_
    refine RunF.q (o_move rfl) rfl ?_
    refine RunF.br (o_geq rfl rfl) rfl (fun hb17_1 => ?_) (fun hb17_1 => ?_)
    · try simp only [decide_eq_true_eq, decide_eq_false_iff_not, bne_iff_ne, beq_iff_eq, bne_eq_false_iff_eq, beq_eq_false_iff_ne, ne_eq, Bool.not_eq_true', Bool.not_eq_false'] at hb17_1
      refine RunF.q (o_move rfl) rfl ?_
      refine RunF.gs (b := true) rfl rfl ?_
      refine RunF.gs (b := true) rfl rfl ?_
      refine RunF.gs (b := true) rfl rfl ?_
      refine RunF.gs (b := true) rfl rfl ?_
      refine RunF.gs (b := true) rfl rfl ?_
      refine RunF.gs (b := true) rfl rfl ?_
      refine RunF.gs (b := true) rfl rfl ?_
      refine RunF.gs (b := true) rfl rfl ?_
      refine RunF.q (o_pick_t rfl rfl) rfl ?_
      refine AW.cond rfl (fun hc3 => ?_) (fun hc3 => absurd hc3 (by simp))
      have hC : adjC yn0 u1 q r = true := by first | exact adjC_l hb17_1 | exact adjC_r hc3
      refine AW.skip ?_
      refine AW.block ?_
      refine AW.seq ?_
      refine AW.region (by kernel_rfl) ?_
      refine RunF.q (o_move rfl) rfl ?_
      refine RunF.q (o_sub rfl rfl rfl) rfl ?_
      refine RunF.q (o_assign rfl) rfl ?_
      refine AW.seq ?_
      refine AW.region (by kernel_rfl) ?_
      refine RunF.q (o_move rfl) rfl ?_
      refine RunF.q (o_move rfl) rfl ?_
      refine RunF.q (o_add rfl rfl (u64_in _ (by omega))) rfl ?_
      refine RunF.q (o_assign rfl) rfl ?_
      refine AW.seq ?_
      refine AW.region (by kernel_rfl) ?_
      refine RunF.q (o_move rfl) rfl ?_
      refine RunF.q (o_geq rfl rfl) rfl ?_
      refine AW.cond rfl (fun hc4 => ?_) (fun hc4 => ?_)
      · try simp only [decide_eq_true_eq, decide_eq_false_iff_not, bne_iff_ne, beq_iff_eq, bne_eq_false_iff_eq, beq_eq_false_iff_ne, ne_eq, Bool.not_eq_true', Bool.not_eq_false'] at hc4
        rw [adjF_last hn h4 hC hc4]
        refine AW.exit ?_
        refine AW.seq ?_
        refine AW.region (by kernel_rfl) ?_
        refine RunF.q (o_move rfl) rfl ?_
        refine RunF.q (o_mul rfl rfl rfl) rfl ?_
        refine RunF.q (o_move rfl) rfl ?_
        refine RunF.q (o_add rfl rfl rfl) rfl ?_
        refine RunF.q (o_move rfl) rfl ?_
        refine RunF.q (o_move rfl) rfl ?_
        refine RunF.q (o_mul rfl rfl rfl) rfl ?_
        refine RunF.q (o_sub (m := U) rfl rfl eU) rfl ?_
        refine RunF.q (o_assign rfl) rfl ?_
        refine AW.seq ?_
        refine AW.region (by kernel_rfl) ?_
        refine RunF.q (o_move rfl) rfl ?_
        refine RunF.q (o_move rfl) rfl ?_
        refine RunF.q (o_quo (m := q0) rfl rfl (by omega) eq0) rfl ?_
        refine RunF.q (o_assign rfl) rfl ?_
        refine AW.seq ?_
        refine AW.region (by kernel_rfl) ?_
        refine RunF.q (o_move rfl) rfl ?_
        refine RunF.q (o_move rfl) rfl ?_
        refine RunF.q (o_move rfl) rfl ?_
        refine RunF.q (o_mul rfl rfl rfl) rfl ?_
        refine RunF.q (o_sub (m := r0) rfl rfl er0) rfl ?_
        refine RunF.q (o_assign rfl) rfl ?_
        refine AW.seq ?_
        refine AW.block ?_
        refine AW.loop (α := {x : Nat × Int × Int // 0 ≤ x.2.2 ∧ x.2.2 < 4294967296 ∧ 4294967296 ≤ x.2.2 + (x.1 : Int) * 2147483648 ∧ adjF yn1 yn0 u0 x.1 x.2.1 x.2.2 = Q0}) (fun v : {x : Nat × Int × Int // 0 ≤ x.2.2 ∧ x.2.2 < 4294967296 ∧ 4294967296 ≤ x.2.2 + (x.1 : Int) * 2147483648 ∧ adjF yn1 yn0 u0 x.1 x.2.1 x.2.2 = Q0} => ([(2, .int .u64 Y), (8, .int .u64 s), (9, .int .u64 yn1), (10, .int .u64 yn0), (14, .int .u64 u0), (15, .int .u64 Q1), (17, .int .u64 U), (16, .int .u64 v.1.2.2), (18, .int .u64 v.1.2.1)], ⟨[], []⟩)) (fun v => v.1.1) (fun v => ?_) ⟨(2, q0, r0), by dsimp only; omega, by dsimp only; omega, by dsimp only; omega, eQ0⟩ ?_
        · obtain ⟨⟨n, q, r⟩, h1, h2, h3, h4⟩ := v
          dsimp only at h1 h2 h3 h4
          try dsimp only
          have hn : n ≠ 0 := by omega
          refine AW.seq ?_
          refine AW.seq ?_
          refine AW.region (by kernel_rfl) ?_
          refine RunF.q (o_move rfl) rfl ?_
          refine RunF.br (o_geq rfl rfl) rfl (fun hb24_1 => ?_) (fun hb24_1 => ?_)
          · try simp only [decide_eq_true_eq, decide_eq_false_iff_not, bne_iff_ne, beq_iff_eq, bne_eq_false_iff_eq, beq_eq_false_iff_ne, ne_eq, Bool.not_eq_true', Bool.not_eq_false'] at hb24_1
            refine RunF.q (o_move rfl) rfl ?_
            refine RunF.gs (b := true) rfl rfl ?_
            refine RunF.gs (b := true) rfl rfl ?_
            refine RunF.gs (b := true) rfl rfl ?_
            refine RunF.gs (b := true) rfl rfl ?_
            refine RunF.gs (b := true) rfl rfl ?_
            refine RunF.gs (b := true) rfl rfl ?_
            refine RunF.gs (b := true) rfl rfl ?_
            refine RunF.gs (b := true) rfl rfl ?_
            refine RunF.q (o_pick_t rfl rfl) rfl ?_
            refine AW.cond rfl (fun hc5 => ?_) (fun hc5 => absurd hc5 (by simp))
            have hC : adjC yn0 u0 q r = true := by first | exact adjC_l hb24_1 | exact adjC_r hc5
            refine AW.skip ?_
            refine AW.block ?_
            refine AW.seq ?_
            refine AW.region (by kernel_rfl) ?_
            refine RunF.q (o_move rfl) rfl ?_
            refine RunF.q (o_sub rfl rfl rfl) rfl ?_
            refine RunF.q (o_assign rfl) rfl ?_
            refine AW.seq ?_
            refine AW.region (by kernel_rfl) ?_
            refine RunF.q (o_move rfl) rfl ?_
            refine RunF.q (o_move rfl) rfl ?_
            refine RunF.q (o_add rfl rfl (u64_in _ (by omega))) rfl ?_
            refine RunF.q (o_assign rfl) rfl ?_
            refine AW.seq ?_
            refine AW.region (by kernel_rfl) ?_
            refine RunF.q (o_move rfl) rfl ?_
            refine RunF.q (o_geq rfl rfl) rfl ?_
            refine AW.cond rfl (fun hc6 => ?_) (fun hc6 => ?_)
            · try simp only [decide_eq_true_eq, decide_eq_false_iff_not, bne_iff_ne, beq_iff_eq, bne_eq_false_iff_eq, beq_eq_false_iff_ne, ne_eq, Bool.not_eq_true', Bool.not_eq_false'] at hc6
              rw [adjF_last hn h4 hC hc6]
              refine AW.exit ?_
              refine AW.seq ?_
              refine AW.region (by kernel_rfl) ?_
              refine RunF.q (o_move rfl) rfl ?_
              refine RunF.q (o_mul rfl rfl rfl) rfl ?_
              refine RunF.q (o_move rfl) rfl ?_
              refine RunF.q (o_add (m := A) rfl rfl eA) rfl ?_
              refine RunF.q (o_move rfl) rfl ?_
              refine RunF.q (o_mul rfl rfl rfl) rfl ?_
              refine RunF.q (o_move rfl) rfl ?_
              refine RunF.q (o_add rfl rfl rfl) rfl ?_
              refine RunF.q (o_move rfl) rfl ?_
              refine RunF.q (o_move rfl) rfl ?_
              refine RunF.q (o_mul rfl rfl rfl) rfl ?_
              refine RunF.q (o_sub rfl rfl rfl) rfl ?_
              refine RunF.q (o_move rfl) rfl ?_
              refine RunF.q (o_shr (m := R) rfl rfl (by omega) eR) rfl ?_
              refine RunF.q (o_assign rfl) rfl ?_
              refine RunF.q (o_assign rfl) rfl ?_
              refine AW.ret ?_
              exact FinQ.ret [] [] (ress_tmp rfl (ress_tmp rfl ress_nil)) rfl (by first | exact RowsO.nil | skip) (by first | exact RowsR.nil | skip) nR
            · try simp only [decide_eq_true_eq, decide_eq_false_iff_not, bne_iff_ne, beq_iff_eq, bne_eq_false_iff_eq, beq_eq_false_iff_ne, ne_eq, Bool.not_eq_true', Bool.not_eq_false'] at hc6
              refine AW.skip ?_
              exact ⟨⟨(n - 1, IntKind.u64.wrap (q - 1), r + yn1), by dsimp only; omega, by dsimp only; omega, by dsimp only; omega, adjF_go hn h4 hC hc6⟩, Wk.same rfl (.cons rfl (.cons rfl (.cons rfl (.cons rfl (.cons rfl (.cons rfl (.cons rfl (.cons rfl (.cons rfl .nil))))))))), by dsimp only; omega⟩
          · try simp only [decide_eq_true_eq, decide_eq_false_iff_not, bne_iff_ne, beq_iff_eq, bne_eq_false_iff_eq, beq_eq_false_iff_ne, ne_eq, Bool.not_eq_true', Bool.not_eq_false'] at hb24_1
            refine RunF.q (o_move rfl) rfl ?_
            refine RunF.gq rfl (o_move rfl) rfl ?_
            refine RunF.gq rfl (o_move rfl) rfl ?_
            refine RunF.gq rfl (o_mul rfl rfl rfl) rfl ?_
            refine RunF.gq rfl (o_move rfl) rfl ?_
            refine RunF.gq rfl (o_mul rfl rfl rfl) rfl ?_
            refine RunF.gq rfl (o_move rfl) rfl ?_
            refine RunF.gq rfl (o_add rfl rfl rfl) rfl ?_
            refine RunF.gq rfl (o_gtr rfl rfl) rfl ?_
            refine RunF.q (o_pick_f rfl rfl) rfl ?_
            refine AW.cond rfl (fun hc5 => ?_) (fun hc5 => ?_)
            · try simp only [decide_eq_true_eq, decide_eq_false_iff_not, bne_iff_ne, beq_iff_eq, bne_eq_false_iff_eq, beq_eq_false_iff_ne, ne_eq, Bool.not_eq_true', Bool.not_eq_false'] at hc5
              have hC : adjC yn0 u0 q r = true := by first | exact adjC_l hb24_1 | exact adjC_r hc5
              refine AW.skip ?_
              refine AW.block ?_
              refine AW.seq ?_
              refine AW.region (by kernel_rfl) ?_
              refine RunF.q (o_move rfl) rfl ?_
              refine RunF.q (o_sub rfl rfl rfl) rfl ?_
              refine RunF.q (o_assign rfl) rfl ?_
              refine AW.seq ?_
              refine AW.region (by kernel_rfl) ?_
              refine RunF.q (o_move rfl) rfl ?_
              refine RunF.q (o_move rfl) rfl ?_
              refine RunF.q (o_add rfl rfl (u64_in _ (by omega))) rfl ?_
              refine RunF.q (o_assign rfl) rfl ?_
              refine AW.seq ?_
              refine AW.region (by kernel_rfl) ?_
              refine RunF.q (o_move rfl) rfl ?_
              refine RunF.q (o_geq rfl rfl) rfl ?_
              refine AW.cond rfl (fun hc6 => ?_) (fun hc6 => ?_)
              · try simp only [decide_eq_true_eq, decide_eq_false_iff_not, bne_iff_ne, beq_iff_eq, bne_eq_false_iff_eq, beq_eq_false_iff_ne, ne_eq, Bool.not_eq_true', Bool.not_eq_false'] at hc6
                rw [adjF_last hn h4 hC hc6]
                refine AW.exit ?_
                refine AW.seq ?_
                refine AW.region (by kernel_rfl) ?_
                refine RunF.q (o_move rfl) rfl ?_
                refine RunF.q (o_mul rfl rfl rfl) rfl ?_
                refine RunF.q (o_move rfl) rfl ?_
                refine RunF.q (o_add (m := A) rfl rfl eA) rfl ?_
                refine RunF.q (o_move rfl) rfl ?_
                refine RunF.q (o_mul rfl rfl rfl) rfl ?_
                refine RunF.q (o_move rfl) rfl ?_
                refine RunF.q (o_add rfl rfl rfl) rfl ?_
                refine RunF.q (o_move rfl) rfl ?_
                refine RunF.q (o_move rfl) rfl ?_
                refine RunF.q (o_mul rfl rfl rfl) rfl ?_
                refine RunF.q (o_sub rfl rfl rfl) rfl ?_
                refine RunF.q (o_move rfl) rfl ?_
                refine RunF.q (o_shr (m := R) rfl rfl (by omega) eR) rfl ?_
                refine RunF.q (o_assign rfl) rfl ?_
                refine RunF.q (o_assign rfl) rfl ?_
                refine AW.ret ?_
                exact FinQ.ret [] [] (ress_tmp rfl (ress_tmp rfl ress_nil)) rfl (by first | exact RowsO.nil | skip) (by first | exact RowsR.nil | skip) nR
              · try simp only [decide_eq_true_eq, decide_eq_false_iff_not, bne_iff_ne, beq_iff_eq, bne_eq_false_iff_eq, beq_eq_false_iff_ne, ne_eq, Bool.not_eq_true', Bool.not_eq_false'] at hc6
                refine AW.skip ?_
                exact ⟨⟨(n - 1, IntKind.u64.wrap (q - 1), r + yn1), by dsimp only; omega, by dsimp only; omega, by dsimp only; omega, adjF_go hn h4 hC hc6⟩, Wk.same rfl (.cons rfl (.cons rfl (.cons rfl (.cons rfl (.cons rfl (.cons rfl (.cons rfl (.cons rfl (.cons rfl .nil))))))))), by dsimp only; omega⟩
            · try simp only [decide_eq_true_eq, decide_eq_false_iff_not, bne_iff_ne, beq_iff_eq, bne_eq_false_iff_eq, beq_eq_false_iff_ne, ne_eq, Bool.not_eq_true', Bool.not_eq_false'] at hc5
              obtain rfl : Q0 = q := (adjF_stop hn h4 (adjC_no hb24_1 hc5)).symm
              refine AW.exit ?_
              refine AW.seq ?_
              refine AW.region (by kernel_rfl) ?_
              refine RunF.q (o_move rfl) rfl ?_
              refine RunF.q (o_mul rfl rfl rfl) rfl ?_
              refine RunF.q (o_move rfl) rfl ?_
              refine RunF.q (o_add (m := A) rfl rfl eA) rfl ?_
              refine RunF.q (o_move rfl) rfl ?_
              refine RunF.q (o_mul rfl rfl rfl) rfl ?_
              refine RunF.q (o_move rfl) rfl ?_
              refine RunF.q (o_add rfl rfl rfl) rfl ?_
              refine RunF.q (o_move rfl) rfl ?_
              refine RunF.q (o_move rfl) rfl ?_
              refine RunF.q (o_mul rfl rfl rfl) rfl ?_
              refine RunF.q (o_sub rfl rfl rfl) rfl ?_
              refine RunF.q (o_move rfl) rfl ?_
              refine RunF.q (o_shr (m := R) rfl rfl (by omega) eR) rfl ?_
              refine RunF.q (o_assign rfl) rfl ?_
              refine RunF.q (o_assign rfl) rfl ?_
              refine AW.ret ?_
              exact FinQ.ret [] [] (ress_tmp rfl (ress_tmp rfl ress_nil)) rfl (by first | exact RowsO.nil | skip) (by first | exact RowsR.nil | skip) nR
        · exact Wk.same rfl (.cons rfl (.cons rfl (.cons rfl (.cons rfl (.cons rfl (.cons rfl (.cons rfl (.cons rfl (.cons rfl .nil)))))))))
      · try simp only [decide_eq_true_eq, decide_eq_false_iff_not, bne_iff_ne, beq_iff_eq, bne_eq_false_iff_eq, beq_eq_false_iff_ne, ne_eq, Bool.not_eq_true', Bool.not_eq_false'] at hc4
        refine AW.skip ?_
        exact ⟨⟨(n - 1, IntKind.u64.wrap (q - 1), r + yn1), by dsimp only; omega, by dsimp only; omega, by dsimp only; omega, adjF_go hn h4 hC hc4⟩, Wk.same rfl (.cons rfl (.cons rfl (.cons rfl (.cons rfl (.cons rfl (.cons rfl (.cons rfl (.cons rfl (.cons rfl .nil))))))))), by dsimp only; omega⟩
    · try simp only [decide_eq_true_eq, decide_eq_false_iff_not, bne_iff_ne, beq_iff_eq, bne_eq_false_iff_eq, beq_eq_false_iff_ne, ne_eq, Bool.not_eq_true', Bool.not_eq_false'] at hb17_1
      refine RunF.q (o_move rfl) rfl ?_
      refine RunF.gq rfl (o_move rfl) rfl ?_
      refine RunF.gq rfl (o_move rfl) rfl ?_
      refine RunF.gq rfl (o_mul rfl rfl rfl) rfl ?_
      refine RunF.gq rfl (o_move rfl) rfl ?_
      refine RunF.gq rfl (o_mul rfl rfl rfl) rfl ?_
      refine RunF.gq rfl (o_move rfl) rfl ?_
      refine RunF.gq rfl (o_add rfl rfl rfl) rfl ?_
      refine RunF.gq rfl (o_gtr rfl rfl) rfl ?_
      refine RunF.q (o_pick_f rfl rfl) rfl ?_
      refine AW.cond rfl (fun hc3 => ?_) (fun hc3 => ?_)
      · try simp only [decide_eq_true_eq, decide_eq_false_iff_not, bne_iff_ne, beq_iff_eq, bne_eq_false_iff_eq, beq_eq_false_iff_ne, ne_eq, Bool.not_eq_true', Bool.not_eq_false'] at hc3
        have hC : adjC yn0 u1 q r = true := by first | exact adjC_l hb17_1 | exact adjC_r hc3
        refine AW.skip ?_
        refine AW.block ?_
        refine AW.seq ?_
        refine AW.region (by kernel_rfl) ?_
        refine RunF.q (o_move rfl) rfl ?_
        refine RunF.q (o_sub rfl rfl rfl) rfl ?_
        refine RunF.q (o_assign rfl) rfl ?_
        refine AW.seq ?_
        refine AW.region (by kernel_rfl) ?_
        refine RunF.q (o_move rfl) rfl ?_
        refine RunF.q (o_move rfl) rfl ?_
        refine RunF.q (o_add rfl rfl (u64_in _ (by omega))) rfl ?_
        refine RunF.q (o_assign rfl) rfl ?_
        refine AW.seq ?_
        refine AW.region (by kernel_rfl) ?_
        refine RunF.q (o_move rfl) rfl ?_
        refine RunF.q (o_geq rfl rfl) rfl ?_
        refine AW.cond rfl (fun hc4 => ?_) (fun hc4 => ?_)
        · try simp only [decide_eq_true_eq, decide_eq_false_iff_not, bne_iff_ne, beq_iff_eq, bne_eq_false_iff_eq, beq_eq_false_iff_ne, ne_eq, Bool.not_eq_true', Bool.not_eq_false'] at hc4
          rw [adjF_last hn h4 hC hc4]
          refine AW.exit ?_
          refine AW.seq ?_
          refine AW.region (by kernel_rfl) ?_
          refine RunF.q (o_move rfl) rfl ?_
          refine RunF.q (o_mul rfl rfl rfl) rfl ?_
          refine RunF.q (o_move rfl) rfl ?_
          refine RunF.q (o_add rfl rfl rfl) rfl ?_
          refine RunF.q (o_move rfl) rfl ?_
          refine RunF.q (o_move rfl) rfl ?_
          refine RunF.q (o_mul rfl rfl rfl) rfl ?_
          refine RunF.q (o_sub (m := U) rfl rfl eU) rfl ?_
          refine RunF.q (o_assign rfl) rfl ?_
          refine AW.seq ?_
          refine AW.region (by kernel_rfl) ?_
          refine RunF.q (o_move rfl) rfl ?_
          refine RunF.q (o_move rfl) rfl ?_
          refine RunF.q (o_quo (m := q0) rfl rfl (by omega) eq0) rfl ?_
          refine RunF.q (o_assign rfl) rfl ?_
          refine AW.seq ?_
          refine AW.region (by kernel_rfl) ?_
          refine RunF.q (o_move rfl) rfl ?_
          refine RunF.q (o_move rfl) rfl ?_
          refine RunF.q (o_move rfl) rfl ?_
          refine RunF.q (o_mul rfl rfl rfl) rfl ?_
          refine RunF.q (o_sub (m := r0) rfl rfl er0) rfl ?_
          refine RunF.q (o_assign rfl) rfl ?_
          refine AW.seq ?_
          refine AW.block ?_
          refine AW.loop (α := {x : Nat × Int × Int // 0 ≤ x.2.2 ∧ x.2.2 < 4294967296 ∧ 4294967296 ≤ x.2.2 + (x.1 : Int) * 2147483648 ∧ adjF yn1 yn0 u0 x.1 x.2.1 x.2.2 = Q0}) (fun v : {x : Nat × Int × Int // 0 ≤ x.2.2 ∧ x.2.2 < 4294967296 ∧ 4294967296 ≤ x.2.2 + (x.1 : Int) * 2147483648 ∧ adjF yn1 yn0 u0 x.1 x.2.1 x.2.2 = Q0} => ([(2, .int .u64 Y), (8, .int .u64 s), (9, .int .u64 yn1), (10, .int .u64 yn0), (14, .int .u64 u0), (15, .int .u64 Q1), (17, .int .u64 U), (16, .int .u64 v.1.2.2), (18, .int .u64 v.1.2.1)], ⟨[], []⟩)) (fun v => v.1.1) (fun v => ?_) ⟨(2, q0, r0), by dsimp only; omega, by dsimp only; omega, by dsimp only; omega, eQ0⟩ ?_
          · obtain ⟨⟨n, q, r⟩, h1, h2, h3, h4⟩ := v
            dsimp only at h1 h2 h3 h4
            try dsimp only
            have hn : n ≠ 0 := by omega
            refine AW.seq ?_
            refine AW.seq ?_
            refine AW.region (by kernel_rfl) ?_
            refine RunF.q (o_move rfl) rfl ?_
            refine RunF.br (o_geq rfl rfl) rfl (fun hb24_1 => ?_) (fun hb24_1 => ?_)
            · try simp only [decide_eq_true_eq, decide_eq_false_iff_not, bne_iff_ne, beq_iff_eq, bne_eq_false_iff_eq, beq_eq_false_iff_ne, ne_eq, Bool.not_eq_true', Bool.not_eq_false'] at hb24_1
              refine RunF.q (o_move rfl) rfl ?_
              refine RunF.gs (b := true) rfl rfl ?_
              refine RunF.gs (b := true) rfl rfl ?_
              refine RunF.gs (b := true) rfl rfl ?_
              refine RunF.gs (b := true) rfl rfl ?_
              refine RunF.gs (b := true) rfl rfl ?_
              refine RunF.gs (b := true) rfl rfl ?_
              refine RunF.gs (b := true) rfl rfl ?_
              refine RunF.gs (b := true) rfl rfl ?_
              refine RunF.q (o_pick_t rfl rfl) rfl ?_
              refine AW.cond rfl (fun hc5 => ?_) (fun hc5 => absurd hc5 (by simp))
              have hC : adjC yn0 u0 q r = true := by first | exact adjC_l hb24_1 | exact adjC_r hc5
              refine AW.skip ?_
              refine AW.block ?_
              refine AW.seq ?_
              refine AW.region (by kernel_rfl) ?_
              refine RunF.q (o_move rfl) rfl ?_
              refine RunF.q (o_sub rfl rfl rfl) rfl ?_
              refine RunF.q (o_assign rfl) rfl ?_
              refine AW.seq ?_
              refine AW.region (by kernel_rfl) ?_
              refine RunF.q (o_move rfl) rfl ?_
              refine RunF.q (o_move rfl) rfl ?_
              refine RunF.q (o_add rfl rfl (u64_in _ (by omega))) rfl ?_
              refine RunF.q (o_assign rfl) rfl ?_
              refine AW.seq ?_
              refine AW.region (by kernel_rfl) ?_
              refine RunF.q (o_move rfl) rfl ?_
              refine RunF.q (o_geq rfl rfl) rfl ?_
              refine AW.cond rfl (fun hc6 => ?_) (fun hc6 => ?_)
              · try simp only [decide_eq_true_eq, decide_eq_false_iff_not, bne_iff_ne, beq_iff_eq, bne_eq_false_iff_eq, beq_eq_false_iff_ne, ne_eq, Bool.not_eq_true', Bool.not_eq_false'] at hc6
                rw [adjF_last hn h4 hC hc6]
                refine AW.exit ?_
                refine AW.seq ?_
                refine AW.region (by kernel_rfl) ?_
                refine RunF.q (o_move rfl) rfl ?_
                refine RunF.q (o_mul rfl rfl rfl) rfl ?_
                refine RunF.q (o_move rfl) rfl ?_
                refine RunF.q (o_add (m := A) rfl rfl eA) rfl ?_
                refine RunF.q (o_move rfl) rfl ?_
                refine RunF.q (o_mul rfl rfl rfl) rfl ?_
                refine RunF.q (o_move rfl) rfl ?_
                refine RunF.q (o_add rfl rfl rfl) rfl ?_
                refine RunF.q (o_move rfl) rfl ?_
                refine RunF.q (o_move rfl) rfl ?_
                refine RunF.q (o_mul rfl rfl rfl) rfl ?_
                refine RunF.q (o_sub rfl rfl rfl) rfl ?_
                refine RunF.q (o_move rfl) rfl ?_
                refine RunF.q (o_shr (m := R) rfl rfl (by omega) eR) rfl ?_
                refine RunF.q (o_assign rfl) rfl ?_
                refine RunF.q (o_assign rfl) rfl ?_
                refine AW.ret ?_
                exact FinQ.ret [] [] (ress_tmp rfl (ress_tmp rfl ress_nil)) rfl (by first | exact RowsO.nil | skip) (by first | exact RowsR.nil | skip) nR
              · try simp only [decide_eq_true_eq, decide_eq_false_iff_not, bne_iff_ne, beq_iff_eq, bne_eq_false_iff_eq, beq_eq_false_iff_ne, ne_eq, Bool.not_eq_true', Bool.not_eq_false'] at hc6
                refine AW.skip ?_
                exact ⟨⟨(n - 1, IntKind.u64.wrap (q - 1), r + yn1), by dsimp only; omega, by dsimp only; omega, by dsimp only; omega, adjF_go hn h4 hC hc6⟩, Wk.same rfl (.cons rfl (.cons rfl (.cons rfl (.cons rfl (.cons rfl (.cons rfl (.cons rfl (.cons rfl (.cons rfl .nil))))))))), by dsimp only; omega⟩
            · try simp only [decide_eq_true_eq, decide_eq_false_iff_not, bne_iff_ne, beq_iff_eq, bne_eq_false_iff_eq, beq_eq_false_iff_ne, ne_eq, Bool.not_eq_true', Bool.not_eq_false'] at hb24_1
              refine RunF.q (o_move rfl) rfl ?_
              refine RunF.gq rfl (o_move rfl) rfl ?_
              refine RunF.gq rfl (o_move rfl) rfl ?_
              refine RunF.gq rfl (o_mul rfl rfl rfl) rfl ?_
              refine RunF.gq rfl (o_move rfl) rfl ?_
              refine RunF.gq rfl (o_mul rfl rfl rfl) rfl ?_
              refine RunF.gq rfl (o_move rfl) rfl ?_
              refine RunF.gq rfl (o_add rfl rfl rfl) rfl ?_
              refine RunF.gq rfl (o_gtr rfl rfl) rfl ?_
              refine RunF.q (o_pick_f rfl rfl) rfl ?_
              refine AW.cond rfl (fun hc5 => ?_) (fun hc5 => ?_)
              · try simp only [decide_eq_true_eq, decide_eq_false_iff_not, bne_iff_ne, beq_iff_eq, bne_eq_false_iff_eq, beq_eq_false_iff_ne, ne_eq, Bool.not_eq_true', Bool.not_eq_false'] at hc5
                have hC : adjC yn0 u0 q r = true := by first | exact adjC_l hb24_1 | exact adjC_r hc5
                refine AW.skip ?_
                refine AW.block ?_
                refine AW.seq ?_
                refine AW.region (by kernel_rfl) ?_
                refine RunF.q (o_move rfl) rfl ?_
                refine RunF.q (o_sub rfl rfl rfl) rfl ?_
                refine RunF.q (o_assign rfl) rfl ?_
                refine AW.seq ?_
                refine AW.region (by kernel_rfl) ?_
                refine RunF.q (o_move rfl) rfl ?_
                refine RunF.q (o_move rfl) rfl ?_
                refine RunF.q (o_add rfl rfl (u64_in _ (by omega))) rfl ?_
                refine RunF.q (o_assign rfl) rfl ?_
                refine AW.seq ?_
                refine AW.region (by kernel_rfl) ?_
                refine RunF.q (o_move rfl) rfl ?_
                refine RunF.q (o_geq rfl rfl) rfl ?_
                refine AW.cond rfl (fun hc6 => ?_) (fun hc6 => ?_)
                · try simp only [decide_eq_true_eq, decide_eq_false_iff_not, bne_iff_ne, beq_iff_eq, bne_eq_false_iff_eq, beq_eq_false_iff_ne, ne_eq, Bool.not_eq_true', Bool.not_eq_false'] at hc6
                  rw [adjF_last hn h4 hC hc6]
                  refine AW.exit ?_
                  refine AW.seq ?_
                  refine AW.region (by kernel_rfl) ?_
                  refine RunF.q (o_move rfl) rfl ?_
                  refine RunF.q (o_mul rfl rfl rfl) rfl ?_
                  refine RunF.q (o_move rfl) rfl ?_
                  refine RunF.q (o_add (m := A) rfl rfl eA) rfl ?_
                  refine RunF.q (o_move rfl) rfl ?_
                  refine RunF.q (o_mul rfl rfl rfl) rfl ?_
                  refine RunF.q (o_move rfl) rfl ?_
                  refine RunF.q (o_add rfl rfl rfl) rfl ?_
                  refine RunF.q (o_move rfl) rfl ?_
                  refine RunF.q (o_move rfl) rfl ?_
                  refine RunF.q (o_mul rfl rfl rfl) rfl ?_
                  refine RunF.q (o_sub rfl rfl rfl) rfl ?_
                  refine RunF.q (o_move rfl) rfl ?_
                  refine RunF.q (o_shr (m := R) rfl rfl (by omega) eR) rfl ?_
                  refine RunF.q (o_assign rfl) rfl ?_
                  refine RunF.q (o_assign rfl) rfl ?_
                  refine AW.ret ?_
                  exact FinQ.ret [] [] (ress_tmp rfl (ress_tmp rfl ress_nil)) rfl (by first | exact RowsO.nil | skip) (by first | exact RowsR.nil | skip) nR
                · try simp only [decide_eq_true_eq, decide_eq_false_iff_not, bne_iff_ne, beq_iff_eq, bne_eq_false_iff_eq, beq_eq_false_iff_ne, ne_eq, Bool.not_eq_true', Bool.not_eq_false'] at hc6
                  refine AW.skip ?_
                  exact ⟨⟨(n - 1, IntKind.u64.wrap (q - 1), r + yn1), by dsimp only; omega, by dsimp only; omega, by dsimp only; omega, adjF_go hn h4 hC hc6⟩, Wk.same rfl (.cons rfl (.cons rfl (.cons rfl (.cons rfl (.cons rfl (.cons rfl (.cons rfl (.cons rfl (.cons rfl .nil))))))))), by dsimp only; omega⟩
              · try simp only [decide_eq_true_eq, decide_eq_false_iff_not, bne_iff_ne, beq_iff_eq, bne_eq_false_iff_eq, beq_eq_false_iff_ne, ne_eq, Bool.not_eq_true', Bool.not_eq_false'] at hc5
                obtain rfl : Q0 = q := (adjF_stop hn h4 (adjC_no hb24_1 hc5)).symm
                refine AW.exit ?_
                refine AW.seq ?_
                refine AW.region (by kernel_rfl) ?_
                refine RunF.q (o_move rfl) rfl ?_
                refine RunF.q (o_mul rfl rfl rfl) rfl ?_
                refine RunF.q (o_move rfl) rfl ?_
                refine RunF.q (o_add (m := A) rfl rfl eA) rfl ?_
                refine RunF.q (o_move rfl) rfl ?_
                refine RunF.q (o_mul rfl rfl rfl) rfl ?_
                refine RunF.q (o_move rfl) rfl ?_
                refine RunF.q (o_add rfl rfl rfl) rfl ?_
                refine RunF.q (o_move rfl) rfl ?_
                refine RunF.q (o_move rfl) rfl ?_
                refine RunF.q (o_mul rfl rfl rfl) rfl ?_
                refine RunF.q (o_sub rfl rfl rfl) rfl ?_
                refine RunF.q (o_move rfl) rfl ?_
                refine RunF.q (o_shr (m := R) rfl rfl (by omega) eR) rfl ?_
                refine RunF.q (o_assign rfl) rfl ?_
                refine RunF.q (o_assign rfl) rfl ?_
                refine AW.ret ?_
                exact FinQ.ret [] [] (ress_tmp rfl (ress_tmp rfl ress_nil)) rfl (by first | exact RowsO.nil | skip) (by first | exact RowsR.nil | skip) nR
          · exact Wk.same rfl (.cons rfl (.cons rfl (.cons rfl (.cons rfl (.cons rfl (.cons rfl (.cons rfl (.cons rfl (.cons rfl .nil)))))))))
        · try simp only [decide_eq_true_eq, decide_eq_false_iff_not, bne_iff_ne, beq_iff_eq, bne_eq_false_iff_eq, beq_eq_false_iff_ne, ne_eq, Bool.not_eq_true', Bool.not_eq_false'] at hc4
          refine AW.skip ?_
          exact ⟨⟨(n - 1, IntKind.u64.wrap (q - 1), r + yn1), by dsimp only; omega, by dsimp only; omega, by dsimp only; omega, adjF_go hn h4 hC hc4⟩, Wk.same rfl (.cons rfl (.cons rfl (.cons rfl (.cons rfl (.cons rfl (.cons rfl (.cons rfl (.cons rfl (.cons rfl .nil))))))))), by dsimp only; omega⟩
      · try simp only [decide_eq_true_eq, decide_eq_false_iff_not, bne_iff_ne, beq_iff_eq, bne_eq_false_iff_eq, beq_eq_false_iff_ne, ne_eq, Bool.not_eq_true', Bool.not_eq_false'] at hc3
        obtain rfl : Q1 = q := (adjF_stop hn h4 (adjC_no hb17_1 hc3)).symm
        refine AW.exit ?_
        refine AW.seq ?_
        refine AW.region (by kernel_rfl) ?_
        refine RunF.q (o_move rfl) rfl ?_
        refine RunF.q (o_mul rfl rfl rfl) rfl ?_
        refine RunF.q (o_move rfl) rfl ?_
        refine RunF.q (o_add rfl rfl rfl) rfl ?_
        refine RunF.q (o_move rfl) rfl ?_
        refine RunF.q (o_move rfl) rfl ?_
        refine RunF.q (o_mul rfl rfl rfl) rfl ?_
        refine RunF.q (o_sub (m := U) rfl rfl eU) rfl ?_
        refine RunF.q (o_assign rfl) rfl ?_
        refine AW.seq ?_
        refine AW.region (by kernel_rfl) ?_
        refine RunF.q (o_move rfl) rfl ?_
        refine RunF.q (o_move rfl) rfl ?_
        refine RunF.q (o_quo (m := q0) rfl rfl (by omega) eq0) rfl ?_
        refine RunF.q (o_assign rfl) rfl ?_
        refine AW.seq ?_
        refine AW.region (by kernel_rfl) ?_
        refine RunF.q (o_move rfl) rfl ?_
        refine RunF.q (o_move rfl) rfl ?_
        refine RunF.q (o_move rfl) rfl ?_
        refine RunF.q (o_mul rfl rfl rfl) rfl ?_
        refine RunF.q (o_sub (m := r0) rfl rfl er0) rfl ?_
        refine RunF.q (o_assign rfl) rfl ?_
        refine AW.seq ?_
        refine AW.block ?_
        refine AW.loop (α := {x : Nat × Int × Int // 0 ≤ x.2.2 ∧ x.2.2 < 4294967296 ∧ 4294967296 ≤ x.2.2 + (x.1 : Int) * 2147483648 ∧ adjF yn1 yn0 u0 x.1 x.2.1 x.2.2 = Q0}) (fun v : {x : Nat × Int × Int // 0 ≤ x.2.2 ∧ x.2.2 < 4294967296 ∧ 4294967296 ≤ x.2.2 + (x.1 : Int) * 2147483648 ∧ adjF yn1 yn0 u0 x.1 x.2.1 x.2.2 = Q0} => ([(2, .int .u64 Y), (8, .int .u64 s), (9, .int .u64 yn1), (10, .int .u64 yn0), (14, .int .u64 u0), (15, .int .u64 Q1), (17, .int .u64 U), (16, .int .u64 v.1.2.2), (18, .int .u64 v.1.2.1)], ⟨[], []⟩)) (fun v => v.1.1) (fun v => ?_) ⟨(2, q0, r0), by dsimp only; omega, by dsimp only; omega, by dsimp only; omega, eQ0⟩ ?_
        · obtain ⟨⟨n, q, r⟩, h1, h2, h3, h4⟩ := v
          dsimp only at h1 h2 h3 h4
          try dsimp only
          have hn : n ≠ 0 := by omega
          refine AW.seq ?_
          refine AW.seq ?_
          refine AW.region (by kernel_rfl) ?_
          refine RunF.q (o_move rfl) rfl ?_
          refine RunF.br (o_geq rfl rfl) rfl (fun hb24_1 => ?_) (fun hb24_1 => ?_)
          · try simp only [decide_eq_true_eq, decide_eq_false_iff_not, bne_iff_ne, beq_iff_eq, bne_eq_false_iff_eq, beq_eq_false_iff_ne, ne_eq, Bool.not_eq_true', Bool.not_eq_false'] at hb24_1
            refine RunF.q (o_move rfl) rfl ?_
            refine RunF.gs (b := true) rfl rfl ?_
            refine RunF.gs (b := true) rfl rfl ?_
            refine RunF.gs (b := true) rfl rfl ?_
            refine RunF.gs (b := true) rfl rfl ?_
            refine RunF.gs (b := true) rfl rfl ?_
            refine RunF.gs (b := true) rfl rfl ?_
            refine RunF.gs (b := true) rfl rfl ?_
            refine RunF.gs (b := true) rfl rfl ?_
            refine RunF.q (o_pick_t rfl rfl) rfl ?_
            refine AW.cond rfl (fun hc5 => ?_) (fun hc5 => absurd hc5 (by simp))
            have hC : adjC yn0 u0 q r = true := by first | exact adjC_l hb24_1 | exact adjC_r hc5
            refine AW.skip ?_
            refine AW.block ?_
            refine AW.seq ?_
            refine AW.region (by kernel_rfl) ?_
            refine RunF.q (o_move rfl) rfl ?_
            refine RunF.q (o_sub rfl rfl rfl) rfl ?_
            refine RunF.q (o_assign rfl) rfl ?_
            refine AW.seq ?_
            refine AW.region (by kernel_rfl) ?_
            refine RunF.q (o_move rfl) rfl ?_
            refine RunF.q (o_move rfl) rfl ?_
            refine RunF.q (o_add rfl rfl (u64_in _ (by omega))) rfl ?_
            refine RunF.q (o_assign rfl) rfl ?_
            refine AW.seq ?_
            refine AW.region (by kernel_rfl) ?_
            refine RunF.q (o_move rfl) rfl ?_
            refine RunF.q (o_geq rfl rfl) rfl ?_
            refine AW.cond rfl (fun hc6 => ?_) (fun hc6 => ?_)
            · try simp only [decide_eq_true_eq, decide_eq_false_iff_not, bne_iff_ne, beq_iff_eq, bne_eq_false_iff_eq, beq_eq_false_iff_ne, ne_eq, Bool.not_eq_true', Bool.not_eq_false'] at hc6
              rw [adjF_last hn h4 hC hc6]
              refine AW.exit ?_
              refine AW.seq ?_
              refine AW.region (by kernel_rfl) ?_
              refine RunF.q (o_move rfl) rfl ?_
              refine RunF.q (o_mul rfl rfl rfl) rfl ?_
              refine RunF.q (o_move rfl) rfl ?_
              refine RunF.q (o_add (m := A) rfl rfl eA) rfl ?_
              refine RunF.q (o_move rfl) rfl ?_
              refine RunF.q (o_mul rfl rfl rfl) rfl ?_
              refine RunF.q (o_move rfl) rfl ?_
              refine RunF.q (o_add rfl rfl rfl) rfl ?_
              refine RunF.q (o_move rfl) rfl ?_
              refine RunF.q (o_move rfl) rfl ?_
              refine RunF.q (o_mul rfl rfl rfl) rfl ?_
              refine RunF.q (o_sub rfl rfl rfl) rfl ?_
              refine RunF.q (o_move rfl) rfl ?_
              refine RunF.q (o_shr (m := R) rfl rfl (by omega) eR) rfl ?_
              refine RunF.q (o_assign rfl) rfl ?_
              refine RunF.q (o_assign rfl) rfl ?_
              refine AW.ret ?_
              exact FinQ.ret [] [] (ress_tmp rfl (ress_tmp rfl ress_nil)) rfl (by first | exact RowsO.nil | skip) (by first | exact RowsR.nil | skip) nR
            · try simp only [decide_eq_true_eq, decide_eq_false_iff_not, bne_iff_ne, beq_iff_eq, bne_eq_false_iff_eq, beq_eq_false_iff_ne, ne_eq, Bool.not_eq_true', Bool.not_eq_false'] at hc6
              refine AW.skip ?_
              exact ⟨⟨(n - 1, IntKind.u64.wrap (q - 1), r + yn1), by dsimp only; omega, by dsimp only; omega, by dsimp only; omega, adjF_go hn h4 hC hc6⟩, Wk.same rfl (.cons rfl (.cons rfl (.cons rfl (.cons rfl (.cons rfl (.cons rfl (.cons rfl (.cons rfl (.cons rfl .nil))))))))), by dsimp only; omega⟩
          · try simp only [decide_eq_true_eq, decide_eq_false_iff_not, bne_iff_ne, beq_iff_eq, bne_eq_false_iff_eq, beq_eq_false_iff_ne, ne_eq, Bool.not_eq_true', Bool.not_eq_false'] at hb24_1
            refine RunF.q (o_move rfl) rfl ?_
            refine RunF.gq rfl (o_move rfl) rfl ?_
            refine RunF.gq rfl (o_move rfl) rfl ?_
            refine RunF.gq rfl (o_mul rfl rfl rfl) rfl ?_
            refine RunF.gq rfl (o_move rfl) rfl ?_
            refine RunF.gq rfl (o_mul rfl rfl rfl) rfl ?_
            refine RunF.gq rfl (o_move rfl) rfl ?_
            refine RunF.gq rfl (o_add rfl rfl rfl) rfl ?_
            refine RunF.gq rfl (o_gtr rfl rfl) rfl ?_
            refine RunF.q (o_pick_f rfl rfl) rfl ?_
            refine AW.cond rfl (fun hc5 => ?_) (fun hc5 => ?_)
            · try simp only [decide_eq_true_eq, decide_eq_false_iff_not, bne_iff_ne, beq_iff_eq, bne_eq_false_iff_eq, beq_eq_false_iff_ne, ne_eq, Bool.not_eq_true', Bool.not_eq_false'] at hc5
              have hC : adjC yn0 u0 q r = true := by first | exact adjC_l hb24_1 | exact adjC_r hc5
              refine AW.skip ?_
              refine AW.block ?_
              refine AW.seq ?_
              refine AW.region (by kernel_rfl) ?_
              refine RunF.q (o_move rfl) rfl ?_
              refine RunF.q (o_sub rfl rfl rfl) rfl ?_
              refine RunF.q (o_assign rfl) rfl ?_
              refine AW.seq ?_
              refine AW.region (by kernel_rfl) ?_
              refine RunF.q (o_move rfl) rfl ?_
              refine RunF.q (o_move rfl) rfl ?_
              refine RunF.q (o_add rfl rfl (u64_in _ (by omega))) rfl ?_
              refine RunF.q (o_assign rfl) rfl ?_
              refine AW.seq ?_
              refine AW.region (by kernel_rfl) ?_
              refine RunF.q (o_move rfl) rfl ?_
              refine RunF.q (o_geq rfl rfl) rfl ?_
              refine AW.cond rfl (fun hc6 => ?_) (fun hc6 => ?_)
              · try simp only [decide_eq_true_eq, decide_eq_false_iff_not, bne_iff_ne, beq_iff_eq, bne_eq_false_iff_eq, beq_eq_false_iff_ne, ne_eq, Bool.not_eq_true', Bool.not_eq_false'] at hc6
                rw [adjF_last hn h4 hC hc6]
                refine AW.exit ?_
                refine AW.seq ?_
                refine AW.region (by kernel_rfl) ?_
                refine RunF.q (o_move rfl) rfl ?_
                refine RunF.q (o_mul rfl rfl rfl) rfl ?_
                refine RunF.q (o_move rfl) rfl ?_
                refine RunF.q (o_add (m := A) rfl rfl eA) rfl ?_
                refine RunF.q (o_move rfl) rfl ?_
                refine RunF.q (o_mul rfl rfl rfl) rfl ?_
                refine RunF.q (o_move rfl) rfl ?_
                refine RunF.q (o_add rfl rfl rfl) rfl ?_
                refine RunF.q (o_move rfl) rfl ?_
                refine RunF.q (o_move rfl) rfl ?_
                refine RunF.q (o_mul rfl rfl rfl) rfl ?_
                refine RunF.q (o_sub rfl rfl rfl) rfl ?_
                refine RunF.q (o_move rfl) rfl ?_
                refine RunF.q (o_shr (m := R) rfl rfl (by omega) eR) rfl ?_
                refine RunF.q (o_assign rfl) rfl ?_
                refine RunF.q (o_assign rfl) rfl ?_
                refine AW.ret ?_
                exact FinQ.ret [] [] (ress_tmp rfl (ress_tmp rfl ress_nil)) rfl (by first | exact RowsO.nil | skip) (by first | exact RowsR.nil | skip) nR
              · try simp only [decide_eq_true_eq, decide_eq_false_iff_not, bne_iff_ne, beq_iff_eq, bne_eq_false_iff_eq, beq_eq_false_iff_ne, ne_eq, Bool.not_eq_true', Bool.not_eq_false'] at hc6
                refine AW.skip ?_
                exact ⟨⟨(n - 1, IntKind.u64.wrap (q - 1), r + yn1), by dsimp only; omega, by dsimp only; omega, by dsimp only; omega, adjF_go hn h4 hC hc6⟩, Wk.same rfl (.cons rfl (.cons rfl (.cons rfl (.cons rfl (.cons rfl (.cons rfl (.cons rfl (.cons rfl (.cons rfl .nil))))))))), by dsimp only; omega⟩
            · try simp only [decide_eq_true_eq, decide_eq_false_iff_not, bne_iff_ne, beq_iff_eq, bne_eq_false_iff_eq, beq_eq_false_iff_ne, ne_eq, Bool.not_eq_true', Bool.not_eq_false'] at hc5
              obtain rfl : Q0 = q := (adjF_stop hn h4 (adjC_no hb24_1 hc5)).symm
              refine AW.exit ?_
              refine AW.seq ?_
              refine AW.region (by kernel_rfl) ?_
              refine RunF.q (o_move rfl) rfl ?_
              refine RunF.q (o_mul rfl rfl rfl) rfl ?_
              refine RunF.q (o_move rfl) rfl ?_
              refine RunF.q (o_add (m := A) rfl rfl eA) rfl ?_
              refine RunF.q (o_move rfl) rfl ?_
              refine RunF.q (o_mul rfl rfl rfl) rfl ?_
              refine RunF.q (o_move rfl) rfl ?_
              refine RunF.q (o_add rfl rfl rfl) rfl ?_
              refine RunF.q (o_move rfl) rfl ?_
              refine RunF.q (o_move rfl) rfl ?_
              refine RunF.q (o_mul rfl rfl rfl) rfl ?_
              refine RunF.q (o_sub rfl rfl rfl) rfl ?_
              refine RunF.q (o_move rfl) rfl ?_
              refine RunF.q (o_shr (m := R) rfl rfl (by omega) eR) rfl ?_
              refine RunF.q (o_assign rfl) rfl ?_
              refine RunF.q (o_assign rfl) rfl ?_
              refine AW.ret ?_
              exact FinQ.ret [] [] (ress_tmp rfl (ress_tmp rfl ress_nil)) rfl (by first | exact RowsO.nil | skip) (by first | exact RowsR.nil | skip) nR
        · exact Wk.same rfl (.cons rfl (.cons rfl (.cons rfl (.cons rfl (.cons rfl (.cons rfl (.cons rfl (.cons rfl (.cons rfl .nil)))))))))
  · exact Wk.same rfl (.cons rfl (.cons rfl (.cons rfl (.cons rfl (.cons rfl (.cons rfl (.cons rfl (.cons rfl (.cons rfl .nil)))))))))

end Go.Proofs.Ytnkijhpikeokfaa

/- Quotients of any two numbers. -/
namespace Go.Proofs.Ytnkijhpikeokfaa
open Go Go.Sym Go.IntWalk

theorem wrap_nat (x : Int) : ∃ q : Nat, IntKind.u64.wrap x = (q : Int) ∧ q < 18446744073709551616 := ⟨(IntKind.u64.wrap x).toNat, by rw [IntKind.wrap_u64]; omega, by rw [IntKind.wrap_u64]; omega⟩
theorem div64_any (hi lo y : Nat) (h0 : 0 < hi) (hh : hi < y) (hy : y < 18446744073709551616) :
    ∃ q r : Nat, q < 18446744073709551616 ∧ r < 18446744073709551616 ∧ SoundC Try.prog 142 [.int .u64 hi, .int .u64 lo, .int .u64 y] ⟨[], []⟩ { val := .tuple [.int .u64 (q : Int), .int .u64 (r : Int)] } := by
  obtain ⟨b0, b1, b2, b3⟩ := bitLen_range (by omega : 0 < y) hy
  obtain ⟨s, hs⟩ : ∃ s, 64 - Lib.bitLen y = s := ⟨_, rfl⟩
  have hS : s ≤ 63 := by omega
  have e64 : (18446744073709551616 : Nat) = 2 ^ Lib.bitLen y * 2 ^ s := by rw [← Nat.pow_add, show Lib.bitLen y + s = 64 from by omega]
  have e63 : (9223372036854775808 : Nat) = 2 ^ (Lib.bitLen y - 1) * 2 ^ s := by rw [← Nat.pow_add, show Lib.bitLen y - 1 + s = 63 from by omega]
  have l1 : y * 2 ^ s < 18446744073709551616 := by rw [e64]; exact Nat.mul_lt_mul_of_pos_right b3 (Nat.pow_pos (by omega))
  have l2 : 9223372036854775808 ≤ y * 2 ^ s := by rw [e63]; exact Nat.mul_le_mul_right _ b2
  have ep : (2 : Int) ^ (min ((s : Int)).toNat IntKind.u64.bits) = ((2 ^ s : Nat) : Int) := by
    rw [Int.toNat_natCast, show min s IntKind.u64.bits = s from Nat.min_eq_left (by show s ≤ 64; omega)]; simp
  have eY : IntKind.u64.wrap ((y : Int) * 2 ^ (min ((s : Int)).toNat IntKind.u64.bits)) = ((y * 2 ^ s : Nat) : Int) := by
    rw [ep, ← Int.natCast_mul]; exact u64n _ l1
  have e1 : ((y * 2 ^ s : Nat) : Int).fdiv (2 ^ (min ((32 : Int)).toNat IntKind.u64.bits)) = ((y * 2 ^ s / 4294967296 : Nat) : Int) := shr32 _
  have bW : ∀ x : Int, 0 ≤ IntKind.u64.wrap x ∧ IntKind.u64.wrap x < 18446744073709551616 := fun x => by rw [IntKind.wrap_u64]; omega
  have hd : (0 : Int) < ((y * 2 ^ s / 4294967296 : Nat) : Int) := by omega
  have fin : ∀ x z : Int, SoundC Try.prog 142 [.int .u64 hi, .int .u64 lo, .int .u64 y] ⟨[], []⟩ { val := .tuple [.int .u64 (IntKind.u64.wrap x), .int .u64 ((IntKind.u64.wrap z).fdiv (2 ^ (min ((s : Int)).toNat IntKind.u64.bits)))] } →
      ∃ q r : Nat, q < 18446744073709551616 ∧ r < 18446744073709551616 ∧ SoundC Try.prog 142 [.int .u64 hi, .int .u64 lo, .int .u64 y] ⟨[], []⟩ { val := .tuple [.int .u64 (q : Int), .int .u64 (r : Int)] } := fun x z h => by
    obtain ⟨q, eq, hq⟩ := wrap_nat x
    obtain ⟨u, eu, hu⟩ := wrap_nat z
    rw [eq, eu, ep, Int.fdiv_eq_ediv_of_nonneg _ (Int.natCast_nonneg _), ← Int.natCast_ediv] at h
    exact ⟨q, u / 2 ^ s, hq, Nat.lt_of_le_of_lt (Nat.div_le_self _ _) hu, h⟩
  exact fin _ _ (div64_at hi lo y s _ _ _ _ _ _ _ _ _ _ _ _ _ _ _ _ h0 hh hy hs b1 (by omega) (modW (bW _).1 (bW _).2 hd rfl rfl) (modW (bW _).1 (bW _).2 hd rfl rfl) (by omega) eY e1 rfl rfl rfl rfl rfl rfl rfl rfl rfl rfl rfl rfl rfl rfl)
def rqW (q rest : Nat) (d Q : Int) : Int := if (rest : Int) > d ∨ ((rest : Int) = d ∧ q % 2 = 1) then Q else q

set_option maxHeartbeats 1000000 in
theorem div_over (a b : Int) (hb0 : clampQ b ≠ 0) (hhi : ¬ (clampQ a).natAbs / 1099511627776 < (clampQ b).natAbs) : SoundC Try.prog 122 [.int .i64 a, .int .i64 b] ⟨[], []⟩ { val := .tuple [.int .i64 (signedQ 1 0 (decide (clampQ a < 0) != decide (clampQ b < 0))), .bool true] } := by
  have ha := clampQ_in a
  have hb := clampQ_in b
  refine SoundC.of (N := 92) Try.func122 rfl rfl rfl rfl ?_
  refine AW.seq ?_
  refine AW.region (by kernel_rfl) ?_
  refine RunF.q (o_assign rfl) rfl ?_
  refine RunF.q (o_assign rfl) rfl ?_
  refine AW.seq ?_
  refine AW.region (by kernel_rfl) ?_
  refine RunF.q (o_move rfl) rfl ?_
  refine RunF.q (o_move rfl) rfl ?_
  refine RunF.q (o_call (no := 0) (nr := 0) rfl rfl rfl nC (by rfl) (by exact both_ok a b) (by rfl) rfl rfl nV rfl) (by rfl) ?_
  refine RunF.q (o_move rfl) rfl ?_
  refine RunF.q (o_extract rfl rfl) rfl ?_
  refine RunF.q (o_extract rfl rfl) rfl ?_
  refine RunF.q (o_extract rfl rfl) rfl ?_
  refine RunF.q (o_assign rfl) rfl ?_
  refine RunF.q (o_assign rfl) rfl ?_
  refine RunF.q (o_assign rfl) rfl ?_
  refine AW.seq ?_
  refine AW.seq ?_
  refine AW.region (by kernel_rfl) ?_
  refine RunF.q (o_move rfl) rfl ?_
  refine RunF.q (o_eql rfl rfl) rfl ?_
  refine AW.cond rfl (fun hc0 => absurd hc0 (by simp [hb0])) (fun hc0 => ?_)
  refine AW.skip ?_
  refine AW.seq ?_
  refine AW.region (by kernel_rfl) ?_
  refine RunF.q (o_move rfl) rfl ?_
  refine RunF.q (o_lss rfl rfl) rfl ?_
  refine RunF.q (o_move rfl) rfl ?_
  refine RunF.q (o_lss rfl rfl) rfl ?_
  refine RunF.q (o_neb tk4 rfl rfl) rfl ?_
  refine RunF.q (o_assign rfl) rfl ?_
  refine AW.seq ?_
  refine AW.region (by kernel_rfl) ?_
  refine RunF.q (o_move rfl) rfl ?_
  refine RunF.q (o_call (no := 0) (nr := 0) rfl rfl rfl nC (by rfl) (by exact size_ok _ (by omega)) (by rfl) rfl rfl nV rfl) (by rfl) ?_
  refine RunF.q (o_move rfl) rfl ?_
  refine RunF.q (o_call (no := 0) (nr := 0) rfl rfl rfl nC (by rfl) (by exact size_ok _ (by omega)) (by rfl) rfl rfl nV rfl) (by rfl) ?_
  refine RunF.q (o_assign rfl) rfl ?_
  refine RunF.q (o_assign rfl) rfl ?_
  refine AW.seq ?_
  refine AW.region (by kernel_rfl) ?_
  refine RunF.q (o_move rfl) rfl ?_
  refine RunF.q (o_shr rfl rfl (by decide) (shrD _)) rfl ?_
  refine RunF.q (o_move rfl) rfl ?_
  refine RunF.q (o_shl rfl rfl (by decide) (shlD _)) rfl ?_
  refine RunF.q (o_assign rfl) rfl ?_
  refine RunF.q (o_assign rfl) rfl ?_
  refine AW.seq ?_
  refine AW.seq ?_
  refine AW.region (by kernel_rfl) ?_
  refine RunF.q (o_move rfl) rfl ?_
  refine RunF.q (o_move rfl) rfl ?_
  refine RunF.q (o_geq rfl rfl) rfl ?_
  refine AW.cond rfl (fun hc3 => ?_) (fun hc3 => absurd hc3 (by simp; omega))
  refine AW.seq ?_
  refine AW.region (by kernel_rfl) ?_
  refine RunF.q (o_move rfl) rfl ?_
  refine RunF.q (o_call (no := 0) (nr := 0) rfl rfl rfl nC (by rfl) (by exact signed_ok 1 0 _ (by omega)) (by rfl) rfl rfl nV rfl) (by rfl) ?_
  refine RunF.q (o_move rfl) rfl ?_
  refine RunF.q (o_extract rfl rfl) rfl ?_
  refine RunF.q (o_extract rfl rfl) rfl ?_
  refine RunF.q (o_assign rfl) rfl ?_
  refine RunF.q (o_assign rfl) rfl ?_
  refine AW.seq ?_
  refine AW.region (by kernel_rfl) ?_
  refine RunF.q (o_move rfl) rfl ?_
  refine RunF.q (o_assign rfl) rfl ?_
  refine RunF.q (o_assign rfl) rfl ?_
  refine AW.ret ?_
  exact FinQ.ret [] [] (ress_tmp rfl (ress_tmp rfl ress_nil)) rfl (by first | exact RowsO.nil | skip) (by first | exact RowsR.nil | skip) nR

set_option maxHeartbeats 1000000 in
theorem div_of2 (a b : Int) (hb0 : clampQ b ≠ 0) (q rest : Nat) (d Q : Int) (hhi : (clampQ a).natAbs / 1099511627776 < (clampQ b).natAbs) (h64 : SoundC Try.prog 142 [.int .u64 (((clampQ a).natAbs / 1099511627776 : Nat) : Int), .int .u64 (((clampQ a).natAbs * 16777216 % 18446744073709551616 : Nat) : Int), .int .u64 ((clampQ b).natAbs : Int)] ⟨[], []⟩ { val := .tuple [.int .u64 (q : Int), .int .u64 (rest : Int)] }) (hq : q < 18446744073709551616) (ed : IntKind.u64.wrap (((clampQ b).natAbs : Int) - (rest : Int)) = d) (eQ : IntKind.u64.wrap ((q : Int) + 1) = Q) : SoundC Try.prog 122 [.int .i64 a, .int .i64 b] ⟨[], []⟩ { val := .tuple [.int .i64 (signedQ 0 (rqW q rest d Q) (decide (clampQ a < 0) != decide (clampQ b < 0))), .bool (both2 a b || signedF 0 (rqW q rest d Q) (decide (clampQ a < 0) != decide (clampQ b < 0)))] } := by
  have ha := clampQ_in a
  have hb := clampQ_in b
  have hQ0 : 0 ≤ Q := by rw [← eQ, IntKind.wrap_u64]; omega
  refine SoundC.of (N := 92) Try.func122 rfl rfl rfl rfl ?_
  refine AW.seq ?_
  refine AW.region (by kernel_rfl) ?_
  refine RunF.q (o_assign rfl) rfl ?_
  refine RunF.q (o_assign rfl) rfl ?_
  refine AW.seq ?_
  refine AW.region (by kernel_rfl) ?_
  refine RunF.q (o_move rfl) rfl ?_
  refine RunF.q (o_move rfl) rfl ?_
  refine RunF.q (o_call (no := 0) (nr := 0) rfl rfl rfl nC (by rfl) (by exact both_ok a b) (by rfl) rfl rfl nV rfl) (by rfl) ?_
  refine RunF.q (o_move rfl) rfl ?_
  refine RunF.q (o_extract rfl rfl) rfl ?_
  refine RunF.q (o_extract rfl rfl) rfl ?_
  refine RunF.q (o_extract rfl rfl) rfl ?_
  refine RunF.q (o_assign rfl) rfl ?_
  refine RunF.q (o_assign rfl) rfl ?_
  refine RunF.q (o_assign rfl) rfl ?_
  refine AW.seq ?_
  refine AW.seq ?_
  refine AW.region (by kernel_rfl) ?_
  refine RunF.q (o_move rfl) rfl ?_
  refine RunF.q (o_eql rfl rfl) rfl ?_
  refine AW.cond rfl (fun hc0 => absurd hc0 (by simp [hb0])) (fun hc0 => ?_)
  refine AW.skip ?_
  refine AW.seq ?_
  refine AW.region (by kernel_rfl) ?_
  refine RunF.q (o_move rfl) rfl ?_
  refine RunF.q (o_lss rfl rfl) rfl ?_
  refine RunF.q (o_move rfl) rfl ?_
  refine RunF.q (o_lss rfl rfl) rfl ?_
  refine RunF.q (o_neb tk4 rfl rfl) rfl ?_
  refine RunF.q (o_assign rfl) rfl ?_
  refine AW.seq ?_
  refine AW.region (by kernel_rfl) ?_
  refine RunF.q (o_move rfl) rfl ?_
  refine RunF.q (o_call (no := 0) (nr := 0) rfl rfl rfl nC (by rfl) (by exact size_ok _ (by omega)) (by rfl) rfl rfl nV rfl) (by rfl) ?_
  refine RunF.q (o_move rfl) rfl ?_
  refine RunF.q (o_call (no := 0) (nr := 0) rfl rfl rfl nC (by rfl) (by exact size_ok _ (by omega)) (by rfl) rfl rfl nV rfl) (by rfl) ?_
  refine RunF.q (o_assign rfl) rfl ?_
  refine RunF.q (o_assign rfl) rfl ?_
  refine AW.seq ?_
  refine AW.region (by kernel_rfl) ?_
  refine RunF.q (o_move rfl) rfl ?_
  refine RunF.q (o_shr rfl rfl (by decide) (shrD _)) rfl ?_
  refine RunF.q (o_move rfl) rfl ?_
  refine RunF.q (o_shl rfl rfl (by decide) (shlD _)) rfl ?_
  refine RunF.q (o_assign rfl) rfl ?_
  refine RunF.q (o_assign rfl) rfl ?_
  refine AW.seq ?_
  refine AW.seq ?_
  refine AW.region (by kernel_rfl) ?_
  refine RunF.q (o_move rfl) rfl ?_
  refine RunF.q (o_move rfl) rfl ?_
  refine RunF.q (o_geq rfl rfl) rfl ?_
  refine AW.cond rfl (fun hc3 => absurd hc3 (by simp; omega)) (fun hc3 => ?_)
  refine AW.skip ?_
  refine AW.seq ?_
  refine AW.region (by kernel_rfl) ?_
  refine RunF.q (o_move rfl) rfl ?_
  refine RunF.q (o_move rfl) rfl ?_
  refine RunF.q (o_move rfl) rfl ?_
  refine RunF.q (o_call (no := 0) (nr := 0) rfl rfl rfl nC (by rfl) (by exact h64) (by rfl) rfl rfl nV rfl) (by rfl) ?_
  refine RunF.q (o_move rfl) rfl ?_
  refine RunF.q (o_extract rfl rfl) rfl ?_
  refine RunF.q (o_extract rfl rfl) rfl ?_
  refine RunF.q (o_assign rfl) rfl ?_
  refine RunF.q (o_assign rfl) rfl ?_
  refine AW.seq ?_
  refine AW.seq ?_
  refine AW.region (by kernel_rfl) ?_
  refine RunF.q (o_move rfl) rfl ?_
  refine RunF.q (o_move rfl) rfl ?_
  refine RunF.q (o_move rfl) rfl ?_
  refine RunF.q (o_sub (m := d) rfl rfl ed) rfl ?_
  refine RunF.q (o_gtr rfl rfl) rfl ?_
  refine RunF.br (o_move rfl) rfl (fun hb15_5 => ?_) (fun hb15_5 => ?_)
  · try simp only [decide_eq_true_eq, decide_eq_false_iff_not, bne_iff_ne, beq_iff_eq, bne_eq_false_iff_eq, beq_eq_false_iff_ne, ne_eq, Bool.not_eq_true', Bool.not_eq_false'] at hb15_5
    refine RunF.gs (b := true) rfl rfl ?_
    refine RunF.gs (b := true) rfl rfl ?_
    refine RunF.gs (b := true) rfl rfl ?_
    refine RunF.gs (b := true) rfl rfl ?_
    refine RunF.gs (b := true) rfl rfl ?_
    refine RunF.gs (b := true) rfl rfl ?_
    refine RunF.gt rfl ?_
    refine RunF.gt rfl ?_
    refine RunF.gt rfl ?_
    refine RunF.gs (b := true) rfl rfl ?_
    refine RunF.q (o_pick_t rfl rfl) rfl ?_
    refine AW.cond rfl (fun hc4 => ?_) (fun hc4 => absurd hc4 (by simp))
    have er : rqW q rest d Q = Q := by unfold rqW; rw [if_pos (by omega)]
    refine AW.region (by kernel_rfl) ?_
    refine RunF.q (o_move rfl) rfl ?_
    refine RunF.q (o_add (m := Q) rfl rfl eQ) rfl ?_
    refine RunF.q (o_assign rfl) rfl ?_
    refine AW.seq ?_
    refine AW.region (by kernel_rfl) ?_
    refine RunF.q (o_move rfl) rfl ?_
    refine RunF.q (o_move rfl) rfl ?_
    refine RunF.q (o_call (no := 0) (nr := 0) rfl rfl rfl nC (by rfl) (by exact signed_ok _ _ _ (by omega)) (by rfl) rfl rfl nV rfl) (by rfl) ?_
    refine RunF.q (o_move rfl) rfl ?_
    refine RunF.q (o_extract rfl rfl) rfl ?_
    refine RunF.q (o_extract rfl rfl) rfl ?_
    refine RunF.q (o_assign rfl) rfl ?_
    refine RunF.q (o_assign rfl) rfl ?_
    refine AW.seq ?_
    refine AW.region (by kernel_rfl) ?_
    refine RunF.q (o_move rfl) rfl ?_
    refine RunF.q (o_move rfl) rfl ?_
    refine RunF.q (o_move rfl) rfl ?_
    refine RunF.gm rfl (o_move rfl) ?_
    first | refine RunF.q (o_pick_t rfl rfl) rfl ?_ | refine RunF.q (o_pick_f rfl rfl) rfl ?_ | refine RunF.q (o_pick_b rfl rfl rfl) rfl ?_ | refine RunF.q (o_pick_or rfl rfl rfl) rfl ?_ | refine RunF.q (o_pick_and rfl rfl rfl) rfl ?_
    refine RunF.q (o_assign rfl) rfl ?_
    refine RunF.q (o_assign rfl) rfl ?_
    refine AW.ret ?_
    exact FinQ.ret [] [] (ress_tmp rfl (ress_tmp rfl ress_nil)) rfl .nil .nil (by rw [er]; exact nR)
  · try simp only [decide_eq_true_eq, decide_eq_false_iff_not, bne_iff_ne, beq_iff_eq, bne_eq_false_iff_eq, beq_eq_false_iff_ne, ne_eq, Bool.not_eq_true', Bool.not_eq_false'] at hb15_5
    refine RunF.gq rfl (o_move rfl) rfl ?_
    refine RunF.gq rfl (o_move rfl) rfl ?_
    refine RunF.gq rfl (o_move rfl) rfl ?_
    refine RunF.gq rfl (o_sub (m := d) rfl rfl ed) rfl ?_
    refine RunF.gq rfl (o_eql rfl rfl) rfl ?_
    refine RunF.gb rfl (o_move rfl) rfl (fun hb15_11 => ?_) (fun hb15_11 => ?_)
    · try simp only [decide_eq_true_eq, decide_eq_false_iff_not, bne_iff_ne, beq_iff_eq, bne_eq_false_iff_eq, beq_eq_false_iff_ne, ne_eq, Bool.not_eq_true', Bool.not_eq_false'] at hb15_11
      refine RunF.gq rfl (o_move rfl) rfl ?_
      refine RunF.gq rfl (o_and rfl rfl (mask1 q (by omega))) rfl ?_
      refine RunF.gq rfl (o_eql rfl rfl) rfl ?_
      refine RunF.gq rfl (o_pick_t rfl rfl) rfl ?_
      refine RunF.q (o_pick_f rfl rfl) rfl ?_
      refine AW.cond rfl (fun hc4 => ?_) (fun hc4 => ?_)
      · try simp only [decide_eq_true_eq, decide_eq_false_iff_not, bne_iff_ne, beq_iff_eq, bne_eq_false_iff_eq, beq_eq_false_iff_ne, ne_eq, Bool.not_eq_true', Bool.not_eq_false'] at hc4
        have er : rqW q rest d Q = Q := by unfold rqW; rw [if_pos (by omega)]
        refine AW.region (by kernel_rfl) ?_
        refine RunF.q (o_move rfl) rfl ?_
        refine RunF.q (o_add (m := Q) rfl rfl eQ) rfl ?_
        refine RunF.q (o_assign rfl) rfl ?_
        refine AW.seq ?_
        refine AW.region (by kernel_rfl) ?_
        refine RunF.q (o_move rfl) rfl ?_
        refine RunF.q (o_move rfl) rfl ?_
        refine RunF.q (o_call (no := 0) (nr := 0) rfl rfl rfl nC (by rfl) (by exact signed_ok _ _ _ (by omega)) (by rfl) rfl rfl nV rfl) (by rfl) ?_
        refine RunF.q (o_move rfl) rfl ?_
        refine RunF.q (o_extract rfl rfl) rfl ?_
        refine RunF.q (o_extract rfl rfl) rfl ?_
        refine RunF.q (o_assign rfl) rfl ?_
        refine RunF.q (o_assign rfl) rfl ?_
        refine AW.seq ?_
        refine AW.region (by kernel_rfl) ?_
        refine RunF.q (o_move rfl) rfl ?_
        refine RunF.q (o_move rfl) rfl ?_
        refine RunF.q (o_move rfl) rfl ?_
        refine RunF.gm rfl (o_move rfl) ?_
        first | refine RunF.q (o_pick_t rfl rfl) rfl ?_ | refine RunF.q (o_pick_f rfl rfl) rfl ?_ | refine RunF.q (o_pick_b rfl rfl rfl) rfl ?_ | refine RunF.q (o_pick_or rfl rfl rfl) rfl ?_ | refine RunF.q (o_pick_and rfl rfl rfl) rfl ?_
        refine RunF.q (o_assign rfl) rfl ?_
        refine RunF.q (o_assign rfl) rfl ?_
        refine AW.ret ?_
        exact FinQ.ret [] [] (ress_tmp rfl (ress_tmp rfl ress_nil)) rfl .nil .nil (by rw [er]; exact nR)
      · try simp only [decide_eq_true_eq, decide_eq_false_iff_not, bne_iff_ne, beq_iff_eq, bne_eq_false_iff_eq, beq_eq_false_iff_ne, ne_eq, Bool.not_eq_true', Bool.not_eq_false'] at hc4
        have er : rqW q rest d Q = (q : Int) := by unfold rqW; rw [if_neg (by omega)]
        refine AW.skip ?_
        refine AW.seq ?_
        refine AW.region (by kernel_rfl) ?_
        refine RunF.q (o_move rfl) rfl ?_
        refine RunF.q (o_move rfl) rfl ?_
        refine RunF.q (o_call (no := 0) (nr := 0) rfl rfl rfl nC (by rfl) (by exact signed_ok _ _ _ (by omega)) (by rfl) rfl rfl nV rfl) (by rfl) ?_
        refine RunF.q (o_move rfl) rfl ?_
        refine RunF.q (o_extract rfl rfl) rfl ?_
        refine RunF.q (o_extract rfl rfl) rfl ?_
        refine RunF.q (o_assign rfl) rfl ?_
        refine RunF.q (o_assign rfl) rfl ?_
        refine AW.seq ?_
        refine AW.region (by kernel_rfl) ?_
        refine RunF.q (o_move rfl) rfl ?_
        refine RunF.q (o_move rfl) rfl ?_
        refine RunF.q (o_move rfl) rfl ?_
        refine RunF.gm rfl (o_move rfl) ?_
        first | refine RunF.q (o_pick_t rfl rfl) rfl ?_ | refine RunF.q (o_pick_f rfl rfl) rfl ?_ | refine RunF.q (o_pick_b rfl rfl rfl) rfl ?_ | refine RunF.q (o_pick_or rfl rfl rfl) rfl ?_ | refine RunF.q (o_pick_and rfl rfl rfl) rfl ?_
        refine RunF.q (o_assign rfl) rfl ?_
        refine RunF.q (o_assign rfl) rfl ?_
        refine AW.ret ?_
        exact FinQ.ret [] [] (ress_tmp rfl (ress_tmp rfl ress_nil)) rfl .nil .nil (by rw [er]; exact nR)
    · try simp only [decide_eq_true_eq, decide_eq_false_iff_not, bne_iff_ne, beq_iff_eq, bne_eq_false_iff_eq, beq_eq_false_iff_ne, ne_eq, Bool.not_eq_true', Bool.not_eq_false'] at hb15_11
      refine RunF.gs (b := false) rfl rfl ?_
      refine RunF.gs (b := false) rfl rfl ?_
      refine RunF.gs (b := false) rfl rfl ?_
      refine RunF.gq rfl (o_pick_f rfl rfl) rfl ?_
      refine RunF.q (o_pick_f rfl rfl) rfl ?_
      refine AW.cond rfl (fun hc4 => absurd hc4 (by simp)) (fun hc4 => ?_)
      have er : rqW q rest d Q = (q : Int) := by unfold rqW; rw [if_neg (by omega)]
      refine AW.skip ?_
      refine AW.seq ?_
      refine AW.region (by kernel_rfl) ?_
      refine RunF.q (o_move rfl) rfl ?_
      refine RunF.q (o_move rfl) rfl ?_
      refine RunF.q (o_call (no := 0) (nr := 0) rfl rfl rfl nC (by rfl) (by exact signed_ok _ _ _ (by omega)) (by rfl) rfl rfl nV rfl) (by rfl) ?_
      refine RunF.q (o_move rfl) rfl ?_
      refine RunF.q (o_extract rfl rfl) rfl ?_
      refine RunF.q (o_extract rfl rfl) rfl ?_
      refine RunF.q (o_assign rfl) rfl ?_
      refine RunF.q (o_assign rfl) rfl ?_
      refine AW.seq ?_
      refine AW.region (by kernel_rfl) ?_
      refine RunF.q (o_move rfl) rfl ?_
      refine RunF.q (o_move rfl) rfl ?_
      refine RunF.q (o_move rfl) rfl ?_
      refine RunF.gm rfl (o_move rfl) ?_
      first | refine RunF.q (o_pick_t rfl rfl) rfl ?_ | refine RunF.q (o_pick_f rfl rfl) rfl ?_ | refine RunF.q (o_pick_b rfl rfl rfl) rfl ?_ | refine RunF.q (o_pick_or rfl rfl rfl) rfl ?_ | refine RunF.q (o_pick_and rfl rfl rfl) rfl ?_
      refine RunF.q (o_assign rfl) rfl ?_
      refine RunF.q (o_assign rfl) rfl ?_
      refine AW.ret ?_
      exact FinQ.ret [] [] (ress_tmp rfl (ress_tmp rfl ress_nil)) rfl .nil .nil (by rw [er]; exact nR)

theorem inQ_clampQ (a : Int) : inQ (clampQ a) := by have := clampQ_in a; unfold inQ; omega
theorem inQ_signed (p q : Int) (z : Bool) : inQ (signedQ p q z) := by unfold signedQ; split <;> exact inQ_clampQ _
/-- a quotient: there is one, and it is in bounds -/
theorem div_ex (a b : Int) (hb : clampQ b ≠ 0) : ∃ D : Int × Bool, inQ D.1 ∧ SoundC Try.prog 122 [.int .i64 a, .int .i64 b] ⟨[], []⟩ { val := .tuple [.int .i64 D.1, .bool D.2] } := by
  have hy : 0 < (clampQ b).natAbs := by omega
  have hbi := clampQ_in b
  have hai := clampQ_in a
  by_cases hhi : (clampQ a).natAbs / 1099511627776 < (clampQ b).natAbs
  · by_cases h0 : (clampQ a).natAbs / 1099511627776 = 0
    · exact ⟨(divQ a b, divF a b), by dsimp only; exact inQ_signed _ _ _, div_small a b (by omega) hb⟩
    · obtain ⟨q, r, hq, hr, h64⟩ := div64_any ((clampQ a).natAbs / 1099511627776) ((clampQ a).natAbs * 16777216 % 18446744073709551616) (clampQ b).natAbs (by omega) hhi (by omega)
      have h := div_of2 a b hb q r _ _ hhi h64 hq rfl rfl
      exact ⟨(signedQ 0 (rqW q r _ _) (decide (clampQ a < 0) != decide (clampQ b < 0)), _), by dsimp only; exact inQ_signed _ _ _, h⟩
  · exact ⟨(signedQ 1 0 (decide (clampQ a < 0) != decide (clampQ b < 0)), true), by dsimp only; exact inQ_signed _ _ _, div_over a b hb hhi⟩

end Go.Proofs.Ytnkijhpikeokfaa
