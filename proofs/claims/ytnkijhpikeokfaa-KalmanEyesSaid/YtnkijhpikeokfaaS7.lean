/- Each operation is sound (fourth part): operators, rows made, slices cut. -/
import Derived.Test.YtnkijhpikeokfaaS6
set_option linter.unusedSimpArgs false
set_option linter.unusedVariables false
namespace Go.Sym
open Go

section
variable {P : Program}

theorem run_equalIn_nil (w : World) (d : Nat) (t e : TypeId) (a : Option Addr) (l c : Nat) (h : P.underlying t = some (.slice e)) : (Op.equalIn (d + 1) t (.slice a l c) (.slice none 0 0)).run P w = .ok a.isNone w := by
  cases a <;> simp [Op.equalIn, run_underlying h]

theorem run_equal_nil (w : World) (t e : TypeId) (a : Option Addr) (l c : Nat) (h : P.underlying t = some (.slice e)) : (Op.equal t (.slice a l c) (.slice none 0 0)).run P w = .ok a.isNone w :=
  run_equalIn_nil w 9999 t e a l c h

theorem run_eql_nil (w : World) (t e : TypeId) (a : Option Addr) (l c : Nat) (h : P.underlying t = some (.slice e)) : (binOp .eql t (.slice a l c) (.slice none 0 0)).run P w = .ok (.bool a.isNone) w := by
  simp [binOp, run_equal_nil w t e a l c h]

theorem run_neq_nil (w : World) (t e : TypeId) (a : Option Addr) (l c : Nat) (h : P.underlying t = some (.slice e)) : (binOp .neq t (.slice a l c) (.slice none 0 0)).run P w = .ok (.bool (!a.isNone)) w := by
  simp [binOp, run_equal_nil w t e a l c h]

theorem fits_int {k : IntKind} {l : List AV} (h : fits [.int k] l = true) : ∃ n, l = [.int k n] := by
  match l, h with
  | [], h => simp [fits] at h
  | a :: b :: r, h => cases a <;> simp [fits] at h
  | [a], h => cases a <;> simp [fits] at h; subst h; exact ⟨_, rfl⟩

theorem fits_bool {l : List AV} (h : fits [.bool] l = true) : ∃ n, l = [.bool n] := by
  match l, h with
  | [], h => simp [fits] at h
  | a :: b :: r, h => cases a <;> simp [fits] at h
  | [a], h => cases a <;> simp [fits] at h; exact ⟨_, rfl⟩

theorem kindsOf_size : ∀ (d : Nat) (t : TypeId) (k : List TK), kindsOf P d t = some k → tsize P t = some k.length
  | 0, t, k, h => by simp [kindsOf] at h
  | d + 1, t, k, h => by
    unfold kindsOf at h
    split at h
    · rename_i hs; cases h; exact hs
    · rename_i hs; cases h; exact hs
    · rename_i n e s hu hs
      simp only [Option.bind_eq_some_iff] at h
      obtain ⟨l, _, h⟩ := h
      split at h
      · rename_i hc; cases h; rw [hs, hc.1]; simp
      · cases h
    · rename_i fs s hu hs
      split at h
      · cases h
      · simp only [Option.bind_eq_some_iff] at h
        obtain ⟨l, _, h⟩ := h
        split at h
        · rename_i hc; cases h; rw [hs, hc]
        · cases h
    · cases h

theorem equal_flat {ρ : Rho} (m : Nat) : ∀ (d : Nat) (t : TypeId) (k : List TK), kindsOf P d t = some k → ∀ (l l' : List AV) (X Y : List Value), fits k l = true → fits k l' = true → VRs ρ l X → VRs ρ l' Y → ∀ w,
      ∃ b, eqCells l l' = some b ∧ (Op.equalIn (d + m) t (mkV P t X) (mkV P t Y)).run P w = .ok b w
  | 0, t, k, h => by simp [kindsOf] at h
  | d + 1, t, k, h => by
    intro l l' X Y h1 h2 hX hY w
    have hd : d + 1 + m = (d + m) + 1 := by omega
    rw [hd]
    have h0 := h
    unfold kindsOf at h
    split at h
    · rename_i kk hu hs; cases h
      obtain ⟨n1, rfl⟩ := fits_int h1
      obtain ⟨n2, rfl⟩ := fits_int h2
      simp only [VRs, VR] at hX hY
      obtain ⟨_, _, rfl, rfl, rfl⟩ := hX
      obtain ⟨_, _, rfl, rfl, rfl⟩ := hY
      refine ⟨n1 == n2, by simp [eqCells], ?_⟩
      simp [mkV, tk, hu, TK.agg, run_equalIn_int w (d + m) t _ _ n1 n2 hu]
    · rename_i hu hs; cases h
      obtain ⟨n1, rfl⟩ := fits_bool h1
      obtain ⟨n2, rfl⟩ := fits_bool h2
      simp only [VRs, VR] at hX hY
      obtain ⟨_, _, rfl, rfl, rfl⟩ := hX
      obtain ⟨_, _, rfl, rfl, rfl⟩ := hY
      refine ⟨n1 == n2, by simp [eqCells], ?_⟩
      simp [mkV, tk, hu, TK.agg, run_equalIn_bool w (d + m) t n1 n2 hu]
    · rename_i n e s hu hs
      simp only [Option.bind_eq_some_iff] at h
      obtain ⟨kl, hkl, h⟩ := h
      split at h
      · rename_i hc; cases h
        have hi : ∃ i, P.info? e = some i ∧ i.size = kl.length := by
          have := hc.2.1
          unfold tsize at this
          cases hi : P.info? e with
          | none => simp [hi] at this
          | some i => simp [hi] at this; exact ⟨i, rfl, this⟩
        obtain ⟨i, hi, hil⟩ := hi
        have hco : P.cellsOf e = kl.length := by simp [Program.cellsOf, hi, hil]
        obtain ⟨b, hb1, hb2⟩ := segs_equal d m (equal_flat m d) _ 0 _ (by simpa using segs_array d hkl hc.2.1 hc.2.2 n 0) l l' X Y hX hY (by simpa using h1) (by simpa using h2) w
        refine ⟨b, by simpa using hb1, ?_⟩
        rw [← hb2]
        simp only [mkV, tk, hu, TK.agg, if_true]
        rw [run_equalIn_array w (d + m) _ _ hu hi, hco, eqItems_segs, List.range_eq_range']
      · cases h
    · rename_i fs s hu hs
      split at h
      · cases h
      · rename_i hst
        simp only [Bool.not_eq_true] at hst
        simp only [Option.bind_eq_some_iff] at h
        obtain ⟨kl, hkl, h⟩ := h
        split at h
        · cases h
          obtain ⟨hn, rs, rfl, hseg⟩ := segs_fold d _ _ _ hkl
          obtain ⟨b, hb1, hb2⟩ := segs_equal d m (equal_flat m d) _ 0 _ (by simpa using hseg) l l' X Y hX hY (by simpa using h1) (by simpa using h2) w
          refine ⟨b, by simpa using hb1, ?_⟩
          rw [← hb2]
          simp only [mkV, tk, hu, TK.agg, if_true]
          have hfo : P.fieldsOf t = fs := by simp [Program.fieldsOf, hu]
          rw [run_equalIn_struct w (d + m) t _ _ (by rw [hfo]; exact hu) hst, hfo, eqFields_segs _ _ _ _ hn]
        · cases h
    · cases h

variable {ρ : Rho} {g : Gh} {w : World} (h : SR ρ g w) {ev : Operand → AV} {cev : Operand → Value} (hev : ∀ x, VR ρ (ev x) (cev x))
include h hev

theorem s_binOp (op : BinOp) (t u : TypeId) (x y : Operand) {o : Oper} (ho : o.op = .binOp op t x y u) {v : AV} (hv : binA P op t (ev x) (ev y) = some v) : Comes P ρ g w (execOp cev o) v {} := by
  have e1 := hev x
  have e2 := hev y
  have pl : ∀ {a b : Value} (w : World), (∀ l l', ¬ (a = .agg l ∧ b = .agg l')) → ¬ (a = .nilIface ∧ b = .nilIface) → (eqGuard op t x y a b).run P w = .ok () w := fun w => eqGuard_plain op t x y _ _ w
  unfold binA at hv
  split at hv
  case h_1 =>
    rename_i k a k' b hx hy
    rw [hx] at e1; rw [hy] at e2; simp only [VR] at e1 e2
    split at hv
    · cases hv
    · rename_i hb; cases hv
      refine Comes.pure h (cv := .int k (k.wrap (a * 2 ^ (min b.toNat k.bits)))) ?_ (by simp [VR]) rfl rfl rfl rfl
      simp [execOp, ho, pl, binOp, Op.shift, e1, e2, hb]
  case h_2 =>
    rename_i k a k' b hx hy
    rw [hx] at e1; rw [hy] at e2; simp only [VR] at e1 e2
    split at hv
    · cases hv
    · rename_i hb; cases hv
      refine Comes.pure h (cv := .int k (a.fdiv (2 ^ (min b.toNat k.bits)))) ?_ (by simp [VR]) rfl rfl rfl rfl
      simp [execOp, ho, pl, binOp, Op.shift, e1, e2, hb]
  case h_6 =>
    rename_i k a k' b hx hy
    rw [hx] at e1; rw [hy] at e2; simp only [VR] at e1 e2
    split at hv
    · rename_i hk; obtain ⟨rfl, hb⟩ := hk; cases hv
      refine Comes.pure h (cv := .int k (k.wrap (a.tdiv b))) ?_ (by simp [VR]) rfl rfl rfl rfl
      simp [execOp, ho, pl, binOp, Op.intDiv, e1, e2, hb]
    · cases hv
  case h_7 =>
    rename_i k a k' b hx hy
    rw [hx] at e1; rw [hy] at e2; simp only [VR] at e1 e2
    split at hv
    · rename_i hk; obtain ⟨rfl, hb⟩ := hk; cases hv
      refine Comes.pure h (cv := .int k (a.tmod b)) ?_ (by simp [VR]) rfl rfl rfl rfl
      simp [execOp, ho, pl, binOp, Op.intDiv, e1, e2, hb]
    · cases hv
  case h_17 =>
    rename_i a b hx hy
    rw [hx] at e1; rw [hy] at e2; simp only [VR] at e1 e2
    split at hv
    · rename_i ht; cases hv
      refine Comes.pure h (cv := .bool (a == b)) ?_ (by simp [VR]) rfl rfl rfl rfl
      have hu := tk_bool ht
      simp [execOp, ho, pl, e1, e2, run_eql_bool w t a b hu]
    · cases hv
  case h_18 =>
    rename_i a b hx hy
    rw [hx] at e1; rw [hy] at e2; simp only [VR] at e1 e2
    split at hv
    · rename_i ht; cases hv
      refine Comes.pure h (cv := .bool (a != b)) ?_ (by simp [VR]) rfl rfl rfl rfl
      have hu := tk_bool ht
      simp [execOp, ho, pl, e1, e2, run_neq_bool w t a b hu, bne]
    · cases hv
  case h_19 =>
    rename_i hx hy
    rw [hx] at e1; rw [hy] at e2; simp only [VR] at e1 e2
    split at hv
    · rename_i ht
      split at hv
      · cases hv
      rename_i hn0
      rcases e1 with ⟨cb, xx, cap, _, e1, _⟩ | ⟨e0, _⟩
      case inr => exact absurd e0 hn0
      cases hv
      refine Comes.pure h (cv := .bool false) ?_ (by simp [VR]) rfl rfl rfl rfl
      have hu := tk_sl ht
      simp [execOp, ho, e1, e2, pl, run_eql_nil w t _ _ _ _ hu]
    · cases hv
  case h_20 =>
    rename_i hx hy
    rw [hx] at e1; rw [hy] at e2; simp only [VR] at e1 e2
    split at hv
    · rename_i ht
      split at hv
      · cases hv
      rename_i hn0
      rcases e1 with ⟨cb, xx, cap, _, e1, _⟩ | ⟨e0, _⟩
      case inr => exact absurd e0 hn0
      cases hv
      refine Comes.pure h (cv := .bool true) ?_ (by simp [VR]) rfl rfl rfl rfl
      have hu := tk_sl ht
      simp [execOp, ho, e1, e2, pl, run_neq_nil w t _ _ _ _ hu]
    · cases hv
  case h_21 =>
    rename_i hx hy
    rw [hx] at e1; rw [hy] at e2; simp only [VR] at e1 e2
    split at hv
    · rename_i ht; cases hv
      refine Comes.pure h (cv := .bool true) ?_ (by simp [VR]) rfl rfl rfl rfl
      have hu := tk_sl ht
      simp [execOp, ho, e1, e2, pl, run_eql_nil w t _ _ _ _ hu]
    · cases hv
  case h_22 =>
    rename_i hx hy
    rw [hx] at e1; rw [hy] at e2; simp only [VR] at e1 e2
    split at hv
    · rename_i ht; cases hv
      refine Comes.pure h (cv := .bool false) ?_ (by simp [VR]) rfl rfl rfl rfl
      have hu := tk_sl ht
      simp [execOp, ho, e1, e2, pl, run_neq_nil w t _ _ _ _ hu]
    · cases hv
  case h_23 =>
    rename_i l l' hx hy
    rw [hx] at e1; rw [hy] at e2; simp only [VR] at e1 e2
    obtain ⟨X, e1, hX⟩ := e1
    obtain ⟨Y, e2, hY⟩ := e2
    split at hv
    · rename_i k r hk hr
      split at hv
      · rename_i hf
        simp only [Bool.and_eq_true, Bool.not_eq_true'] at hf
        simp only [Option.map_eq_some_iff] at hv
        obtain ⟨b, hb, rfl⟩ := hv
        obtain ⟨b', hb', hr'⟩ := equal_flat (P := P) 9980 20 t r hr _ _ X Y hf.1.2 hf.2 hX hY w
        rw [hb] at hb'; cases hb'
        simp only [mkV, hk, hf.1.1.1, if_true] at hr'
        refine Comes.pure h (cv := .bool b) ?_ (by simp [VR]) rfl rfl rfl rfl
        simp only [execOp, ho, e1, e2, Sem.run_bind, run_eqGuard_agg w .eql t x y X.toArray Y.toArray hf.1.1.2, Result.andThen_ok, run_eql_struct, hr', Sem.run_pure]
      · cases hv
    · cases hv
  case h_24 =>
    rename_i l l' hx hy
    rw [hx] at e1; rw [hy] at e2; simp only [VR] at e1 e2
    obtain ⟨X, e1, hX⟩ := e1
    obtain ⟨Y, e2, hY⟩ := e2
    split at hv
    · rename_i k r hk hr
      split at hv
      · rename_i hf
        simp only [Bool.and_eq_true, Bool.not_eq_true'] at hf
        simp only [Option.map_eq_some_iff] at hv
        obtain ⟨b, hb, rfl⟩ := hv
        obtain ⟨b', hb', hr'⟩ := equal_flat (P := P) 9980 20 t r hr _ _ X Y hf.1.2 hf.2 hX hY w
        rw [hb] at hb'; cases hb'
        simp only [mkV, hk, hf.1.1.1, if_true] at hr'
        refine Comes.pure h (cv := .bool (!b)) ?_ (by simp [VR]) rfl rfl rfl rfl
        simp only [execOp, ho, e1, e2, Sem.run_bind, run_eqGuard_agg w .neq t x y X.toArray Y.toArray hf.1.1.2, Result.andThen_ok, run_neq_struct, hr', Sem.run_pure]
      · cases hv
    · cases hv
  case h_25 => cases hv
  all_goals
    rename_i k a k' b hx hy
    rw [hx] at e1; rw [hy] at e2; simp only [VR] at e1 e2
    split at hv
    · rename_i hk; subst hk; cases hv
      refine Comes.pure h (cv := _) ?_ (by simp only [VR]; rfl) rfl rfl rfl rfl
      simp [execOp, ho, pl, binOp, Op.intArith, Op.intBits, Op.intCmp, e1, e2]
    · cases hv

end
end Go.Sym
