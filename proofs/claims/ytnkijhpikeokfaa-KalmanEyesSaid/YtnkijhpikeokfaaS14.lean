/- Operations that have nothing to do with one another: what each one gives doesn't hang on the other one. -/
import Derived.Test.YtnkijhpikeokfaaS13
set_option linter.unusedSimpArgs false
set_option linter.unusedVariables false
namespace Go.Sym
open Go

abbrev Fr := Nat → AV
def Fr.upd (fr : Fr) (t : Nat) (v : AV) : Fr := fun t' => if t' = t then v else fr t'
def Fr.put (fr : Fr) (d : Option Tmp) (v : AV) : Fr :=
  match d with
  | some d => fr.upd d v
  | none => fr
def Fr.ev (fr : Fr) : Operand → AV
  | .tmp t => fr t
  | .const v => constA v
  | .global _ => .top
  | .func f => .func f [] []

def opE (P : Program) (O : Oracle) (ev : Operand → AV) (g : Gh) (no nr : Nat) (op : Op) : Option (AV × Eff) :=
  match op with
  | .call c =>
    match c.callee with
    | .value f =>
      match ev f with
      | .func k a b => callE O k (a ++ c.args.toList.map ev ++ b) g no nr
      | _ => none
    | _ => aop P ev g no (.call c)
  | op => aop P ev g no op

/-- the cells that are read are the same; rows are as long -/
def Agree (e : Eff) (g g2 : Gh) : Prop :=
  (∀ b off n, (b, off, n) ∈ e.rd → ∀ l, g b = some l → ∃ l2, g2 b = some l2 ∧ l2.length = l.length ∧ ∀ j, off ≤ j → j < off + n → l2[j]? = l[j]?) ∧
  (∀ n off cs, (n, off, cs) ∈ e.wr → ∀ l, g (.o n) = some l → ∃ l2, g2 (.o n) = some l2 ∧ l2.length = l.length)

theorem clip_congr {l l2 : List AV} {off n : Nat} (h : ∀ j, off ≤ j → j < off + n → l2[j]? = l[j]?) : (l2.drop off).take n = (l.drop off).take n := by
  apply List.ext_getElem?
  intro i
  rw [List.getElem?_take, List.getElem?_take]
  split
  · rw [List.getElem?_drop, List.getElem?_drop]
    exact h _ (by omega) (by omega)
  · rfl

theorem whole_congr {l l2 : List AV} (hl : l2.length = l.length) (h : ∀ j, 0 ≤ j → j < 0 + l.length → l2[j]? = l[j]?) : l2 = l := by
  apply List.ext_getElem?
  intro i
  by_cases hi : i < l.length
  · exact h i (Nat.zero_le _) (by omega)
  · rw [List.getElem?_eq_none (by omega), List.getElem?_eq_none (by omega)]

section
variable {P : Program} {O : Oracle}

theorem append_local {g g2 : Gh} {nm : Nat} {t u : TypeId} {s x : AV} {v : AV} {e : Eff} (h : bopA P g nm .append [t, u] [s, x] = some (v, e)) (ha : Agree e g g2) : bopA P g2 nm .append [t, u] [s, x] = some (v, e) := by
  simp only [bopA] at h ⊢
  split at h
  · rename_i e1 e2 ht hu
    split at h
    · rename_i z by_ z0 hz hby hz0
      split at h
      · cases h
      · rename_i hzl
        rw [if_neg hzl]
        cases x <;> simp only [reduceCtorEq] at h ⊢
        case nilsl => exact h
        case sl b off n z' f =>
          split at h
          · rename_i h0; rw [if_pos h0]; exact h
          · rename_i h0
            rw [if_neg h0]
            cases hb : g b with
            | none => simp [hb] at h
            | some l =>
              simp only [hb] at h
              split at h
              · cases h
              · rename_i hc
                cases s <;> simp only [reduceCtorEq] at h
                case nilsl =>
                  split at h
                  · rename_i hc2
                    cases h
                    obtain ⟨l2, k1, k2, k3⟩ := ha.1 b off (n * z) (by simp) l hb
                    simp only [k1, clip_congr k3, k2]
                    rw [if_neg hc, if_pos hc2]
                  · cases h
                case sl b' off' m z2 full =>
                  cases hb' : g b' with
                  | none => simp [hb'] at h
                  | some l' =>
                    simp only [hb'] at h
                    split at h
                    · cases h
                    · rename_i hc2
                      have key : ∀ rd, e.rd = rd → (b, off, n * z) ∈ rd → (b', off', m * z) ∈ rd → ∃ l2 l2', g2 b = some l2 ∧ g2 b' = some l2' ∧ l2.length = l.length ∧ l2'.length = l'.length ∧ (l2.drop off).take (n * z) = (l.drop off).take (n * z) ∧ (l2'.drop off').take (m * z) = (l'.drop off').take (m * z) := by
                        intro rd hrd m1 m2
                        subst hrd
                        obtain ⟨l2, k1, k2, k3⟩ := ha.1 _ _ _ m1 l hb
                        obtain ⟨l2', q1, q2, q3⟩ := ha.1 _ _ _ m2 l' hb'
                        exact ⟨l2, l2', k1, q1, k2, q2, clip_congr k3, clip_congr q3⟩
                      split at h
                      · rename_i hf
                        cases h
                        obtain ⟨l2, l2', k1, k2, k3, k4, k5, k6⟩ := key _ rfl (by simp) (by simp)
                        simp only [k1, k2, k3, k4, k5, k6]
                        rw [if_neg hc, if_neg hc2, if_pos hf]
                      · rename_i hf
                        cases b' with
                        | r k => simp at h
                        | o k =>
                          simp only at h
                          cases h
                          obtain ⟨l2, l2', k1, k2, k3, k4, k5, k6⟩ := key _ rfl (by simp) (by simp)
                          simp only [k1, k2, k3, k4, k5, k6]
                          rw [if_neg hc, if_neg hc2, if_neg hf]
    · cases h
  · cases h

theorem copy_local {g g2 : Gh} {nm : Nat} {t : TypeId} {ts : List TypeId} {d x : AV} {v : AV} {e : Eff} (h : bopA P g nm .copy (t :: ts) [d, x] = some (v, e)) (ha : Agree e g g2) : bopA P g2 nm .copy (t :: ts) [d, x] = some (v, e) := by
  simp only [bopA] at h ⊢
  split at h
  · rename_i e1 ht
    split at h
    · rename_i z k off m z' f' b off' n z'' f'' hz
      split at h
      · cases h
      · rename_i hzz
        rw [if_neg hzz]
        split at h
        · rename_i hm; rw [if_pos hm]; exact h
        · rename_i hm
          rw [if_neg hm]
          split at h
          · rename_i l l' hb hb'
            split at h
            · cases h
            · rename_i hc
              cases h
              obtain ⟨l2, k1, k2, k3⟩ := ha.1 _ _ _ (List.mem_singleton.mpr rfl) l' hb'
              obtain ⟨l3, q1, q2⟩ := ha.2 _ _ _ (List.mem_singleton.mpr rfl) l hb
              simp only [k1, q1, k2, q2, clip_congr k3]
              rw [if_neg hc]
          · cases h
    · cases h
  · cases h

theorem bopA_local {g g2 : Gh} {nm : Nat} {b : Builtin} {ts : List TypeId} {xs : List AV} {v : AV} {e : Eff} (h : bopA P g nm b ts xs = some (v, e)) (ha : Agree e g g2) : bopA P g2 nm b ts xs = some (v, e) := by
  have h' := h
  unfold bopA at h
  split at h
  · exact h'
  · exact h'
  · exact h'
  · exact append_local h' ha
  · exact copy_local h' ha
  · cases h

theorem aop_local {ev : Operand → AV} {g g2 : Gh} {nm : Nat} {op : Op} {v : AV} {e : Eff} (h : aop P ev g nm op = some (v, e)) (ha : Agree e g g2) : aop P ev g2 nm op = some (v, e) := by
  cases op
  case load t a =>
    simp only [aop] at h ⊢
    split at h
    · rename_i b off k n h1 h2 h3
      split at h
      · rename_i l hb
        split at h
        · rename_i hk
          split at h
          · rename_i hl
            cases h
            obtain ⟨l2, k1, k2, k3⟩ := ha.1 _ _ _ (List.mem_singleton.mpr rfl) l hb
            simp only [k1, k2, clip_congr k3]
            rw [if_pos hk, if_pos hl]
          · cases h
        · rename_i hk
          simp only [Option.map_eq_some_iff, Prod.mk.injEq] at h
          obtain ⟨u, hu, rfl, rfl⟩ := h
          obtain ⟨l2, k1, k2, k3⟩ := ha.1 _ _ _ (List.mem_singleton.mpr rfl) l hb
          simp only [k1]
          rw [if_neg hk, k3 off (Nat.le_refl _) (by omega), hu]
          rfl
      · cases h
    · cases h
  case store t a x =>
    simp only [aop] at h ⊢
    split at h
    · rename_i n off cs s h1 h2 h3
      split at h
      · rename_i l hb
        split at h
        · rename_i hc
          cases h
          obtain ⟨l3, q1, q2⟩ := ha.2 _ _ _ (List.mem_singleton.mpr rfl) l hb
          simp only [q1, q2]
          rw [if_pos hc]
        · cases h
      · cases h
    · cases h
  case slice t x lo hi mx =>
    simp only [aop] at h ⊢
    split at h
    · rename_i n e b off h1 h2
      split at h
      · rename_i s l i j m h3 hb h4 h5 h6
        split at h
        · rename_i hc
          cases h
          obtain ⟨l2, k1, k2, k3⟩ := ha.1 _ _ _ (List.mem_singleton.mpr rfl) l hb
          simp only [h3, k1, h4, h5, h6, k2]
          rw [if_pos hc]
        · cases h
      · cases h
    · exact h
    · exact h
    · cases h
  case call c =>
    simp only [aop] at h ⊢
    split at h
    · exact bopA_local h ha
    · cases h
  case makeFunc f a b => cases f <;> exact h
  all_goals exact h

end
end Go.Sym
