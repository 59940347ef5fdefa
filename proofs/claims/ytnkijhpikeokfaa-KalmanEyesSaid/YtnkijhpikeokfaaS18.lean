/- A region of operations: what the text's order gives, any order gives, where operations that may change places are apart. -/
import Derived.Test.YtnkijhpikeokfaaS17
set_option linter.unusedSimpArgs false
set_option linter.unusedVariables false
namespace Go.Sym
open Go

structure Rc where
  v : AV
  e : Eff

def appO (kill : List Nat) (wr : List (Nat × Nat × List AV)) : Nat → List (Option (List AV)) → List (Option (List AV))
  | _, [] => []
  | n, r :: rs => (if kill.contains n then none else r.map (patchAll n wr)) :: appO kill wr (n + 1) rs

def H.app (h : H) (e : Eff) : H where
  ro := h.ro ++ e.newr.map (·.2)
  ow := appO e.kill e.wr 0 h.ow ++ e.newo.map fun x => some x.2

theorem appO_length (kill : List Nat) (wr : List (Nat × Nat × List AV)) : ∀ (n : Nat) (l : List (Option (List AV))), (appO kill wr n l).length = l.length
  | _, [] => rfl
  | n, r :: rs => by simp [appO, appO_length kill wr (n + 1) rs]

theorem appO_get (kill : List Nat) (wr : List (Nat × Nat × List AV)) : ∀ (n : Nat) (l : List (Option (List AV))) (i : Nat), (appO kill wr n l)[i]? = (l[i]?).map fun r => if kill.contains (n + i) then none else r.map (patchAll (n + i) wr)
  | _, [], i => by simp [appO]
  | n, r :: rs, 0 => by simp [appO]
  | n, r :: rs, i + 1 => by
    simp only [appO, List.getElem?_cons_succ]
    rw [appO_get kill wr (n + 1) rs i]
    simp only [Nat.add_assoc, Nat.add_comm 1 i]

/-- the new blocks' names follow upon the old ones' -/
def Follows (e : Eff) (no nr : Nat) : Prop := (∃ l, e.newo = num no l) ∧ ∃ l, e.newr = num nr l

theorem num_snd {α : Type} : ∀ (n : Nat) (l : List α), (num n l).map (·.2) = l
  | _, [] => rfl
  | n, a :: l => by simp [num, num_snd (n + 1) l]

theorem H.app_get {h : H} {e : Eff} (hf : Follows e h.ow.length h.ro.length) : (h.app e).get = e.app h.get := by
  obtain ⟨⟨lo, ho⟩, ⟨lr, hr⟩⟩ := hf
  funext b
  cases b with
  | r n =>
    simp only [H.get, H.app, Eff.app, hr, lk_num, num_snd]
    by_cases hn : h.ro.length ≤ n
    · rw [if_pos hn, List.getElem?_append_right hn]
      cases hl : lr[n - h.ro.length]? with
      | some l => rfl
      | none => simp [hn]
    · rw [if_neg hn, List.getElem?_append_left (by omega)]
  | o n =>
    have hmap : ∀ l : List (List AV), (num h.ow.length l).map (fun x => some x.2) = l.map some := fun l => by
      rw [← num_snd h.ow.length l, List.map_map]
      congr 1
      rw [num_snd]
    simp only [H.get, H.app, Eff.app, ho, lk_num, hmap]
    by_cases hn : h.ow.length ≤ n
    · rw [if_pos hn, List.getElem?_append_right (by rw [appO_length]; exact hn), appO_length, List.getElem?_map]
      cases hl : lo[n - h.ow.length]? with
      | some l => rfl
      | none => simp [hn]
    · rw [if_neg hn, List.getElem?_append_left (by rw [appO_length]; omega), appO_get]
      have hlt : n < h.ow.length := by omega
      simp only [Nat.zero_add, List.getElem?_eq_getElem hlt, Option.map_some, Option.getD_some]

theorem H.app_nil (h : H) : h.app {} = h := by
  have : ∀ (n : Nat) (l : List (Option (List AV))), appO [] [] n l = l := by
    intro n l
    induction l generalizing n with
    | nil => rfl
    | cons r rs ih => simp only [appO, ih]; cases r <;> simp [patchAll]
  cases h
  simp [H.app, this]

theorem opE_follows {P : Program} {O : Oracle} {ev : Operand → AV} {g : Gh} {no nr : Nat} {op : Op} {v : AV} {e : Eff} (h : opE P O ev g no nr op = some (v, e)) : Follows e no nr := by
  have plain : aop P ev g no op = some (v, e) → Follows e no nr := by
    intro h
    obtain ⟨h1, h2⟩ := aop_newo h
    refine ⟨?_, [], by rw [h2]; rfl⟩
    rcases h1 with h1 | ⟨l, h1⟩
    · exact ⟨[], by rw [h1]; rfl⟩
    · exact ⟨[l], by rw [h1]; rfl⟩
  cases op
  case call c =>
    cases hc : c.callee with
    | value f =>
      simp only [opE, hc] at h
      split at h
      · unfold callE at h
        split at h
        · cases h
        split at h
        case isFalse => cases h
        split at h
        · cases h
        split at h
        case isFalse => cases h
        simp only [Option.some.injEq, Prod.mk.injEq] at h
        obtain ⟨rfl, rfl⟩ := h
        exact ⟨⟨_, rfl⟩, ⟨_, rfl⟩⟩
      · cases h
    | invoke r m => exact plain (by simpa only [opE, hc] using h)
    | builtin b => exact plain (by simpa only [opE, hc] using h)
  all_goals exact plain (by simpa only [opE] using h)

/-- what an operation of a region gives in the text's order: where it isn't wanted, nothing -/
def RecR (P : Program) (ops : Array Oper) (fr : Fr) (h : H) (o : Oper) (v : AV) (e : Eff) : Prop :=
  (wantA ops fr o = some true ∧ OpR P fr.ev h.get h.ow.length h.ro.length o.op v e) ∨ (wantA ops fr o = some false ∧ v = .tuple [] ∧ e = {})

theorem RecR.follows {P : Program} {ops : Array Oper} {fr : Fr} {h : H} {o : Oper} {v : AV} {e : Eff} (hr : RecR P ops fr h o v e) : Follows e h.ow.length h.ro.length := by
  rcases hr with ⟨_, O, _, h⟩ | ⟨_, _, rfl⟩
  · exact opE_follows h
  · exact ⟨⟨[], rfl⟩, ⟨[], rfl⟩⟩

theorem Follows.news {e : Eff} {no nr : Nat} (h : Follows e no nr) {b : BId} (hb : e.news b = true) : match b with | .o n => no ≤ n ∧ n < no + e.newo.length | .r n => nr ≤ n ∧ n < nr + e.newr.length := by
  obtain ⟨⟨lo, ho⟩, ⟨lr, hr⟩⟩ := h
  cases b with
  | o n =>
    simp only [Eff.news, ho, lk_num] at hb
    rw [ho, num_length]
    split at hb
    · simp only [Option.isSome_iff_exists] at hb
      obtain ⟨l, hl⟩ := hb
      have := (List.getElem?_eq_some_iff.mp hl).1
      simp only; omega
    · cases hb
  | r n =>
    simp only [Eff.news, hr, lk_num] at hb
    rw [hr, num_length]
    split at hb
    · simp only [Option.isSome_iff_exists] at hb
      obtain ⟨l, hl⟩ := hb
      have := (List.getElem?_eq_some_iff.mp hl).1
      simp only; omega
    · cases hb

section
variable (ops : Array Oper) (rc : Nat → Rc)

def dstOf (j : Nat) : Option Tmp := (ops[j]?).bind (·.dst)

def frL (fr0 : Fr) (L : Nat → Bool) : Nat → Fr
  | 0 => fr0
  | i + 1 => if L i then (frL fr0 L i).put (dstOf ops i) (rc i).v else frL fr0 L i

def gL (g0 : Gh) (L : Nat → Bool) : Nat → Gh
  | 0 => g0
  | i + 1 => if L i then (rc i).e.app (gL g0 L i) else gL g0 L i

def hT (h0 : H) : Nat → H
  | 0 => h0
  | i + 1 => (hT h0 i).app (rc i).e

abbrev allL : Nat → Bool := fun _ => true

variable {ops rc}

theorem Fr.put_ne {fr : Fr} {d : Option Tmp} {v : AV} {t : Nat} (h : d ≠ some t) : fr.put d v t = fr t := by
  cases d with
  | none => rfl
  | some d => simp only [Fr.put, Fr.upd]; rw [if_neg fun e => h (by rw [e])]

theorem Fr.put_at {fr fr2 : Fr} {d : Option Tmp} {v : AV} {t : Nat} (h : d ≠ some t → fr t = fr2 t) : fr.put d v t = fr2.put d v t := by
  by_cases e : d = some t
  · subst e; simp [Fr.put, Fr.upd]
  · rw [Fr.put_ne e, Fr.put_ne e, h e]

theorem frL_slot {fr0 : Fr} {L L' : Nat → Bool} {t : Nat} : ∀ i, (∀ k, k < i → L k ≠ L' k → dstOf ops k ≠ some t) → frL ops rc fr0 L i t = frL ops rc fr0 L' i t
  | 0, _ => rfl
  | i + 1, h => by
    have ih := frL_slot (fr0 := fr0) i fun k hk => h k (by omega)
    simp only [frL]
    cases h1 : L i <;> cases h2 : L' i <;> simp only [Bool.false_eq_true, if_false, if_true]
    · exact ih
    · rw [Fr.put_ne (h i (by omega) (by simp [h1, h2]))]; exact ih
    · rw [Fr.put_ne (h i (by omega) (by simp [h1, h2]))]; exact ih
    · exact Fr.put_at fun _ => ih

theorem frL_congr {fr0 : Fr} {L L' : Nat → Bool} : ∀ i, (∀ k, k < i → L k = L' k) → frL ops rc fr0 L i = frL ops rc fr0 L' i
  | 0, _ => rfl
  | i + 1, h => by simp only [frL]; rw [frL_congr i fun k hk => h k (by omega), h i (by omega)]

theorem gL_congr {g0 : Gh} {L L' : Nat → Bool} : ∀ i, (∀ k, k < i → L k = L' k) → gL rc g0 L i = gL rc g0 L' i
  | 0, _ => rfl
  | i + 1, h => by simp only [gL]; rw [gL_congr i fun k hk => h k (by omega), h i (by omega)]

theorem frL_stop {fr0 : Fr} {L : Nat → Bool} {j : Nat} : ∀ i, (∀ k, j ≤ k → k < j + i → L k = false) → frL ops rc fr0 L (j + i) = frL ops rc fr0 L j
  | 0, _ => rfl
  | i + 1, h => by
    rw [← Nat.add_assoc]
    simp only [frL]
    rw [h (j + i) (by omega) (by omega)]
    exact frL_stop i fun k a b => h k a (by omega)

theorem gL_stop {g0 : Gh} {L : Nat → Bool} {j : Nat} : ∀ i, (∀ k, j ≤ k → k < j + i → L k = false) → gL rc g0 L (j + i) = gL rc g0 L j
  | 0, _ => rfl
  | i + 1, h => by
    rw [← Nat.add_assoc]
    simp only [gL]
    rw [h (j + i) (by omega) (by omega)]
    exact gL_stop i fun k a b => h k a (by omega)

theorem gL_Sm {g0 : Gh} {L L' : Nat → Bool} {b : BId} {off n : Nat} : ∀ i, (∀ k, k < i → L k ≠ L' k → (rc k).e.hit b off n = false) → Sm b off n (gL rc g0 L i) (gL rc g0 L' i)
  | 0, _ => Sm.refl _ _ _ _
  | i + 1, h => by
    have ih := gL_Sm (g0 := g0) i fun k hk => h k (by omega)
    simp only [gL]
    cases h1 : L i <;> cases h2 : L' i <;> simp only [Bool.false_eq_true, if_false, if_true]
    · exact ih
    · exact ih.trans (Sm.hit (h i (by omega) (by simp [h1, h2])) _).1
    · exact (Sm.hit (h i (by omega) (by simp [h1, h2])) _).2.trans ih
    · exact ih.app _

def with1 (L : Nat → Bool) (j : Nat) : Nat → Bool := fun k => Nat.beq k j || L k

theorem Fr.put_comm {fr : Fr} {d1 d2 : Option Tmp} {v1 v2 : AV} (h : ∀ t, d1 = some t → d2 ≠ some t) : (fr.put d1 v1).put d2 v2 = (fr.put d2 v2).put d1 v1 := by
  cases d1 with
  | none => rfl
  | some a =>
    cases d2 with
    | none => rfl
    | some b =>
      have hne : b ≠ a := fun e => h a rfl (by rw [e])
      funext t
      simp only [Fr.put, Fr.upd]
      by_cases h1 : t = b
      · subst h1; rw [if_pos rfl, if_neg hne, if_pos rfl]
      · rw [if_neg h1]
        by_cases h2 : t = a
        · rw [if_pos h2, if_pos h2]
        · rw [if_neg h2, if_neg h2, if_neg h1]

theorem with1_lt {L : Nat → Bool} {j k : Nat} (h : k ≠ j) : with1 L j k = L k := by
  unfold with1
  cases hb : Nat.beq k j with
  | true => exact absurd (Nat.eq_of_beq_eq_true hb) h
  | false => rfl

theorem with1_self {L : Nat → Bool} {j : Nat} : with1 L j j = true := by simp [with1]

theorem frL_ins {fr0 : Fr} {L : Nat → Bool} {j : Nat} (hj : L j = false) : ∀ i, (∀ k, j < k → k < j + 1 + i → L k = true → ∀ t, dstOf ops j = some t → dstOf ops k ≠ some t) →
    frL ops rc fr0 (with1 L j) (j + 1 + i) = (frL ops rc fr0 L (j + 1 + i)).put (dstOf ops j) (rc j).v
  | 0, _ => by
    simp only [Nat.add_zero, frL]
    rw [with1_self, if_pos rfl, hj, frL_congr j fun k hk => with1_lt (by omega)]
    simp
  | i + 1, h => by
    rw [← Nat.add_assoc]
    simp only [frL]
    rw [frL_ins hj i fun k a b => h k a (by omega), with1_lt (by omega)]
    cases hk : L (j + 1 + i) with
    | false => simp
    | true => simp only [if_true]; exact Fr.put_comm (h (j + 1 + i) (by omega) (by omega) hk)

theorem gL_ins {g0 : Gh} {L : Nat → Bool} {j : Nat} (hj : L j = false) : ∀ i, (∀ k, j < k → k < j + 1 + i → L k = true → apartE (rc j).e (rc k).e = true) →
    gL rc g0 (with1 L j) (j + 1 + i) = (rc j).e.app (gL rc g0 L (j + 1 + i))
  | 0, _ => by
    simp only [Nat.add_zero, gL]
    rw [with1_self, if_pos rfl, hj, gL_congr j fun k hk => with1_lt (by omega)]
    simp
  | i + 1, h => by
    rw [← Nat.add_assoc]
    simp only [gL]
    rw [gL_ins hj i fun k a b => h k a (by omega), with1_lt (by omega)]
    cases hk : L (j + 1 + i) with
    | false => simp
    | true => simp only [if_true]; exact (apartE_comm (h (j + 1 + i) (by omega) (by omega) hk) _).symm

end
end Go.Sym
