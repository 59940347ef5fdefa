/- What an operation gives hangs on its operands alone, and on no name that it doesn't use; effects that are apart may come in either order. -/
import Derived.Test.YtnkijhpikeokfaaS15
set_option linter.unusedSimpArgs false
set_option linter.unusedVariables false
namespace Go.Sym
open Go

theorem map_congr_ops {α : Type} {l : List Operand} {f f2 : Operand → α} (h : ∀ x ∈ l, f x = f2 x) : l.map f = l.map f2 := List.map_congr_left h

theorem aop_congr {P : Program} {ev ev2 : Operand → AV} {g : Gh} {nm : Nat} {op : Op} (h : ∀ x ∈ op.operands, ev x = ev2 x) : aop P ev g nm op = aop P ev2 g nm op := by
  cases op <;> simp only [Op.operands] at h
  case build t ps =>
    have : (ps.toList.map fun p => (p.1, ev p.2)) = (ps.toList.map fun p => (p.1, ev2 p.2)) := List.map_congr_left fun p hp => by rw [h p.2 (by simp; exact ⟨p.1, by simpa using hp⟩)]
    simp only [aop, this]
  case buildSlice t n ps =>
    have : (ps.toList.map fun p => (p.1, ev p.2)) = (ps.toList.map fun p => (p.1, ev2 p.2)) := List.map_congr_left fun p hp => by rw [h p.2 (by simp; exact ⟨p.1, by simpa using hp⟩)]
    simp only [aop, this]
  case makeFunc f a b =>
    have h1 : a.toList.map ev = a.toList.map ev2 := List.map_congr_left fun x hx => h x (by simp; exact .inl (by simpa using hx))
    have h2 : b.toList.map ev = b.toList.map ev2 := List.map_congr_left fun x hx => h x (by simp; exact .inr (by simpa using hx))
    cases f <;> simp only [aop, h1, h2]
  case call c =>
    have h1 : c.args.toList.map ev = c.args.toList.map ev2 := List.map_congr_left fun x hx => h x (by simp [Call.operands]; exact .inr (by simpa using hx))
    simp only [aop, h1]
  case slice t x lo hi mx =>
    have h0 : ev x = ev2 x := h x (by simp)
    have h1 : lo.map ev = lo.map ev2 := by cases lo with | none => rfl | some y => simp only [Option.map_some]; rw [h y (by simp)]
    have h2 : hi.map ev = hi.map ev2 := by cases hi with | none => rfl | some y => simp only [Option.map_some]; rw [h y (by simp)]
    have h3 : mx.map ev = mx.map ev2 := by cases mx with | none => rfl | some y => simp only [Option.map_some]; rw [h y (by simp)]
    simp only [aop, h0, h1, h2, h3]
  case pick c a b => simp only [aop, h c (by simp), h a (by simp), h b (by simp)]
  case store t a x => simp only [aop, h a (by simp), h x (by simp)]
  case binOp o t x y z => simp only [aop, h x (by simp), h y (by simp)]
  case makeSlice t n c => simp only [aop, h n (by simp), h c (by simp)]
  case indexAddr t x i => simp only [aop, h x (by simp), h i (by simp)]
  case index t x i => simp only [aop, h x (by simp), h i (by simp)]
  case move x => simp only [aop, h x (by simp)]
  case assign x => simp only [aop, h x (by simp)]
  case box t x => simp only [aop, h x (by simp)]
  case load t x => simp only [aop, h x (by simp)]
  case nilCheck x => simp only [aop, h x (by simp)]
  case unOp o t x => simp only [aop, h x (by simp)]
  case convert s d x => simp only [aop, h x (by simp)]
  case fieldAddr t x f => simp only [aop, h x (by simp)]
  case field t x f => simp only [aop, h x (by simp)]
  case extract x i => simp only [aop, h x (by simp)]
  all_goals rfl

theorem opE_congr {P : Program} {O : Oracle} {ev ev2 : Operand → AV} {g : Gh} {no nr : Nat} {op : Op} (h : ∀ x ∈ op.operands, ev x = ev2 x) : opE P O ev g no nr op = opE P O ev2 g no nr op := by
  cases op
  case call c =>
    have h' := aop_congr (P := P) (g := g) (nm := no) h
    simp only [Op.operands] at h
    simp only [opE]
    cases hc : c.callee with
    | value f =>
      have h0 : ev f = ev2 f := h f (by simp [Call.operands, hc])
      have h1 : c.args.toList.map ev = c.args.toList.map ev2 := List.map_congr_left fun x hx => h x (by simp [Call.operands]; exact .inr (by simpa using hx))
      simp only [h0, h1]
    | invoke r m => exact h'
    | builtin b => exact h'
  all_goals
    simp only [opE]
    exact aop_congr h

theorem bopA_nm {P : Program} {g : Gh} {nm : Nat} {b : Builtin} {ts : List TypeId} {xs : List AV} {v : AV} {e : Eff} (h : bopA P g nm b ts xs = some (v, e)) (he : e.newo = []) (nm2 : Nat) : bopA P g nm2 b ts xs = some (v, e) := by
  have h' := h
  unfold bopA at h
  split at h
  case h_4 t u s x =>
    unfold bopA
    simp only
    split at h
    · split at h
      · split at h
        · cases h
        · rename_i hz
          rw [if_neg hz]
          split at h
          · exact h
          · split at h
            · rename_i h0; rw [if_pos h0]; exact h
            · rename_i h0
              rw [if_neg h0]
              split at h
              · cases h
              · split at h
                · cases h
                · split at h
                  · split at h
                    · cases h; cases he
                    · cases h
                  · split at h
                    · cases h
                    · split at h
                      · cases h
                      · split at h
                        · cases h; cases he
                        · split at h
                          · cases h; cases he
                          · cases h
                  · cases h
          · cases h
      · cases h
    · cases h
  case h_6 => cases h
  all_goals exact h'

theorem aop_nm {P : Program} {ev : Operand → AV} {g : Gh} {nm : Nat} {op : Op} {v : AV} {e : Eff} (h : aop P ev g nm op = some (v, e)) (he : e.newo = []) (nm2 : Nat) : aop P ev g nm2 op = some (v, e) := by
  have h' := h
  cases op
  case alloc t => simp only [aop, Option.map_eq_some_iff, Prod.mk.injEq] at h; obtain ⟨l, _, _, rfl⟩ := h; cases he
  case box t x => simp only [aop, Option.map_eq_some_iff, Prod.mk.injEq] at h; obtain ⟨l, _, _, rfl⟩ := h; cases he
  case buildSlice t n ps =>
    simp only [aop] at h
    split at h
    · split at h
      · split at h
        · simp only [Option.map_eq_some_iff, Prod.mk.injEq] at h; obtain ⟨l, _, _, rfl⟩ := h; cases he
        · cases h
      · cases h
    · cases h
  case makeSlice t n c =>
    simp only [aop] at h
    split at h
    · split at h
      · split at h
        · cases h; cases he
        · cases h
      · cases h
    · cases h
  case call c =>
    simp only [aop] at h ⊢
    split at h
    · exact bopA_nm h he nm2
    · cases h
  case makeFunc f a b => cases f <;> exact h'
  all_goals exact h'

/-- of an operation, by what contracts there are -/
def OpR (P : Program) (ev : Operand → AV) (g : Gh) (no nr : Nat) (op : Op) (v : AV) (e : Eff) : Prop := ∃ O, SoundO P O ∧ opE P O ev g no nr op = some (v, e)

theorem OpR.local {P : Program} {ev : Operand → AV} {g g2 : Gh} {no nr : Nat} {op : Op} {v : AV} {e : Eff} (h : OpR P ev g no nr op v e) (ha : Agree e g g2) : OpR P ev g2 no nr op v e :=
  let ⟨O, hO, h⟩ := h; ⟨O, hO, opE_local h ha⟩

theorem OpR.congr {P : Program} {ev ev2 : Operand → AV} {g : Gh} {no nr : Nat} {op : Op} {v : AV} {e : Eff} (h : OpR P ev g no nr op v e) (hev : ∀ x ∈ op.operands, ev x = ev2 x) : OpR P ev2 g no nr op v e :=
  let ⟨O, hO, h⟩ := h; ⟨O, hO, by rw [← opE_congr hev]; exact h⟩

/-! effects -/

def overlap (o1 n1 o2 n2 : Nat) : Bool := !(Nat.ble (o1 + n1) o2 || Nat.ble (o2 + n2) o1)

def Eff.hit (e : Eff) (b : BId) (off n : Nat) : Bool :=
  e.news b || match b with
    | .o m => e.kill.contains m || e.wr.any fun x => Nat.beq x.1 m && overlap x.2.1 x.2.2.length off n
    | .r _ => false

def apartE (e1 e2 : Eff) : Bool :=
  e1.rd.all (fun x => !e2.hit x.1 x.2.1 x.2.2) && e2.rd.all (fun x => !e1.hit x.1 x.2.1 x.2.2) &&
  e1.wr.all (fun x => !e2.hit (.o x.1) x.2.1 x.2.2.length) && e2.wr.all (fun x => !e1.hit (.o x.1) x.2.1 x.2.2.length) &&
  e1.kill.all (fun n => !e2.news (.o n)) && e2.kill.all (fun n => !e1.news (.o n)) &&
  e1.newo.all (fun x => !e2.news (.o x.1)) && e1.newr.all (fun x => !e2.news (.r x.1))

theorem patch_length' : ∀ (cs l : List AV) (off : Nat), (patch l off cs).length = l.length
  | [], l, off => rfl
  | c :: cs, l, off => by simp only [patch]; rw [patch_length' cs]; simp

theorem patch_get : ∀ (cs l : List AV) (off i : Nat), (patch l off cs)[i]? = if off ≤ i ∧ i < off + cs.length ∧ i < l.length then cs[i - off]? else l[i]?
  | [], l, off, i => by simp only [patch, List.length_nil]; rw [if_neg (by omega)]
  | c :: cs, l, off, i => by
    simp only [patch]
    rw [patch_get cs (l.set off c) (off + 1) i]
    simp only [List.length_set, List.length_cons]
    by_cases h0 : i = off
    · subst h0
      rw [if_neg (by omega)]
      by_cases hl : i < l.length
      · rw [if_pos (by omega)]; simp [hl]
      · rw [if_neg (by omega)]
        rw [List.getElem?_eq_none (by simp; omega), List.getElem?_eq_none (by omega)]
    · by_cases h1 : off + 1 ≤ i ∧ i < off + 1 + cs.length ∧ i < l.length
      · rw [if_pos h1, if_pos (by omega)]
        rw [show i - off = (i - (off + 1)) + 1 by omega]
        simp
      · rw [if_neg h1, if_neg (by omega)]
        rw [List.getElem?_set_ne (fun e => h0 e.symm)]

theorem patchAll_length (n : Nat) : ∀ (wr : List (Nat × Nat × List AV)) (l : List AV), (patchAll n wr l).length = l.length
  | [], l => rfl
  | (m, off, cs) :: wr, l => by
    simp only [patchAll]
    rw [patchAll_length n wr]
    split
    · exact patch_length' _ _ _
    · rfl

theorem patch_clear {cs l : List AV} {o1 off n i : Nat} (h : overlap o1 cs.length off n = false) (h1 : off ≤ i) (h2 : i < off + n) : (patch l o1 cs)[i]? = l[i]? := by
  simp only [overlap, Bool.not_eq_false', Bool.or_eq_true, Nat.ble_eq] at h
  rw [patch_get, if_neg (by omega)]

theorem patchAll_clear {m off n i : Nat} (h1 : off ≤ i) (h2 : i < off + n) : ∀ (wr : List (Nat × Nat × List AV)) (l : List AV), (wr.any fun x => Nat.beq x.1 m && overlap x.2.1 x.2.2.length off n) = false → (patchAll m wr l)[i]? = l[i]?
  | [], l, _ => rfl
  | (k, o1, cs) :: wr, l, h => by
    simp only [List.any_cons, Bool.or_eq_false_iff] at h
    simp only [patchAll]
    rw [patchAll_clear h1 h2 wr _ h.2]
    split
    · rename_i e
      subst e
      have h3 := h.1
      simp only [Bool.and_eq_false_iff] at h3
      rcases h3 with h3 | h3
      · simp at h3
      · exact patch_clear h3 h1 h2
    · rfl

theorem patch_comm {c1 c2 l : List AV} {o1 o2 : Nat} (h : overlap o1 c1.length o2 c2.length = false) : patch (patch l o1 c1) o2 c2 = patch (patch l o2 c2) o1 c1 := by
  simp only [overlap, Bool.not_eq_false', Bool.or_eq_true, Nat.ble_eq] at h
  apply List.ext_getElem?
  intro i
  simp only [patch_get, patch_length']
  by_cases k1 : o2 ≤ i ∧ i < o2 + c2.length ∧ i < l.length
  · rw [if_pos k1]
    by_cases k2 : o1 ≤ i ∧ i < o1 + c1.length ∧ i < l.length
    · omega
    · rw [if_neg k2, if_pos k1]
  · rw [if_neg k1, if_neg k1]

/-- of block n, the two rows of stores have nothing to do with one another -/
def clearOf (n : Nat) (w1 w2 : List (Nat × Nat × List AV)) : Prop := ∀ x ∈ w1, ∀ y ∈ w2, x.1 = n → y.1 = n → overlap x.2.1 x.2.2.length y.2.1 y.2.2.length = false

theorem patchAll_patch_comm {n o1 : Nat} {c1 : List AV} : ∀ (w2 : List (Nat × Nat × List AV)) (l : List AV), (∀ y ∈ w2, y.1 = n → overlap o1 c1.length y.2.1 y.2.2.length = false) → patchAll n w2 (patch l o1 c1) = patch (patchAll n w2 l) o1 c1
  | [], l, _ => rfl
  | (k, o2, c2) :: w2, l, h => by
    simp only [patchAll]
    by_cases e : k = n
    · rw [if_pos e, if_pos e]
      rw [patch_comm (h (k, o2, c2) (by simp) e)]
      exact patchAll_patch_comm w2 _ fun y hy => h y (by simp [hy])
    · rw [if_neg e, if_neg e]
      exact patchAll_patch_comm w2 _ fun y hy => h y (by simp [hy])

theorem patchAll_comm {n : Nat} : ∀ (w1 w2 : List (Nat × Nat × List AV)) (l : List AV), clearOf n w1 w2 → patchAll n w1 (patchAll n w2 l) = patchAll n w2 (patchAll n w1 l)
  | [], w2, l, _ => rfl
  | (k, o1, c1) :: w1, w2, l, h => by
    simp only [patchAll]
    by_cases e : k = n
    · rw [if_pos e, if_pos e]
      rw [← patchAll_patch_comm w2 l fun y hy hn => h (k, o1, c1) (by simp) y hy e hn]
      exact patchAll_comm w1 w2 _ fun x hx => h x (by simp [hx])
    · rw [if_neg e, if_neg e]
      exact patchAll_comm w1 w2 _ fun x hx => h x (by simp [hx])

theorem apartE_symm {e1 e2 : Eff} (h : apartE e1 e2 = true) : apartE e2 e1 = true := by
  simp only [apartE, Bool.and_eq_true, List.all_eq_true, Bool.not_eq_true'] at h ⊢
  obtain ⟨⟨⟨⟨⟨⟨⟨h1, h2⟩, h3⟩, h4⟩, h5⟩, h6⟩, h7⟩, h8⟩ := h
  have key : ∀ (l1 l2 : List (Nat × List AV)), (∀ x ∈ l1, (lk x.1 l2).isSome = false) → ∀ x ∈ l2, (lk x.1 l1).isSome = false := by
    intro l1 l2 hh x hx
    have look : ∀ (l : List (Nat × List AV)) (n : Nat), (lk n l).isSome = true ↔ ∃ y ∈ l, y.1 = n := by
      intro l n
      induction l with
      | nil => simp [lk]
      | cons a l ih =>
        obtain ⟨m, c⟩ := a
        simp only [lk]
        by_cases e : m = n
        · simp [e]
        · simp [e, ih]
    cases hc : (lk x.1 l1).isSome with
    | false => rfl
    | true =>
      obtain ⟨y, hy, e⟩ := (look l1 x.1).1 hc
      have := hh y hy
      rw [e] at this
      have h' := (look l2 x.1).2 ⟨x, hx, rfl⟩
      rw [this] at h'; cases h'
  exact ⟨⟨⟨⟨⟨⟨⟨h2, h1⟩, h4⟩, h3⟩, h6⟩, h5⟩, fun x hx => key _ _ (fun y hy => h7 y hy) x hx⟩, fun x hx => key _ _ (fun y hy => h8 y hy) x hx⟩

theorem lk_none {n : Nat} {l : List (Nat × List AV)} (h : (lk n l).isSome = false) : lk n l = none := by
  cases hh : lk n l with
  | none => rfl
  | some a => rw [hh] at h; cases h

theorem lk_mem {n : Nat} : ∀ {l : List (Nat × List AV)} {a : List AV}, lk n l = some a → ∃ x ∈ l, x.1 = n
  | [], a, h => by simp [lk] at h
  | (m, c) :: l, a, h => by
    simp only [lk] at h
    split at h
    · rename_i e; exact ⟨(m, c), by simp, e⟩
    · obtain ⟨x, hx, e⟩ := lk_mem h; exact ⟨x, by simp [hx], e⟩

/-- effects that are apart may come in either order -/
theorem apartE_comm {e1 e2 : Eff} (h : apartE e1 e2 = true) (g : Gh) : e1.app (e2.app g) = e2.app (e1.app g) := by
  have h0 := apartE_symm h
  have one : ∀ {e1 e2 : Eff}, apartE e1 e2 = true → ∀ b l, (match b with | .r n => lk n e1.newr | .o n => lk n e1.newo) = some l → e1.app (e2.app g) b = some l ∧ e2.app (e1.app g) b = some l := by
    intro e1 e2 h b l hb
    have h' := h
    simp only [apartE, Bool.and_eq_true, List.all_eq_true, Bool.not_eq_true'] at h
    obtain ⟨⟨⟨⟨⟨⟨⟨h1, h2⟩, h3⟩, h4⟩, h5⟩, h6⟩, h7⟩, h8⟩ := h
    cases b with
    | r n =>
      simp only at hb
      obtain ⟨x, hx, e⟩ := lk_mem hb
      have h9 := h8 x hx
      rw [e] at h9
      simp only [Eff.news] at h9
      simp only [Eff.app, hb, lk_none h9, and_self]
    | o n =>
      simp only at hb
      obtain ⟨x, hx, e⟩ := lk_mem hb
      have h9 := h7 x hx
      rw [e] at h9
      simp only [Eff.news] at h9
      have hn1 : e1.news (.o n) = true := by simp only [Eff.news, hb, Option.isSome_some]
      have hk : e2.kill.contains n = false := by
        cases hc : e2.kill.contains n with
        | false => rfl
        | true =>
          have := h6 n (by simpa using hc)
          rw [hn1] at this; cases this
      refine ⟨by simp only [Eff.app, hb], ?_⟩
      simp only [Eff.app, lk_none h9, hb, hk, Bool.false_eq_true, if_false, Option.map_some]
      rw [patchAll_not]
      intro y hy e'
      have := h4 y hy
      rw [e'] at this
      simp only [Eff.hit, hn1, Bool.true_or, Bool.true_eq_false] at this
  funext b
  cases hb1 : (match b with | .r n => lk n e1.newr | .o n => lk n e1.newo) with
  | some l => obtain ⟨k1, k2⟩ := one h b l hb1; rw [k1, k2]
  | none =>
    cases hb2 : (match b with | .r n => lk n e2.newr | .o n => lk n e2.newo) with
    | some l => obtain ⟨k1, k2⟩ := one h0 b l hb2; rw [k1, k2]
    | none =>
      cases b with
      | r n => simp only at hb1 hb2; simp only [Eff.app, hb1, hb2]
      | o n =>
        simp only at hb1 hb2
        simp only [Eff.app, hb1, hb2]
        cases hk1 : e1.kill.contains n with
        | true => cases hk2 : e2.kill.contains n <;> simp
        | false =>
          cases hk2 : e2.kill.contains n with
          | true => simp
          | false =>
            simp only [Bool.false_eq_true, if_false, Option.map_map]
            congr 1
            funext l
            simp only [Function.comp]
            refine patchAll_comm _ _ l fun x hx y hy ex ey => ?_
            simp only [apartE, Bool.and_eq_true, List.all_eq_true, Bool.not_eq_true'] at h
            obtain ⟨⟨⟨⟨⟨⟨⟨_, _⟩, _⟩, h4⟩, _⟩, _⟩, _⟩, _⟩ := h
            have h5 := h4 y hy
            simp only [Eff.hit, Bool.or_eq_false_iff, List.any_eq_false] at h5
            have h6 := h5.2.2 x hx
            rw [ex, ey] at h6
            simpa using h6

/-- of a row's cells: both heaps have the same there -/
def Sm (b : BId) (off n : Nat) (g g2 : Gh) : Prop := ∀ l, g b = some l → ∃ l2, g2 b = some l2 ∧ l2.length = l.length ∧ ∀ j, off ≤ j → j < off + n → l2[j]? = l[j]?

theorem Sm.refl (b : BId) (off n : Nat) (g : Gh) : Sm b off n g g := fun l h => ⟨l, h, rfl, fun _ _ _ => rfl⟩
theorem Sm.trans {b : BId} {off n : Nat} {g g2 g3 : Gh} (h : Sm b off n g g2) (k : Sm b off n g2 g3) : Sm b off n g g3 := fun l hl => by
  obtain ⟨l2, h1, h2, h3⟩ := h l hl
  obtain ⟨l3, k1, k2, k3⟩ := k l2 h1
  exact ⟨l3, k1, k2.trans h2, fun j a b => (k3 j a b).trans (h3 j a b)⟩

theorem Sm.hit {b : BId} {off n : Nat} {e : Eff} (h : e.hit b off n = false) (g : Gh) : Sm b off n g (e.app g) ∧ Sm b off n (e.app g) g := by
  simp only [Eff.hit, Bool.or_eq_false_iff] at h
  obtain ⟨h1, h2⟩ := h
  cases b with
  | r m =>
    have : e.app g (.r m) = g (.r m) := by simp only [Eff.app, lk_none (show (lk m e.newr).isSome = false from h1)]
    exact ⟨fun l hl => ⟨l, by rw [this]; exact hl, rfl, fun _ _ _ => rfl⟩, fun l hl => ⟨l, by rw [← this]; exact hl, rfl, fun _ _ _ => rfl⟩⟩
  | o m =>
    simp only [Bool.or_eq_false_iff] at h2
    obtain ⟨h2, h3⟩ := h2
    have key : e.app g (.o m) = (g (.o m)).map (patchAll m e.wr) := by simp only [Eff.app, lk_none (show (lk m e.newo).isSome = false from h1), h2, Bool.false_eq_true, if_false]
    refine ⟨fun l hl => ⟨patchAll m e.wr l, by rw [key, hl]; rfl, patchAll_length _ _ _, fun j a b => patchAll_clear a b _ _ h3⟩, fun l hl => ?_⟩
    rw [key] at hl
    simp only [Option.map_eq_some_iff] at hl
    obtain ⟨l0, hl0, rfl⟩ := hl
    exact ⟨l0, hl0, (patchAll_length _ _ _).symm, fun j a b => (patchAll_clear a b _ _ h3).symm⟩

theorem patch_same {cs l l2 : List AV} {o1 off n i : Nat} (hl : l2.length = l.length) (h : ∀ j, off ≤ j → j < off + n → l2[j]? = l[j]?) (h1 : off ≤ i) (h2 : i < off + n) : (patch l2 o1 cs)[i]? = (patch l o1 cs)[i]? := by
  rw [patch_get, patch_get, hl]
  split
  · rfl
  · exact h i h1 h2

theorem patchAll_same {m off n : Nat} : ∀ (wr : List (Nat × Nat × List AV)) {l l2 : List AV}, l2.length = l.length → (∀ j, off ≤ j → j < off + n → l2[j]? = l[j]?) → ∀ j, off ≤ j → j < off + n → (patchAll m wr l2)[j]? = (patchAll m wr l)[j]?
  | [], l, l2, _, h => h
  | (k, o1, cs) :: wr, l, l2, hl, h => by
    simp only [patchAll]
    refine patchAll_same wr ?_ ?_
    · split
      · rw [patch_length', patch_length', hl]
      · exact hl
    · intro j a b
      split
      · exact patch_same hl h a b
      · exact h j a b

theorem Sm.app {b : BId} {off n : Nat} {g g2 : Gh} (h : Sm b off n g g2) (e : Eff) : Sm b off n (e.app g) (e.app g2) := by
  intro l hl
  cases b with
  | r m =>
    simp only [Eff.app] at hl ⊢
    split at hl
    · cases hl; exact ⟨l, rfl, rfl, fun _ _ _ => rfl⟩
    · exact h l hl
  | o m =>
    simp only [Eff.app] at hl ⊢
    split at hl
    · cases hl; exact ⟨l, rfl, rfl, fun _ _ _ => rfl⟩
    · split at hl
      · cases hl
      · rename_i hk
        simp only [Option.map_eq_some_iff] at hl
        obtain ⟨l0, hl0, rfl⟩ := hl
        obtain ⟨l2, h1, h2, h3⟩ := h l0 hl0
        refine ⟨patchAll m e.wr l2, ?_, by rw [patchAll_length, patchAll_length, h2], patchAll_same _ h2 h3⟩
        rw [if_neg hk, h1]; rfl

end Go.Sym
