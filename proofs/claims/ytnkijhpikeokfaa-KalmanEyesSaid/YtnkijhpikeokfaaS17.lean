/- An operation in a frame: what the abstract one gives, the machine's own gives too. -/
import Derived.Test.YtnkijhpikeokfaaS16
import Derived.Orders
set_option linter.unusedSimpArgs false
set_option linter.unusedVariables false
namespace Go.Sym
open Go

/-- an abstract frame, and one of the machine's -/
def FR (ρ : Rho) (n : Nat) (fr : Fr) (a : Act) : Prop := a.defers = [] ∧ a.tmps.size = n ∧ ∀ t, VR ρ (fr t) (a.tmps.getD t undef)

section
variable {P : Program} {ρ : Rho} {g : Gh} {w : World} {n : Nat} {fr : Fr} {a : Act}

theorem FR.ev (h : FR ρ n fr a) : ∀ x, VR ρ (fr.ev x) (a.eval x)
  | .tmp t => h.2.2 t
  | .const v => VR.const ρ v
  | .global _ => by simp [Fr.ev, VR]
  | .func f => by simp only [Fr.ev, Act.eval, VR]; exact ⟨[], [], rfl, VRs.nil, VRs.nil⟩

theorem FR.ext (h : FR ρ n fr a) {ρ' : Rho} (hle : ρ.le ρ') : FR ρ' n fr a := ⟨h.1, h.2.1, fun t => VR.ext hle _ _ (h.2.2 t)⟩

theorem FR.put (h : FR ρ n fr a) {d : Option Tmp} (hd : ∀ t, d = some t → t < n) {v : AV} {cv : Value} (hv : VR ρ v cv) : FR ρ n (fr.put d v) (a.put d cv) := by
  cases d with
  | none => exact h
  | some d =>
    refine ⟨h.1, by simp [Act.put, h.2.1], fun t => ?_⟩
    simp only [Fr.put, Fr.upd, Act.put]
    by_cases e : t = d
    · subst e
      have := hd t rfl
      rw [if_pos rfl]
      simp [h.2.1, this, hv]
    · rw [if_neg e]
      have : (a.tmps.setIfInBounds d cv).getD t undef = a.tmps.getD t undef := by
        simp [Array.getElem?_setIfInBounds_ne (fun e' => e e'.symm)]
      rw [this]; exact h.2.2 t

theorem bopA_newo {g : Gh} {nm : Nat} {b : Builtin} {ts : List TypeId} {xs : List AV} {v : AV} {e : Eff} (h : bopA P g nm b ts xs = some (v, e)) : (e.newo = [] ∨ ∃ l, e.newo = [(nm, l)]) ∧ e.newr = [] := by
  unfold bopA at h
  split at h
  · split at h <;> cases h <;> exact ⟨.inl rfl, rfl⟩
  · cases h; exact ⟨.inl rfl, rfl⟩
  · cases h; exact ⟨.inl rfl, rfl⟩
  · split at h
    · split at h
      · split at h
        · cases h
        · split at h
          · split at h
            · cases h; exact ⟨.inl rfl, rfl⟩
            · cases h
          · split at h
            · split at h
              · cases h; exact ⟨.inl rfl, rfl⟩
              · cases h
            · split at h
              · cases h
              · split at h
                · cases h
                · split at h
                  · split at h
                    · cases h; exact ⟨.inr ⟨_, rfl⟩, rfl⟩
                    · cases h
                  · split at h
                    · cases h
                    · split at h
                      · cases h
                      · split at h
                        · cases h; exact ⟨.inr ⟨_, rfl⟩, rfl⟩
                        · split at h
                          · cases h; exact ⟨.inr ⟨_, rfl⟩, rfl⟩
                          · cases h
                  · cases h
          · cases h
      · cases h
    · cases h
  · split at h
    · split at h
      · split at h
        · cases h
        · split at h
          · cases h; exact ⟨.inl rfl, rfl⟩
          · split at h
            · split at h
              · cases h
              · cases h; exact ⟨.inl rfl, rfl⟩
            · cases h
      · cases h
    · cases h
  · cases h

theorem aop_newo {ev : Operand → AV} {g : Gh} {nm : Nat} {op : Op} {v : AV} {e : Eff} (h : aop P ev g nm op = some (v, e)) : (e.newo = [] ∨ ∃ l, e.newo = [(nm, l)]) ∧ e.newr = [] := by
  cases op
  case call c =>
    simp only [aop] at h
    split at h
    · exact bopA_newo h
    · cases h
  case makeFunc f a b => cases f <;> simp only [aop] at h <;> first | (cases h; exact ⟨.inl rfl, rfl⟩) | cases h
  all_goals simp only [aop, Option.map_eq_some_iff, Prod.mk.injEq, Option.some.injEq, reduceCtorEq] at h
  all_goals first
    | (obtain ⟨_, rfl⟩ := h; exact ⟨.inl rfl, rfl⟩)
    | (obtain ⟨_, _, _, rfl⟩ := h; exact ⟨.inl rfl, rfl⟩)
    | (obtain ⟨_, _, _, rfl⟩ := h; exact ⟨.inr ⟨_, rfl⟩, rfl⟩)
    | skip
  all_goals
    repeat' split at h
  all_goals first
    | (cases h; done)
    | (cases h; exact ⟨.inl rfl, rfl⟩)
    | (cases h; exact ⟨.inr ⟨_, rfl⟩, rfl⟩)
    | (simp only [Option.map_eq_some_iff, Prod.mk.injEq] at h; obtain ⟨_, _, _, rfl⟩ := h; first | exact ⟨.inl rfl, rfl⟩ | exact ⟨.inr ⟨_, rfl⟩, rfl⟩)

theorem FR.args (h : FR ρ n fr a) : ∀ l : List Operand, VRs ρ (l.map fr.ev) (l.map a.eval)
  | [] => .nil
  | x :: l => .cons (h.ev x) (FR.args h l)

theorem run_callFunc {k : FuncId} (h : callable P k = true) (args : Array Value) (w : World) : (callFunc k args).run P w = .ok (.enter k args) w := by
  unfold callable at h
  cases hk : P.funcs[k]? with
  | none => simp [hk] at h
  | some fn =>
    simp [hk] at h
    have h2 : fn.body.isNone = false := by
      cases hb : fn.body with
      | none => simp [hb] at h
      | some c => rfl
    have h3 : ¬ fn.body = none := fun e => by simp [e] at h2
    simp [callFunc, hk, h.1, h3]

/-- an operation in its frame -/
theorem OpR.wp {o : Oper} {no nr : Nat} {v : AV} {e : Eff} (h : OpR P fr.ev g no nr o.op v e) (hF : FR ρ n fr a) (hS : SR ρ g w) (hnew : ∀ b, e.news b = true → ρ b = none)
    (hfresh : ∃ m, ρ (.o m) = none) (hd : ∀ d, o.dst = some d → d < n) {K : Act → World → Prop} {Q : Exit → Act → World → Prop}
    (hK : ∀ cv w' ρ', FR ρ' n (fr.put o.dst v) (a.put o.dst cv) → SR ρ' (e.app g) w' → Tr ρ ρ' w w' → (∀ b, ρ b = none → e.news b = false → ρ' b = none) → K (a.put o.dst cv) w') : o.wp P a w K Q := by
  obtain ⟨O, hO, h⟩ := h
  have plain : aop P fr.ev g no o.op = some (v, e) → o.wp P a w K Q := by
    intro h
    have : ∃ m, aop P fr.ev g m o.op = some (v, e) ∧ ρ (.o m) = none := by
      rcases (aop_newo h).1 with he | ⟨l, he⟩
      · obtain ⟨m, hm⟩ := hfresh
        exact ⟨m, aop_nm h he m, hm⟩
      · exact ⟨no, h, hnew _ (by simp [Eff.news, he, lk])⟩
    obtain ⟨m, h, hm⟩ := this
    obtain ⟨nx, w', ρ', hr, hg, h1, h2, h3⟩ := aop_sound hS (cev := a.eval) hF.ev hm h
    unfold Oper.wp
    rw [hr]
    rcases hg with ⟨cv, rfl, hv⟩ | ⟨rfl, rfl⟩
    · exact hK cv w' ρ' ((hF.ext h2.ext).put hd hv) h1 h2 h3
    · exact hK undef w' ρ' ((hF.ext h2.ext).put hd (by simp only [VR]; exact ⟨[], rfl, VRs.nil⟩)) h1 h2 h3
  cases ho : o.op
  case call c =>
    rw [ho] at h
    cases hc : c.callee with
    | value f =>
      simp only [opE, hc] at h
      split at h
      · rename_i k x y hf
        have hvf := hF.ev f
        rw [hf] at hvf
        simp only [VR] at hvf
        obtain ⟨x', y', hef, hx, hy⟩ := hvf
        have hargs : VRs ρ (x ++ c.args.toList.map fr.ev ++ y) (x' ++ c.args.toList.map a.eval ++ y') := (hx.append (hF.args _)).append hy
        obtain ⟨hcall, hC⟩ := callE_sound hO hS hargs h hnew
        have hex : (execOp a.eval o).run P w = .ok (.enter k (x' ++ c.args.toList.map a.eval ++ y').toArray) w := by
          have : execOp a.eval o = (do let d ← resolve a.eval c o.type; invoke d.target d.args) := by unfold execOp; simp only [ho]
          rw [this]
          simp only [resolve, hc, hef, Deferred.ofValue, Sem.run_bind, Sem.run_pure, Result.andThen_ok, invoke]
          rw [run_callFunc hcall]
          simp only [Result.ok.injEq, Next.enter.injEq, true_and, and_true]
          apply Array.toList_inj.mp
          simp
        unfold Oper.wp
        rw [hex]
        refine Calls.mono hC ?_
        rintro en w' ⟨cv, ρ', rfl, hv, h1, h2, h3⟩
        exact hK cv w' ρ' ((hF.ext h2.ext).put hd hv) h1 h2 h3
      · cases h
    | invoke r m => exact plain (by rw [ho]; simp only [opE, hc] at h; exact h)
    | builtin b => exact plain (by rw [ho]; simp only [opE, hc] at h; exact h)
  all_goals
    rw [ho] at h
    exact plain (by rw [ho]; simpa only [opE] using h)

/-- is an operation wanted? -/
def wantA (ops : Array Oper) (fr : Fr) (o : Oper) : Option Bool :=
  match o.guard with
  | none => some true
  | some (j, want) =>
    match (ops[j]?).bind (·.dst) with
    | some t => match fr t with
      | .bool b => some (b == want)
      | .tuple [] => some false
      | _ => none
    | none => some false

theorem wantA_sound {ops : Array Oper} (hF : FR ρ n fr a) {o : Oper} {b : Bool} (h : wantA ops fr o = some b) : Region.wanted o (yielded ops a.tmps) = b := by
  unfold wantA at h
  unfold Region.wanted
  split at h
  · rename_i hg
    simp only [hg]
    cases h; rfl
  · rename_i j want hg
    simp only [hg]
    split at h
    · rename_i t ht
      have hv := hF.2.2 t
      unfold yielded
      simp only [ht, Option.bind_some]
      split at h
      · rename_i b' hb'
        rw [hb'] at hv
        simp only [VR] at hv
        cases h
        have : a.tmps[t]? = some (.bool b') := by
          cases hh : a.tmps[t]? with
          | none => simp [hh, undef] at hv
          | some x => simp [hh] at hv; rw [hv]
        rw [this]; cases b' <;> cases want <;> rfl
      · rename_i hb'
        rw [hb'] at hv
        simp only [VR, VRs] at hv
        obtain ⟨l', hv, rfl⟩ := hv
        cases h
        cases hh : a.tmps[t]? with
        | none => simp
        | some x =>
          simp [hh] at hv
          subst hv
          simp
      · cases h
    · rename_i ht
      cases h
      unfold yielded
      simp only [ht, Option.bind_none]
      rfl

end
end Go.Sym
