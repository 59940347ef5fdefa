/- All operations together: where the abstract operation gives something, the model's run gives what stands to it. -/
import Derived.Test.YtnkijhpikeokfaaS9
set_option linter.unusedSimpArgs false
set_option linter.unusedVariables false
namespace Go.Sym
open Go

section
variable {P : Program} {ρ : Rho} {g : Gh} {w : World} (h : SR ρ g w)

theorem run_builtin (cev : Operand → Value) {o : Oper} {c : Call} {b : Builtin} (ho : o.op = .call c) (hc : c.callee = .builtin b) :
    execOp cev o = builtin b c.argTypes o.type (c.args.map fun | .const _ => true | _ => false) (c.args.map cev) := by
  unfold execOp
  simp only [ho, resolve, hc]
  rfl

include h in
theorem s_copy {t : TypeId} {ts : List TypeId} {ty e : TypeId} {z : Nat} (ht : tk P t = some (.sl e)) (hz : tsize P e = some z)
    {k off m z1 : Nat} {f1 : Bool} {x : Value} (hx : VR ρ (.sl (.o k) off m z1 f1) x) {l : List AV} (hb : g (.o k) = some l)
    {b2 : BId} {off2 n z2 : Nat} {f2 : Bool} {x2 : Value} (hx2 : VR ρ (.sl b2 off2 n z2 f2) x2) {l2 : List AV} (hb2 : g b2 = some l2)
    (hne : min n m ≠ 0) (hl : off + min n m * z ≤ l.length) (hl2 : off2 + min n m * z ≤ l2.length) (hsc : ((l2.drop off2).take (min n m * z)).all AV.scalar = true)
    {s : Sem Next} (hs : s = (do pure (.value (← Builtin.copy_ (t :: ts).toArray ty #[x, x2])))) :
    Comes P ρ g w s (.int .i64 (min n m : Nat)) { rd := [(b2, off2, min n m * z)], wr := [(k, off, (l2.drop off2).take (min n m * z))] } := by
  obtain ⟨i, hi, rfl⟩ := tsize_info hz
  simp only [VR] at hx hx2
  rcases hx with ⟨cb, y, cap, hc, rfl, hy, _⟩ | ⟨e0, _⟩
  case inr => exact absurd (by rw [e0]; simp) hne
  rcases hx2 with ⟨cb2, y2, cap2, hc2, rfl, hy2, _⟩ | ⟨e0, _⟩
  case inr => exact absurd (by rw [e0]; simp) hne
  obtain ⟨cs, hr, hcs⟩ := firstCells_SR h (P := P) hb2 hc2 (cap := cap2) (m := n) (n := min n m) (z := i.size) hy2 (.inl (by omega)) hl2
  have hyy := hy (by omega)
  subst hyy
  have hcl : ((l2.drop off2).take (min n m * i.size)).length = min n m * i.size := by simp; omega
  obtain ⟨w', hst, hSR, hTr⟩ := run_storeCells_SR (P := P) hc _ cs hcs hsc off 0 g w h l hb (by rw [hcl]; omega)
  have hmin : Nat.min n m = min n m := rfl
  refine ⟨.value (goInt (min n m : Nat)), w', ρ, ?_, .inl ⟨_, rfl, by simp [VR, goInt]⟩, ?_, hTr, fun b hb _ => hb⟩
  · rw [hs]
    simp [Builtin.copy_, run_underlying (tk_sl ht), Builtin.lenOf, sizeOf, typeInfo, hi, hmin, hr, hst]
  · rw [Eff.app_wr g _ k off _ l hb]
    simpa using hSR

theorem VRs.two {a b : AV} {X : List Value} (h : VRs ρ [a, b] X) : ∃ x y, X = [x, y] ∧ VR ρ a x ∧ VR ρ b y := by
  simp only [VRs] at h
  obtain ⟨x, _, rfl, h1, y, _, rfl, h2, rfl⟩ := h
  exact ⟨x, y, rfl, h1, h2⟩

theorem isSl_slice {s : AV} {v : Value} (hs : VR ρ s v) (h : s.isSl = true) : ∃ base m c, v = .slice base m c ∧ m ≤ c := by
  cases s <;> simp only [AV.isSl, Bool.false_eq_true] at h
  · simp only [VR] at hs; exact ⟨none, 0, 0, hs, Nat.le_refl _⟩
  · simp only [VR] at hs
    rcases hs with ⟨cb, y, cap, _, e, _, hc, _⟩ | ⟨_, e⟩
    · exact ⟨_, _, _, e, hc⟩
    · exact ⟨_, _, _, e, Nat.le_refl _⟩

include h in
theorem bop_len {nm : Nat} {t : TypeId} {tr : List TypeId} {ty : TypeId} {cn : Array Bool} {x : AV} {xr : List AV} {X : List Value} (hX : VRs ρ (x :: xr) X) {v : AV} {e : Eff} (hop : bopA P g nm .len (t :: tr) (x :: xr) = some (v, e)) :
    Comes P ρ g w (builtin .len (t :: tr).toArray ty cn X.toArray) v e := by
  simp only [VRs] at hX
  obtain ⟨cx, cr, rfl, hx, hr⟩ := hX
  have key : ∀ n : Int, ∀ k : TK, tk P t = some k → ((∃ e b off m z f, k = .sl e ∧ x = .sl b off m z f ∧ n = m) ∨ (∃ e, k = .sl e ∧ x = .nilsl ∧ n = 0) ∨ (∃ s, k = .str ∧ x = .str s ∧ n = s.size) ∨ (∃ m e, k = .arr m e ∧ n = m)) →
      Comes P ρ g w (builtin .len (t :: tr).toArray ty cn (cx :: cr).toArray) (.int .i64 n) {} := fun n k hk hn => by
    have := len_run (P := P) (w := w) (ts := tr) (ty := ty) (xs := cr) hx hk hn
    refine Comes.pure h (cv := .int .i64 n) ?_ (by simp [VR]) rfl rfl rfl rfl
    simp only [builtin, Sem.run_bind, this, Result.andThen_ok, Sem.run_pure]
  simp only [bopA] at hop
  split at hop
  · rename_i hk; cases hop
    exact key _ _ hk (.inl ⟨_, _, _, _, _, _, rfl, rfl, rfl⟩)
  · rename_i hk; cases hop
    exact key _ _ hk (.inr (.inl ⟨_, rfl, rfl, rfl⟩))
  · rename_i hk; cases hop
    exact key _ _ hk (.inr (.inr (.inl ⟨_, rfl, rfl, rfl⟩)))
  · rename_i hk; cases hop
    exact key _ _ hk (.inr (.inr (.inr ⟨_, _, rfl, rfl⟩)))
  · cases hop

include h in
theorem bop_append {nm : Nat} (hnm : ρ (.o nm) = none) {t u : TypeId} {ty : TypeId} {cn : Array Bool} {s x : AV} {X : List Value} (hX : VRs ρ [s, x] X) {v : AV} {e : Eff} (hop : bopA P g nm .append [t, u] [s, x] = some (v, e)) :
    Comes P ρ g w (builtin .append #[t, u] ty cn X.toArray) v e := by
  obtain ⟨cs, cx, rfl, hs, hx⟩ := hX.two
  have hbi : (builtin .append #[t, u] ty cn [cs, cx].toArray) = (do pure (.value (← Builtin.append_ #[t, u] ty #[cs, cx]))) := rfl
  simp only [bopA] at hop
  cases ht : tk P t with
  | none => simp [ht] at hop
  | some kt =>
    cases hu : tk P u with
    | none => simp [ht, hu] at hop
    | some ku =>
      cases kt <;> simp only [ht, hu, reduceCtorEq] at hop
      cases ku <;> simp only [reduceCtorEq] at hop
      rename_i e1 e2
      cases hz : tsize P e1 with
      | none => simp [hz] at hop
      | some z =>
        cases hby : tbytes P e1 with
        | none => simp [hz, hby] at hop
        | some by_ =>
          cases hz0 : tzero P e1 with
          | none => simp [hz, hby, hz0] at hop
          | some z0 =>
            simp only [hz, hby, hz0] at hop
            split at hop
            · cases hop
            · rename_i hzl
              simp only [ne_eq, Decidable.not_not] at hzl
              -- nothing comes to it
              have hnone : (cx = .slice none 0 0 ∨ ∃ b c, cx = .slice (some b) 0 c) → (∃ base m c, cs = .slice base m c ∧ m ≤ c) → Comes P ρ g w (builtin .append #[t, u] ty cn [cs, cx].toArray) s {} := fun hcx hss => by
                obtain ⟨i, hi, _⟩ := tsize_info hz
                refine Comes.pure h (cv := cs) ?_ hs rfl rfl rfl rfl
                rw [hbi]
                obtain ⟨base, m, c, rfl, hc⟩ := hss
                simp only [Sem.run_bind, append_none_run (ty := ty) (tk_sl ht) (tk_sl hu) hi base m c cx hcx hc, Result.andThen_ok, Sem.run_pure]
              cases x <;> simp only [reduceCtorEq] at hop
              case nilsl =>
                split at hop
                · rename_i hsl
                  cases hop
                  exact hnone (.inl (by simpa [VR] using hx)) (isSl_slice hs hsl)
                · cases hop
              case sl b off n z' f =>
                have hx' := hx
                simp only [VR] at hx'
                rcases hx' with ⟨cb, y, cap, hc, rfl, _⟩ | ⟨e0, rfl⟩
                case inr =>
                  subst e0
                  split at hop
                  · split at hop
                    · rename_i hsl
                      cases hop
                      exact hnone (.inl rfl) (isSl_slice hs hsl)
                    · cases hop
                  · rename_i h0; exact absurd rfl h0
                split at hop
                · rename_i h0
                  subst h0
                  split at hop
                  · rename_i hsl
                    cases hop
                    exact hnone (.inr ⟨_, _, rfl⟩) (isSl_slice hs hsl)
                  · cases hop
                · rename_i h0
                  split at hop
                  · cases hop
                  · rename_i l hb
                    split at hop
                    · cases hop
                    · rename_i hc1
                      simp only [not_or, Nat.not_lt, Bool.not_eq_false] at hc1
                      cases s <;> simp only [reduceCtorEq] at hop
                      case nilsl =>
                        split at hop
                        · rename_i hc2
                          cases hop
                          simp only [VR] at hs
                          subst hs
                          exact s_append_nil h ht hu hz hby hz0 hzl hx h0 hb hc1.1 hc2.1 hc2.2 hnm hbi
                        · cases hop
                      case sl b2 off2 m z2 full =>
                        split at hop
                        · cases hop
                        · rename_i l2 hb2
                          split at hop
                          · cases hop
                          · rename_i hc2
                            simp only [not_or, Nat.not_lt, ne_eq, Decidable.not_not] at hc2
                            obtain ⟨k1, rfl, k2, k3⟩ := hc2
                            have hs' := hs
                            simp only [VR] at hs'
                            have hs2 : ∃ bs2 m2 cap2, cs = .slice bs2 m2 cap2 ∧ m2 = m ∧ m ≤ cap2 ∧ (full = true → cap2 = m) := by
                              rcases hs' with ⟨cb2, y2, cap2, hcc2, e, _, hcap2, hfull2, _⟩ | ⟨e0, e⟩
                              · exact ⟨_, _, _, e, rfl, hcap2, hfull2⟩
                              · exact ⟨_, _, _, e, e0.symm, by omega, fun _ => e0.symm⟩
                            obtain ⟨bs2, m2, cap2, rfl, em, hcap2, hfull2⟩ := hs2
                            subst em
                            split at hop
                            · rename_i hf
                              cases hop
                              refine s_append_grow h ht hu hz hby hz0 hzl hx h0 hb hc1.1 hs hb2 k1 k2 k3 hnm hbi fun base cap e => ?_
                              cases e
                              have := hfull2 hf
                              omega
                            · split at hop
                              · cases hop
                                by_cases hroom : m2 + n ≤ cap2
                                · exact s_append_room h ht hu hz hx h0 hb hc1.1 hc1.2 hs hb2 k1 hnm hbi fun base cap e => by cases e; exact hroom
                                · have hg := s_append_grow h ht hu hz hby hz0 hzl hx h0 hb hc1.1 hs hb2 k1 k2 k3 hnm (rd := []) hbi fun base cap e => by cases e; omega
                                  obtain ⟨nx, w', ρ', r1, r2, r3, r4, r5⟩ := hg
                                  refine ⟨nx, w', ρ', r1, r2, ?_, r4, fun b hb he => r5 b hb (by cases b <;> simp_all [Eff.news, lk, clip])⟩
                                  refine r3.less fun b' l' hb' => ?_
                                  rw [Eff.app_kill] at hb'
                                  rw [Eff.app_new]
                                  simp only [Gh.upd] at hb' ⊢
                                  split at hb'
                                  · rename_i e; simpa [e, clip] using hb'
                                  · rename_i e
                                    split at hb'
                                    · cases hb'
                                    · simpa [e] using hb'
                              · cases hop

include h in
theorem bop_copy {nm : Nat} {t : TypeId} {tr : List TypeId} {ty : TypeId} {cn : Array Bool} {d x : AV} {X : List Value} (hX : VRs ρ [d, x] X) {v : AV} {e : Eff} (hop : bopA P g nm .copy (t :: tr) [d, x] = some (v, e)) :
    Comes P ρ g w (builtin .copy (t :: tr).toArray ty cn X.toArray) v e := by
  obtain ⟨cd, cx, rfl, hd, hx⟩ := hX.two
  have hbi : (builtin .copy (t :: tr).toArray ty cn [cd, cx].toArray) = (do pure (.value (← Builtin.copy_ (t :: tr).toArray ty #[cd, cx]))) := rfl
  simp only [bopA] at hop
  split at hop
  · rename_i e ht
    split at hop
    · rename_i z k off m z' f' b off' n z'' f'' hz
      split at hop
      · cases hop
      · rename_i hzz
        simp only [not_or, ne_eq, Decidable.not_not] at hzz
        obtain ⟨rfl, rfl⟩ := hzz
        split at hop
        · rename_i hmin
          cases hop
          obtain ⟨i, hi, _⟩ := tsize_info hz
          have hd' := hd
          have hx' := hx
          simp only [VR] at hd' hx'
          have hdn : ∃ bs m' c, cd = .slice bs m' c ∧ m' = m := by
            rcases hd' with ⟨cb, y, cap, _, e, _⟩ | ⟨e0, e⟩
            · exact ⟨_, _, _, e, rfl⟩
            · exact ⟨_, _, _, e, e0.symm⟩
          have hxn : ∃ bs m' c, cx = .slice bs m' c ∧ m' = n := by
            rcases hx' with ⟨cb, y, cap, _, e, _⟩ | ⟨e0, e⟩
            · exact ⟨_, _, _, e, rfl⟩
            · exact ⟨_, _, _, e, e0.symm⟩
          obtain ⟨bs1, m', c1, rfl, em⟩ := hdn
          obtain ⟨bs2, n', c2, rfl, en⟩ := hxn
          subst em
          subst en
          refine Comes.pure h (cv := .int .i64 0) ?_ (by simp [VR]) rfl rfl rfl rfl
          rw [hbi]
          have hmin' : Nat.min n' m' = 0 := hmin
          cases bs1 <;> cases bs2 <;> simp [Builtin.copy_, run_underlying (tk_sl ht), Builtin.lenOf, sizeOf, typeInfo, hi, hmin', Builtin.firstCells, loadCells, loadCellsFrom, storeCells, goInt]
        · rename_i hmin
          split at hop
          · rename_i l l' hb hb'
            split at hop
            · cases hop
            · rename_i hc
              simp only [not_or, Nat.not_lt, Bool.not_eq_false] at hc
              cases hop
              exact s_copy h ht hz hd hb hx hb' hmin hc.1 hc.2.1 hc.2.2 hbi
          · cases hop
    · cases hop
  · cases hop

include h in
theorem bopA_sound {nm : Nat} (hnm : ρ (.o nm) = none) {b : Builtin} {ts : List TypeId} {ty : TypeId} {cn : Array Bool} {xs : List AV} {X : List Value} (hX : VRs ρ xs X) {v : AV} {e : Eff} (hop : bopA P g nm b ts xs = some (v, e)) :
    Comes P ρ g w (builtin b ts.toArray ty cn X.toArray) v e := by
  have hop' := hop
  unfold bopA at hop
  split at hop
  · exact bop_len h hX hop'
  · cases hop
    obtain ⟨x, y, rfl, hx, hy⟩ := hX.two
    simp only [VR] at hx hy; subst hx; subst hy
    rename_i k a k' b
    refine Comes.pure h (cv := .int k (if b > a then b else a)) ?_ (by simp [VR]) rfl rfl rfl rfl
    simp [builtin, run_max_int2]
  · cases hop
    obtain ⟨x, y, rfl, hx, hy⟩ := hX.two
    simp only [VR] at hx hy; subst hx; subst hy
    rename_i k a k' b
    refine Comes.pure h (cv := .int k (if b < a then b else a)) ?_ (by simp [VR]) rfl rfl rfl rfl
    simp [builtin, run_min_int2]
  · exact bop_append h hnm hX hop'
  · exact bop_copy h hX hop'
  · cases hop


/-- ALL OPERATIONS that are no calls of Go functions -/
theorem aop_sound (h : SR ρ g w) {ev : Operand → AV} {cev : Operand → Value} (hev : ∀ x, VR ρ (ev x) (cev x)) {nm : Nat} (hnm : ρ (.o nm) = none) {o : Oper} {v : AV} {e : Eff} (hop : aop P ev g nm o.op = some (v, e)) :
    Comes P ρ g w (execOp cev o) v e := by
  cases ho : o.op <;> rw [ho] at hop <;> simp only [aop, reduceCtorEq, Option.some.injEq, Prod.mk.injEq] at hop
  case move x => obtain ⟨rfl, rfl⟩ := hop; exact s_move h hev x (.inl ho)
  case assign x => obtain ⟨rfl, rfl⟩ := hop; exact s_move h hev x (.inr ho)
  case pick c a b =>
    split at hop
    · rename_i t hc; cases hop; exact s_pick h hev c a b ho hc
    · cases hop
  case alloc t =>
    simp only [Option.map_eq_some_iff, Prod.mk.injEq] at hop
    obtain ⟨l, hl, rfl, rfl⟩ := hop
    exact s_alloc h hev t ho hnm hl
  case box t x =>
    simp only [Option.map_eq_some_iff, Prod.mk.injEq] at hop
    obtain ⟨l, hl, rfl, rfl⟩ := hop
    exact s_box h hev t x ho hnm hl
  case build t parts =>
    split at hop
    · rename_i fs z ht hz
      split at hop
      · rename_i pl hpl
        simp only [Option.map_eq_some_iff, Prod.mk.injEq] at hop
        obtain ⟨l, hl, rfl, rfl⟩ := hop
        exact s_build_struct h hev t parts ho ht hz hpl hl
      · cases hop
    · rename_i n e z ht hz
      split at hop
      · rename_i s hs
        simp only [Option.map_eq_some_iff, Prod.mk.injEq] at hop
        obtain ⟨l, hl, rfl, rfl⟩ := hop
        exact s_build_array h hev t parts ho ht hz hs hl
      · cases hop
    · cases hop
  case buildSlice t n parts =>
    split at hop
    · rename_i e ht
      split at hop
      · rename_i s z hs hz
        split at hop
        · rename_i hc
          simp only [Option.map_eq_some_iff, Prod.mk.injEq] at hop
          obtain ⟨l, hl, rfl, rfl⟩ := hop
          exact s_buildSlice h hev t n parts ho hnm ht hs hz (.inl hc.2) hc.1 hl
        · cases hop
      · cases hop
    · cases hop
  case load t a =>
    split at hop
    · rename_i b off k n ha hk hn
      split at hop
      · rename_i l hb
        split at hop
        · rename_i hka
          split at hop
          · rename_i hl; cases hop; exact s_load_agg h hev t a ho ha hb hk hn hka hl
          · cases hop
        · rename_i hka
          simp only [Option.map_eq_some_iff, Prod.mk.injEq] at hop
          obtain ⟨u, hu, rfl, rfl⟩ := hop
          exact s_load h hev t a ho ha hb hk (by simpa using hka) hu
      · cases hop
    · cases hop
  case store t a x =>
    split at hop
    · rename_i n off cs s ha hcs hs
      split at hop
      · rename_i l hb
        split at hop
        · rename_i hc
          cases hop
          obtain ⟨rfl, h1, h2⟩ := hc
          exact s_store h hev t a x ho ha hcs hb hs h1 h2
        · cases hop
      · cases hop
    · cases hop
  case nilCheck x =>
    split at hop
    · rename_i b o' hx; cases hop; rw [← hx]; exact s_nilCheck h hev x ho (.inl ⟨_, _, hx⟩)
    · rename_i f a b hx; cases hop; rw [← hx]; exact s_nilCheck h hev x ho (.inr ⟨_, _, _, hx⟩)
    · cases hop
  case binOp op t x y u =>
    simp only [Option.map_eq_some_iff, Prod.mk.injEq] at hop
    obtain ⟨u, hu, rfl, rfl⟩ := hop
    exact s_binOp h hev op t _ x y ho hu
  case unOp op t x =>
    simp only [Option.map_eq_some_iff, Prod.mk.injEq] at hop
    obtain ⟨u, hu, rfl, rfl⟩ := hop
    exact s_unOp h hev op t x ho hu
  case convert src dst x =>
    split at hop
    · rename_i k0 k k' n hs hd hx; cases hop; exact s_convert h hev src dst x ho hs hd hx
    · cases hop
  case makeFunc fn first cap =>
    cases fn <;> simp only [aop, reduceCtorEq, Option.some.injEq, Prod.mk.injEq] at hop
    obtain ⟨rfl, rfl⟩ := hop
    exact s_makeFunc h hev _ first cap ho
  case makeSlice t n c =>
    split at hop
    · rename_i e k l k' c' ht hl hc
      split at hop
      · rename_i s by_ z hs hb hz
        split at hop
        · rename_i hcc
          cases hop
          obtain ⟨c1, c2, c3, c4, c5, c6⟩ := hcc
          exact s_makeSlice h hev t n c ho hnm ht hl hc hs hb hz c1 c2 c3 c4 c5 c6
        · cases hop
      · cases hop
    · cases hop
  case slice t x lo hi mx =>
    split at hop
    · rename_i n e b off ht hx
      split at hop
      · rename_i s l i j m hs hb h1 h2 h3
        split at hop
        · rename_i hc
          cases hop
          obtain ⟨c1, c2, c3, c4, c5, c6, c7⟩ := hc
          exact s_slice_arr h hev t x lo hi mx ho ht hx hs hb h1 h2 h3 c1 c2 c3 c4 c5 c6 c7
        · cases hop
      · cases hop
    · rename_i e b off n s full ht hx
      split at hop
      · rename_i s' i j m hs h1 h2 h3
        split at hop
        · rename_i hc
          cases hop
          obtain ⟨c1, c2, c3, c4, rfl, c6⟩ := hc
          exact s_slice_sl h hev t x lo hi mx ho ht hx hs h1 h2 h3 c1 c2 c3 c4 c6
        · cases hop
      · cases hop
    · rename_i e ht hx
      split at hop
      · rename_i s i j m hs h1 h2 h3
        split at hop
        · rename_i hc
          cases hop
          obtain ⟨rfl, rfl, rfl, c6⟩ := hc
          exact s_slice_nil h hev t x lo hi mx ho ht hx hs h1 h2 h3 c6
        · cases hop
      · cases hop
    · cases hop
  case fieldAddr t x f =>
    split at hop
    · rename_i b off fs hx ht
      split at hop
      · rename_i oo ft hf
        split at hop
        · rename_i s hs
          split at hop
          · cases hop
          · rename_i h0; cases hop; exact s_fieldAddr h hev t x f ho hx ht hf hs h0
        · cases hop
      · cases hop
    · cases hop
  case field t x f =>
    split at hop
    · rename_i l fs hx ht
      split at hop
      · rename_i oo ft hf
        simp only [Option.map_eq_some_iff, Prod.mk.injEq] at hop
        obtain ⟨u, hu, rfl, rfl⟩ := hop
        exact s_field h hev t x f ho hx ht hf hu
      · cases hop
    · cases hop
  case indexAddr t x i =>
    split at hop
    · rename_i e b off n z full k j ht hx hi
      split at hop
      · rename_i s hs
        split at hop
        · rename_i hc; cases hop; exact s_indexAddr_sl h hev t x i ho ht hx hi hs hc.1 hc.2
        · cases hop
      · cases hop
    · rename_i n e b off k j ht hx hi
      split at hop
      · rename_i s hs
        split at hop
        · rename_i hc; cases hop; exact s_indexAddr_arr h hev t x i ho ht hx hi hs hc.1 hc.2
        · cases hop
      · cases hop
    · cases hop
  case index t x i =>
    split at hop
    · rename_i n e l k j ht hx hi
      split at hop
      · rename_i s hs
        split at hop
        · rename_i hc
          simp only [Option.map_eq_some_iff, Prod.mk.injEq] at hop
          obtain ⟨u, hu, rfl, rfl⟩ := hop
          exact s_index h hev t x i ho ht hx hi hs hc.1 hc.2 hu
        · cases hop
      · cases hop
    · cases hop
  case extract x i =>
    split at hop
    · rename_i l hx
      simp only [Option.map_eq_some_iff, Prod.mk.injEq] at hop
      obtain ⟨u, hu, rfl, rfl⟩ := hop
      exact s_extract h hev x i ho hx hu
    · cases hop
  case call c =>
    split at hop
    · rename_i b hb
      rw [run_builtin cev ho hb]
      have hX : VRs ρ (c.args.toList.map ev) (c.args.toList.map cev) := VRs.of_get (by simp) fun i v hi => by
        simp only [List.getElem?_map, Option.map_eq_some_iff] at hi ⊢
        obtain ⟨a, ha, rfl⟩ := hi
        exact ⟨_, ⟨a, ha, rfl⟩, hev a⟩
      have := bopA_sound h hnm (ty := o.type) (cn := c.args.map fun | .const _ => true | _ => false) hX hop
      have e1 : c.args.map cev = (c.args.toList.map cev).toArray := by apply Array.ext'; simp
      rw [e1]
      simpa using this
    · cases hop

end
end Go.Sym
