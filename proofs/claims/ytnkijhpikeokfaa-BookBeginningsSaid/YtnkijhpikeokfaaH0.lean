/- The texts S28, S29, S30, S31. -/
import Derived.Test.YtnkijhpikeokfaaG2
import Derived.RangeFuncRecord
import Derived.RangeFuncLeaves
import Derived.OrdersIn
set_option linter.unusedSimpArgs false
set_option linter.unusedVariables false
/- Code in a round's frame, or in a frame that has deferred calls: rules for its shapes, its regions in the text's order. -/
namespace Go.Sym
open Go

/-- the wide fence, in a round or not -/
def Wd (ro : Option Nat) : Fence := { Fence.wide with round := ro }
theorem Wd.fn (ro : Option Nat) (f : FuncId) : (Wd ro).fn f := trivial
theorem calls_wd {P : Program} {ro : Option Nat} {m : Nat} {f : FuncId} {args : Array Value} {w : World} {R : Ending → World → Prop} (h : Calls P f args w R) : CallsIn (Wd ro) m P f args w R :=
  (callsIn_wide (n := m)).2 h

def bareA (a : Act) : Act := { a with defers := [] }
theorem bareA_eval (a : Act) (x : Operand) : (bareA a).eval x = a.eval x := by cases x <;> rfl
theorem bareA_put (a : Act) (d : Option Tmp) (v : Value) : bareA (a.put d v) = (bareA a).put d v := by cases d <;> rfl

section
variable {P : Program} {ρ : Rho} {g : Gh} {w : World} {n : Nat} {fr : Fr} {a : Act}

theorem wantA_bare {ops : Array Oper} (hF : FR ρ n fr (bareA a)) {o : Oper} {b : Bool} (h : wantA ops fr o = some b) : Region.wanted o (yielded ops a.tmps) = b := wantA_sound hF h

/-- an operation in its frame -/
theorem OpR.wpIn {ro : Option Nat} {m : Nat} {o : Oper} {no nr : Nat} {v : AV} {e : Eff} (h : OpR P fr.ev g no nr o.op v e) (hF : FR ρ n fr (bareA a)) (hS : SR ρ g w) (hnew : ∀ b, e.news b = true → ρ b = none)
    (hfresh : ∃ m, ρ (.o m) = none) (hd : ∀ d, o.dst = some d → d < n) {K : Act → World → Prop} {Q : Exit → Act → World → Prop}
    (hK : ∀ cv w' ρ', FR ρ' n (fr.put o.dst v) ((bareA a).put o.dst cv) → SR ρ' (e.app g) w' → Tr ρ ρ' w w' → (∀ b, ρ b = none → e.news b = false → ρ' b = none) → K (a.put o.dst cv) w') : o.wpIn (Wd ro) m P a w K Q := by
  have hev : ∀ x, VR ρ (fr.ev x) (a.eval x) := fun x => by rw [← bareA_eval]; exact hF.ev x
  have hargs0 : ∀ l : List Operand, VRs ρ (l.map fr.ev) (l.map a.eval) := fun l => by
    have := hF.args l
    rwa [show l.map (bareA a).eval = l.map a.eval from List.map_congr_left fun x _ => bareA_eval a x] at this
  obtain ⟨O, hO, h⟩ := h
  refine ⟨fun _ _ => trivial, ?_⟩
  have plain : aop P fr.ev g no o.op = some (v, e) → o.uponIn (Wd ro) m P a K Q ((o.semAt (Wd ro).round a.eval).run P w) := by
    intro h
    have hnd : ∀ c, o.op ≠ .defer c := fun c hc => by rw [hc] at h; cases h
    rw [Oper.semAt_eq _ _ _ hnd]
    have : ∃ m, aop P fr.ev g m o.op = some (v, e) ∧ ρ (.o m) = none := by
      rcases (aop_newo h).1 with he | ⟨l, he⟩
      · obtain ⟨m, hm⟩ := hfresh
        exact ⟨m, aop_nm h he m, hm⟩
      · exact ⟨no, h, hnew _ (by simp [Eff.news, he, lk])⟩
    obtain ⟨m, h, hm⟩ := this
    obtain ⟨nx, w', ρ', hr, hg, h1, h2, h3⟩ := aop_sound hS (cev := a.eval) hev hm h
    rw [hr]
    rcases hg with ⟨cv, rfl, hv⟩ | ⟨rfl, rfl⟩
    · exact hK cv w' ρ' ((hF.ext h2.ext).put hd hv) h1 h2 h3
    · exact hK undef w' ρ' ((hF.ext h2.ext).put hd (by simp only [VR]; exact ⟨[], rfl, VRs.nil⟩)) h1 h2 h3
  cases ho : o.op
  case call c =>
    rw [ho] at h
    cases hc : c.callee with
    | value f =>
      simp only [opE, hc] at h
      split at h
      · rename_i k x y hf
        have hvf := hev f
        rw [hf] at hvf
        simp only [VR] at hvf
        obtain ⟨x', y', hef, hx, hy⟩ := hvf
        have hargs : VRs ρ (x ++ c.args.toList.map fr.ev ++ y) (x' ++ c.args.toList.map a.eval ++ y') := (hx.append (hargs0 _)).append hy
        obtain ⟨hcall, hC⟩ := callE_sound hO hS hargs h hnew
        have hex : (execOp a.eval o).run P w = .ok (.enter k (x' ++ c.args.toList.map a.eval ++ y').toArray) w := by
          have : execOp a.eval o = (do let d ← resolve a.eval c o.type; invoke d.target d.args) := by unfold execOp; simp only [ho]
          rw [this]
          simp only [resolve, hc, hef, Deferred.ofValue, Sem.run_bind, Sem.run_pure, Result.andThen_ok, invoke]
          rw [run_callFunc hcall]
          simp only [Result.ok.injEq, Next.enter.injEq, true_and, and_true]
          apply Array.toList_inj.mp
          simp
        rw [Oper.semAt_eq _ _ _ (fun c' hc' => by rw [ho] at hc'; cases hc'), hex]
        refine ⟨fun hh => (by cases hh), calls_wd (Calls.mono hC ?_)⟩
        rintro en w' ⟨cv, ρ', rfl, hv, h1, h2, h3⟩
        exact hK cv w' ρ' ((hF.ext h2.ext).put hd hv) h1 h2 h3
      · cases h
    | invoke r m => exact plain (by rw [ho]; simp only [opE, hc] at h; exact h)
    | builtin b => exact plain (by rw [ho]; simp only [opE, hc] at h; exact h)
  all_goals
    rw [ho] at h
    exact plain (by rw [ho]; simpa only [opE] using h)

end

/-- what there is, whatever deferred calls the frame has -/
def HoldsD (ds : List Deferred) (ρ0 : Rho) (w0 : World) (n : Nat) (fr : Fr) (h : H) (a : Act) (w : World) : Prop := a.defers = ds ∧ Holds ρ0 w0 n fr h (bareA a) w

section
variable {P : Program} {ops : Array Oper} {n : Nat} {ρ0 : Rho} {w0 : World} {Q : Exit → Act → World → Prop} {ds : List Deferred} {ro : Option Nat} {m : Nat}

theorem put_defers (a : Act) (d : Option Tmp) (v : Value) : (a.put d v).defers = a.defers := by cases d <;> rfl

theorem region_textIn (hdst : ∀ (j : Nat) o, ops[j]? = some o → ∀ d, o.dst = some d → d < n) {K : Fr → H → Prop} (hQ : ∀ fr h a w, K fr h → HoldsD ds ρ0 w0 n fr h a w → Q .normal a w) :
    ∀ (os : List Oper) (i : Nat) (fr : Fr) (h : H) (a : Act) (w : World), ops.toList.drop i = os → RunS P ops os fr h K → HoldsD ds ρ0 w0 n fr h a w → wpOpsIn (Wd ro) m P ops Q (List.range' i (ops.size - i)) a w
  | [], i, fr, h, a, w, hd, hr, hh => by
    have : ops.size - i = 0 := by
      have := congrArg List.length hd
      simpa using this
    rw [this]
    exact hQ fr h a w hr hh
  | o :: os, i, fr, h, a, w, hd, hr, hh => by
    have hlen := congrArg List.length hd
    simp at hlen
    have ho : ops[i]? = some o := by
      have : (ops.toList.drop i)[0]? = some o := by rw [hd]; rfl
      simpa using this
    have hd' : ops.toList.drop (i + 1) = os := by
      rw [← List.tail_drop, hd]; rfl
    rw [show ops.size - i = (ops.size - (i + 1)) + 1 by omega, List.range'_succ]
    obtain ⟨v, e, hrec, hr⟩ := hr
    obtain ⟨hds, ρ, hF, hS, hTr, hW⟩ := hh
    have hf := hrec.follows
    simp only [wpOpsIn, ho]
    rcases hrec with ⟨hw, hop⟩ | ⟨hw, rfl, rfl⟩
    · rw [wantA_bare hF hw, if_pos rfl]
      refine hop.wpIn hF hS (fun b hb => ?_) ⟨_, hW.1 _ (Nat.le_refl _)⟩ (hdst i o ho) fun cv w' ρ' h1 h2 h3 h4 => ?_
      · have := hf.news hb
        cases b with
        | o m => exact hW.1 m this.1
        | r m => exact hW.2 m this.1
      · exact region_textIn hdst hQ os (i + 1) _ _ _ _ hd' hr ⟨by rw [put_defers]; exact hds, ρ', by rw [bareA_put]; exact h1, by rw [H.app_get hf]; exact h2, hTr.trans h3, hW.app hf h4⟩
    · rw [wantA_bare hF hw]
      simp only [Bool.false_eq_true, if_false]
      refine ⟨fun _ _ => trivial, region_textIn hdst hQ os (i + 1) _ _ _ _ hd' hr ⟨by rw [put_defers]; exact hds, ρ, by rw [bareA_put]; exact hF.put (hdst i o ho) (by simp only [VR]; exact ⟨[], rfl, VRs.nil⟩), ?_, hTr, ?_⟩⟩
      · rw [H.app_nil]; exact hS
      · rw [H.app_nil]; exact hW
end

/-- code, in a round or not, whatever deferred calls there are -/
def AWI (ro : Option Nat) (P : Program) (no nr n : Nat) (c : Code) (Q : APost) (fs : Fs) (h : H) : Prop :=
  ∀ (m : Nat) (ds : List Deferred) (ρ0 : Rho) (w0 : World), Within ρ0 no nr → ∀ a w, HoldsD ds ρ0 w0 n fs.fr h a w → c.wpIn (Wd ro) m P (fun e a' w' => ∃ fs' h', Q e fs' h' ∧ HoldsD ds ρ0 w0 n fs'.fr h' a' w') a w

section
variable {ro : Option Nat} {P : Program} {no nr n : Nat} {Q : APost} {fs : Fs} {h : H}

theorem AWI.mono {c : Code} {Q' : APost} (h1 : AWI ro P no nr n c Q' fs h) (hq : ∀ e fs h, Q' e fs h → Q e fs h) : AWI ro P no nr n c Q fs h :=
  fun m ds ρ0 w0 hW a w hh => wpIn_mono (h1 m ds ρ0 w0 hW a w hh) fun e _ _ ⟨fs', h', k1, k2⟩ => ⟨fs', h', hq e _ _ k1, k2⟩
theorem AWI.skip (h1 : Q .normal fs h) : AWI ro P no nr n .skip Q fs h := fun _ _ _ _ _ _ _ hh => wpIn_skip ⟨fs, h, h1, hh⟩
theorem AWI.exit {id : Nat} (h1 : Q (.exit id) fs h) : AWI ro P no nr n (.exit id) Q fs h := fun _ _ _ _ _ _ _ hh => wpIn_exit ⟨fs, h, h1, hh⟩
theorem AWI.ret (h1 : Q .ret fs h) : AWI ro P no nr n .ret Q fs h := fun _ _ _ _ _ _ _ hh => wpIn_ret ⟨fs, h, h1, hh⟩
theorem AWI.seq {x y : Code} (h1 : AWI ro P no nr n x (AThen (fun fs h => AWI ro P no nr n y Q fs h) Q) fs h) : AWI ro P no nr n (.seq x y) Q fs h := fun m ds ρ0 w0 hW a w hh =>
  wpIn_seq <| wpIn_mono (h1 m ds ρ0 w0 hW a w hh) fun e a' w' ⟨fs', h', k1, k2⟩ => by
    cases e with
    | normal => exact k1 m ds ρ0 w0 hW a' w' k2
    | _ => exact ⟨fs', h', k1, k2⟩
theorem AWI.block {id : Nat} {c : Code} (h1 : AWI ro P no nr n c (AIn id Q) fs h) : AWI ro P no nr n (.block id c) Q fs h := fun m ds ρ0 w0 hW a w hh =>
  wpIn_block <| wpIn_mono (h1 m ds ρ0 w0 hW a w hh) fun e a' w' ⟨fs', h', k1, k2⟩ => by
    cases e with
    | exit id' =>
      simp only [AIn] at k1
      simp only [Exit.inBlock]
      split
      · rename_i e; rw [if_pos e] at k1; exact ⟨fs', h', k1, k2⟩
      · rename_i e; rw [if_neg e] at k1; exact ⟨fs', h', k1, k2⟩
    | _ => exact ⟨fs', h', k1, k2⟩
theorem AWI.region {id : Nat} {os : List Oper} (hedge : edgesOK n os.toArray = true) (hr : RunF P os.toArray os fs h fun fs h => Q .normal fs h) : AWI ro P no nr n (.region id os.toArray false) Q fs h := fun m ds ρ0 w0 _ a w hh => by
  refine wpIn_region ?_
  have := region_textIn (ro := ro) (m := m) (ds := ds) (Q := fun e a' w' => ∃ fs' h', Q e fs' h' ∧ HoldsD ds ρ0 w0 n fs'.fr h' a' w') (ρ0 := ρ0) (w0 := w0) (ops := os.toArray) (edgesOK_spec hedge).2
    (fun fr h a w ⟨fs', e, hk⟩ hh => ⟨fs', h, hk, by rw [e]; exact hh⟩) os 0 fs.fr h a w (by simp) (RunF.runS _ _ _ hr) hh
  rw [List.range_eq_range']
  simpa using this
end
end Go.Sym

/- A range over a function: the caller, its rounds, and the iterator that yields. -/
namespace Go.Sym
open Go

/-- a range that is under way: its record, and the blocks it lies in -/
structure Rg where
  l : Nat
  D : Nat
  rcd : Loop

structure Rg.OK (R : Rg) : Prop where
  ready : R.rcd.state = .ready
  none : R.rcd.pending = none
  ne : R.D ≠ R.l

/-- the range's own blocks are as they were, and nobody else's -/
structure Kept (R : Rg) (ρ : Rho) (w : World) : Prop where
  lp : w.heap[R.l]? = some (.loop R.rcd)
  df : w.heap[R.D]? = some (.deferred (some []))
  own : ∀ n cb, ρ (.o n) = some cb → cb.blk ≠ R.l ∧ cb.blk ≠ R.D

theorem lt_of_heap {w : World} {i : Nat} {o : Obj} (h : w.heap[i]? = some o) : i < w.heap.size := (Array.getElem?_eq_some_iff.mp h).1

theorem Kept.tr {R : Rg} {ρ ρ' : Rho} {w w' : World} (h : Kept R ρ w) (t : Tr ρ ρ' w w') : Kept R ρ' w' where
  lp := (t.frame R.l (lt_of_heap h.lp) fun n cb hb => (h.own n cb hb).1).trans h.lp
  df := (t.frame R.D (lt_of_heap h.df) fun n cb hb => (h.own n cb hb).2).trans h.df
  own := fun n cb hb => by
    rcases t.own n cb hb with ⟨m, cb', hm, e⟩ | hge
    · rw [← e]; exact h.own m cb' hm
    · have h1 := lt_of_heap h.lp
      have h2 := lt_of_heap h.df
      exact ⟨by omega, by omega⟩

theorem SR.putObj {ρ : Rho} {g : Gh} {w : World} (h : SR ρ g w) {i : Nat} {o o' : Obj} (ho : w.heap[i]? = Option.some o) (hc : ∀ cs ty fz, o ≠ .cells cs ty fz) : SR ρ g (w.putObj i o') := by
  refine ⟨fun b l hb hz => ?_, h.sep, fun n cb hb => by rw [World.putObj_size]; exact h.bound n cb hb, fun hb => h.has hb⟩
  obtain ⟨cb, cs, ty, fz, h1, h2, h3⟩ := h.cells b l hb hz
  have hne : cb.blk ≠ i := fun e => by rw [e, ho] at h2; cases h2; exact hc _ _ _ rfl
  exact ⟨cb, cs, ty, fz, h1, (World.putObj_heap_other hne).trans h2, h3⟩

theorem Tr.putObj {ρ0 ρ : Rho} {w0 w : World} (t : Tr ρ0 ρ w0 w) {i : Nat} {o : Obj} (hi : w0.heap.size ≤ i) : Tr ρ0 ρ w0 (w.putObj i o) :=
  ⟨t.ext, t.own, t.ro, t.os, t.tape, t.output, by rw [World.putObj_size]; exact t.size, fun j hj hn => (World.putObj_heap_other (by omega)).trans (t.frame j hj hn)⟩

/-- the iterator's frame, and beside it the caller's -/
def HoldsI (R : Rg) (ρ0 : Rho) (w0 : World) (n : Nat) (go fs : Fs) (h : H) (a : Act) (w : World) : Prop :=
  ∃ ρ, FR ρ n fs.fr a ∧ (∀ t, VR ρ (go.fr t) (R.rcd.tmps.getD t undef)) ∧ SR ρ h.get w ∧ Tr ρ0 ρ w0 w ∧ Within ρ h.ow.length h.ro.length ∧ Kept R ρ w

def AWL (R : Rg) (P : Program) (no nr n : Nat) (go : Fs) (c : Code) (Q : APost) (fs : Fs) (h : H) : Prop :=
  ∀ (ρ0 : Rho) (w0 : World), Within ρ0 no nr → w0.heap.size ≤ R.l → w0.heap.size ≤ R.D → ∀ a w, HoldsI R ρ0 w0 n go fs h a w → c.wp P (fun e a' w' => ∃ fs' h', Q e fs' h' ∧ HoldsI R ρ0 w0 n go fs' h' a' w') a w

def WkL (R : Rg) (no nr : Nat) (go fs : Fs) (h : H) (fs2 : Fs) (h2 : H) : Prop := ∀ (ρ0 : Rho) (w0 : World) (n : Nat), Within ρ0 no nr → ∀ a w, HoldsI R ρ0 w0 n go fs h a w → HoldsI R ρ0 w0 n go fs2 h2 a w

section
variable {R : Rg} {P : Program} {no nr n : Nat} {Q : APost} {go fs : Fs} {h : H}

theorem AWL.mono {c : Code} {Q' : APost} (h1 : AWL R P no nr n go c Q' fs h) (hq : ∀ e fs h, Q' e fs h → Q e fs h) : AWL R P no nr n go c Q fs h :=
  fun ρ0 w0 hW h2 h3 a w hh => wp_mono (h1 ρ0 w0 hW h2 h3 a w hh) fun e _ _ ⟨fs', h', k1, k2⟩ => ⟨fs', h', hq e _ _ k1, k2⟩
theorem AWL.skip (h1 : Q .normal fs h) : AWL R P no nr n go .skip Q fs h := fun _ _ _ _ _ _ _ hh => wp_skip ⟨fs, h, h1, hh⟩
theorem AWL.exit {id : Nat} (h1 : Q (.exit id) fs h) : AWL R P no nr n go (.exit id) Q fs h := fun _ _ _ _ _ _ _ hh => wp_exit ⟨fs, h, h1, hh⟩
theorem AWL.ret (h1 : Q .ret fs h) : AWL R P no nr n go .ret Q fs h := fun _ _ _ _ _ _ _ hh => wp_ret ⟨fs, h, h1, hh⟩
theorem AWL.seq {x y : Code} (h1 : AWL R P no nr n go x (AThen (fun fs h => AWL R P no nr n go y Q fs h) Q) fs h) : AWL R P no nr n go (.seq x y) Q fs h := fun ρ0 w0 hW h2 h3 a w hh =>
  wp_seq <| wp_mono (h1 ρ0 w0 hW h2 h3 a w hh) fun e a' w' ⟨fs', h', k1, k2⟩ => by
    cases e with
    | normal => exact k1 ρ0 w0 hW h2 h3 a' w' k2
    | _ => exact ⟨fs', h', k1, k2⟩
theorem AWL.cond {c : Operand} {x y : Code} {t : Bool} (hc : evO fs c = some (.bool t)) (hx : t = true → AWL R P no nr n go x Q fs h) (hy : t = false → AWL R P no nr n go y Q fs h) : AWL R P no nr n go (.cond c x y) Q fs h := fun ρ0 w0 hW h2 h3 a w hh => by
  obtain ⟨ρ, hF, _⟩ := id hh
  have := hF.ev c
  rw [evO_eq hc] at this
  simp only [VR] at this
  exact wp_cond_split this (fun ht => hx ht ρ0 w0 hW h2 h3 a w hh) (fun ht => hy ht ρ0 w0 hW h2 h3 a w hh)
theorem AWL.block {id : Nat} {c : Code} (h1 : AWL R P no nr n go c (AIn id Q) fs h) : AWL R P no nr n go (.block id c) Q fs h := fun ρ0 w0 hW h2 h3 a w hh =>
  wp_block <| wp_mono (h1 ρ0 w0 hW h2 h3 a w hh) fun e a' w' ⟨fs', h', k1, k2⟩ => by
    cases e with
    | exit id' =>
      simp only [AIn] at k1
      simp only [Exit.inBlock]
      split
      · rename_i e; rw [if_pos e] at k1; exact ⟨fs', h', k1, k2⟩
      · rename_i e; rw [if_neg e] at k1; exact ⟨fs', h', k1, k2⟩
    | _ => exact ⟨fs', h', k1, k2⟩

/-- code that doesn't yield -/
theorem AWL.code {c : Code} (h1 : AW P h.ow.length h.ro.length n c Q fs h) : AWL R P no nr n go c Q fs h := fun ρ0 w0 _ _ _ a w ⟨ρ, hF, hG, hS, hTr, hWi, hK⟩ => by
  refine wp_mono (h1 ρ w hWi a w ⟨ρ, hF, hS, Tr.refl _ _, hWi⟩) ?_
  rintro e a' w' ⟨fs', h', hq, ρ', hF', hS', hTr', hW'⟩
  exact ⟨fs', h', hq, ρ', hF', fun t => VR.ext hTr'.ext _ _ (hG t), hS', hTr.trans hTr', hW', hK.tr hTr'⟩

theorem AWL.weaken {c : Code} {fs2 : Fs} {h2 : H} (hk : WkL R no nr go fs h fs2 h2) (h1 : AWL R P no nr n go c Q fs2 h2) : AWL R P no nr n go c Q fs h := fun ρ0 w0 hW h3 h4 a w hh => h1 ρ0 w0 hW h3 h4 a w (hk ρ0 w0 n hW a w hh)

theorem AWL.loop {α : Type} {c : Code} (I : α → Fs × H) (μ : α → Nat) (hr : ∀ x, AWL R P no nr n go c (AThen (fun fs h => ∃ y, WkL R no nr go fs h (I y).1 (I y).2 ∧ μ y < μ x) Q) (I x).1 (I x).2) (x : α) (hs : WkL R no nr go fs h (I x).1 (I x).2) :
    AWL R P no nr n go (.loop c) Q fs h := fun ρ0 w0 hW h2 h3 a w hh => by
  have key : ∀ (m : Nat) (x : α), μ x = m → ∀ a w, HoldsI R ρ0 w0 n go (I x).1 (I x).2 a w → ∀ (b : Frame) (k : List Item) (cs : List Frame),
      ∃ e a' w', (∃ fs' h', Q e fs' h' ∧ HoldsI R ρ0 w0 n go fs' h' a' w') ∧ Arrives P (lone (b.at a (.code c :: .inLoop c :: k)) cs w) b k cs e a' w' := by
    intro m
    induction m using Nat.strongRecOn with
    | _ m ih =>
      intro x hx a w hh b k cs
      obtain ⟨e, a1, w1, ⟨fs', h', hq, hh'⟩, harr⟩ := hr x ρ0 w0 hW h2 h3 a w hh b (.inLoop c :: k) cs
      cases e with
      | normal =>
        obtain ⟨y, hy, hlt⟩ := hq
        obtain ⟨e2, a2, w2, hq2, harr2⟩ := ih (μ y) (hx ▸ hlt) y rfl a1 w1 (hy ρ0 w0 n hW a1 w1 hh') b k cs
        exact ⟨e2, a2, w2, hq2, .of_steps (Steps.trans harr (.one step_inLoop)) harr2⟩
      | exit id => exact ⟨_, a1, w1, ⟨fs', h', hq, hh'⟩, .pass (x := .inLoop c) rfl (fun _ _ => .inl (by simp)) harr⟩
      | goto l => exact ⟨_, a1, w1, ⟨fs', h', hq, hh'⟩, .pass (x := .inLoop c) rfl (fun _ _ => .inl (by simp)) harr⟩
      | ret => exact ⟨_, a1, w1, ⟨fs', h', hq, hh'⟩, .pass (x := .inLoop c) rfl (fun _ _ => .inl (by simp)) harr⟩
      | panic ch => exact ⟨_, a1, w1, ⟨fs', h', hq, hh'⟩, .pass (x := .inLoop c) rfl (fun _ _ => .inl (by simp)) harr⟩
      | outgrown => exact ⟨_, a1, w1, ⟨fs', h', hq, hh'⟩, .pass (x := .inLoop c) rfl (fun _ _ => .inl (by simp)) harr⟩
  intro b k cs
  obtain ⟨e, a', w', hq, harr⟩ := key _ x rfl a w (hs ρ0 w0 n hW a w hh) b k cs
  exact ⟨e, a', w', hq, .of_steps (.one step_loop) harr⟩

theorem WkL.of {fs2 : Fs} {h2 : H} (so : List Nat) (sr : List BId) (hok : renOK no nr so sr h2 = true) (ho : RowsO (renOf no nr so sr) h 0 h2.ow) (hr : RowsR (renOf no nr so sr) h 0 h2.ro) (hf : FW (renOf no nr so sr) fs fs2)
    (hg : FW (renOf no nr so sr) go go) : WkL R no nr go fs h fs2 h2 := fun ρ0 w0 n hW a w ⟨ρ, hF, hG, hS, hTr, _, hK⟩ => by
  obtain ⟨k1, k2, k3⟩ := renamed hW hS hTr hok ho hr
  refine ⟨_, ⟨hF.1, hF.2.1, fun t => ?_⟩, fun t => ?_, k1, k2, k3, hK.lp, hK.df, fun m cb hm => ?_⟩
  · cases hl : look fs2 t with
    | none => simp [Fs.fr, hl, VR]
    | some v =>
      obtain ⟨u, q1, q2⟩ := hf.get t v hl
      have := hF.2.2 t
      simp only [Fs.fr, q1, Option.getD_some] at this
      simp only [Fs.fr, hl, Option.getD_some]
      exact VR.rn _ _ _ q2 this
  · cases hl : look go t with
    | none => simp [Fs.fr, hl, VR]
    | some v =>
      obtain ⟨u, q1, q2⟩ := hg.get t v hl
      have := hG t
      simp only [Fs.fr, q1, Option.getD_some] at this
      simp only [Fs.fr, hl, Option.getD_some]
      exact VR.rn _ _ _ q2 this
  · obtain ⟨b', s, c', e1, e2, rfl⟩ := comp_some hm
    simp only [renOf] at e1
    split at e1
    · cases e1; exact ⟨(hK.own _ _ e2).1, (hK.own _ _ e2).2⟩
    · simp only [Option.map_eq_some_iff, Prod.mk.injEq] at e1
      obtain ⟨x, _, rfl, _⟩ := e1
      exact ⟨(hK.own _ _ e2).1, (hK.own _ _ e2).2⟩

theorem WkL.same {fs2 : Fs} {h2 : H} (hh : h = h2) (hf : FWs fs fs2) : WkL R no nr go fs h fs2 h2 := fun ρ0 w0 n _ a w ⟨ρ, hF, hr⟩ => by
  subst hh
  refine ⟨ρ, ⟨hF.1, hF.2.1, fun t => ?_⟩, hr⟩
  cases hl : look fs2 t with
  | none => simp [Fs.fr, hl, VR]
  | some v =>
    have h1 := hf.get t v hl
    have := hF.2.2 t
    simp only [Fs.fr, h1, Option.getD_some] at this
    simp only [Fs.fr, hl, Option.getD_some]
    exact this
theorem WkL.refl : WkL R no nr go fs h fs h := fun _ _ _ _ _ _ hh => hh
end

/-- what a round does: its assignments, then its body -/
def RoundOK (R : Rg) (P : Program) (go : Fs) (xs : List AV) (h : H) (K : H → Prop) : Prop :=
  ∃ N, N = R.rcd.tmps.size ∧ R.rcd.params.size = xs.length ∧ R.rcd.params.toList.all (fun t => Nat.blt t N) = true ∧
  AWI (some R.l) P h.ow.length h.ro.length N R.rcd.assign (fun e fs1 h1 => e = .normal ∧ AWI (some R.l) P h1.ow.length h1.ro.length N R.rcd.body (fun e fs2 h2 => e = .normal ∧ K h2) fs1 h1)
    ((R.rcd.params.toList.zip xs).reverse ++ go) h

def dput (fs : Fs) (d : Option Tmp) (v : AV) : Fs := match d with
  | some d => (d, v) :: fs
  | none => fs
theorem dput_fr (fs : Fs) (d : Option Tmp) (v : AV) : (dput fs d v).fr = fs.fr.put d v := by
  cases d with
  | none => rfl
  | some d => exact Fs.fr_cons fs d v

/-- a region of the iterator's, in which it may yield -/
def RunL (R : Rg) (P : Program) (ops : Array Oper) (go : Fs) : List Oper → Fs → H → (Fs → H → Prop) → Prop
  | [], fs, h, K => K fs h
  | o :: os, fs, h, K => (∃ v e, RecR P ops fs.fr h o v e ∧ RunL R P ops go os (dput fs o.dst v) (h.app e) K) ∨
      (∃ c f xs, o.guard = none ∧ o.op = .call c ∧ c.callee = .value f ∧ evO fs f = some (.yl R.l) ∧ evs fs c.args.toList = some xs ∧
        RoundOK R P go xs h fun h' => RunL R P ops go os (dput fs o.dst (.bool true)) h' K)

section
variable {R : Rg} {P : Program} {go : Fs}

theorem foldl_set_size : ∀ (l : List (Tmp × Value)) (t : Array Value), (l.foldl (fun t (p : Tmp × Value) => t.setIfInBounds p.1 p.2) t).size = t.size
  | [], t => rfl
  | p :: l, t => by simp only [List.foldl_cons]; rw [foldl_set_size l]; simp

theorem look_append {l r : Fs} {t : Nat} : look (l ++ r) t = match look l t with
  | some v => some v
  | none => look r t := by
  induction l with
  | nil => rfl
  | cons p l ih =>
    obtain ⟨m, v⟩ := p
    simp only [List.cons_append, look]
    cases Nat.beq m t with
    | true => rfl
    | false => exact ih

/-- the round's temporaries -/
theorem round_frame {ρ : Rho} {N : Nat} : ∀ (ps : List Tmp) (xs : List AV) (vs : List Value) (tmps : Array Value) (go : Fs), tmps.size = N → VRs ρ xs vs → ps.length = xs.length → ps.all (fun t => Nat.blt t N) = true →
    (∀ t, VR ρ (go.fr t) (tmps.getD t undef)) → ∀ t, VR ρ (Fs.fr ((ps.zip xs).reverse ++ go) t) (((ps.zip vs).foldl (fun t (p : Tmp × Value) => t.setIfInBounds p.1 p.2) tmps).getD t undef)
  | [], xs, vs, tmps, go, _, _, _, _, hg, t => by simpa using hg t
  | p :: ps, [], vs, tmps, go, _, _, hl, _, _, t => by simp at hl
  | p :: ps, x :: xs, vs, tmps, go, hN, hv, hl, hb, hg, t => by
    simp only [VRs] at hv
    obtain ⟨c, cs, rfl, h1, h2⟩ := hv
    simp only [List.all_cons, Bool.and_eq_true, Nat.blt_eq] at hb
    have hq : ∀ t, VR ρ (Fs.fr ((p, x) :: go) t) ((tmps.setIfInBounds p c).getD t undef) := fun t => by
      rw [Fs.fr_cons]
      simp only [Fr.upd]
      by_cases e : t = p
      · subst e
        rw [if_pos rfl]
        have : (tmps.setIfInBounds t c).getD t undef = c := by
          simp [hN, hb.1]
        rw [this]; exact h1
      · rw [if_neg e]
        have : (tmps.setIfInBounds p c).getD t undef = tmps.getD t undef := by
          simp [Array.getElem?_setIfInBounds_ne (fun e' => e e'.symm)]
        rw [this]; exact hg t
    have := round_frame ps xs cs (tmps.setIfInBounds p c) ((p, x) :: go) (by simp [hN]) h2 (by simpa using hl) hb.2 hq t
    simpa [List.zip_cons_cons, List.foldl_cons, List.reverse_cons, List.append_assoc] using this

theorem evs_VRs {ρ : Rho} {n : Nat} {fs : Fs} {a : Act} (hF : FR ρ n fs.fr a) {l : List Operand} {xs : List AV} (h : evs fs l = some xs) : VRs ρ xs (l.map a.eval) := by
  rw [← evs_eq h]; exact hF.args l

theorem yield_step {ρ0 : Rho} {w0 : World} {n : Nat} {fs : Fs} {h : H} {a : Act} {w : World} (hR : R.OK) (hl : w0.heap.size ≤ R.l) {o : Oper} {c : Call} {f : Operand} {xs : List AV}
    (ho : o.op = .call c) (hc : c.callee = .value f) (hf : evO fs f = some (.yl R.l)) (hx : evs fs c.args.toList = some xs) (hd : ∀ d, o.dst = some d → d < n) {K0 : H → Prop} (hr : RoundOK R P go xs h K0)
    (hh : HoldsI R ρ0 w0 n go fs h a w) {K : Act → World → Prop} {Q : Exit → Act → World → Prop} (hK : ∀ h' w', K0 h' → HoldsI R ρ0 w0 n go (dput fs o.dst (.bool true)) h' (a.put o.dst (.bool true)) w' → K (a.put o.dst (.bool true)) w') :
    o.wpIn (Wd none) 0 P a w K Q := by
  obtain ⟨ρ, hF, hG, hS, hTr, hW, hKp⟩ := hh
  obtain ⟨N, hN, hps, hpb, hr⟩ := hr
  have hvf := hF.ev f
  rw [evO_eq hf] at hvf
  simp only [VR] at hvf
  have hargs := evs_VRs hF hx
  refine ⟨fun _ _ => trivial, ?_⟩
  have hlen : (c.args.map a.eval).size = R.rcd.params.size := by
    have := hargs.length
    simp only [List.length_map, Array.length_toList] at this
    simp [this, hps]
  have hex : (o.semAt (Wd none).round a.eval).run P w = .ok (.round R.l R.rcd.fn ((R.rcd.params.zip (c.args.map a.eval)).foldl (fun tmps (t, a) => tmps.setIfInBounds t a) R.rcd.tmps) R.rcd.assign R.rcd.body) w := by
    rw [Oper.semAt_eq _ _ _ (fun c' hc' => by rw [ho] at hc'; cases hc')]
    have : execOp a.eval o = (do let d ← resolve a.eval c o.type; invoke d.target d.args) := by unfold execOp; simp only [ho]
    rw [this]
    simp only [resolve, hc, hvf, Deferred.ofValue, Sem.run_bind, Sem.run_pure, Result.andThen_ok, invoke]
    have hy := run_yield (P := P) (w := w) (args := c.args.map a.eval) hKp.lp hlen
    simpa using hy
  rw [hex, Oper.uponIn_round]
  refine ⟨fun hh => (by cases hh), roundIn_of_wpIn (F := Wd none) trivial ?_⟩
  have hfr : ∀ t, VR ρ (Fs.fr ((R.rcd.params.toList.zip xs).reverse ++ go) t) (((R.rcd.params.zip (c.args.map a.eval)).foldl (fun tmps (t, a) => tmps.setIfInBounds t a) R.rcd.tmps).getD t undef) := by
    have := round_frame (ρ := ρ) (N := N) R.rcd.params.toList xs (c.args.toList.map a.eval) R.rcd.tmps go hN.symm hargs (by simpa using hps) hpb hG
    have e : (R.rcd.params.zip (c.args.map a.eval)).foldl (fun tmps (t, a) => tmps.setIfInBounds t a) R.rcd.tmps = (R.rcd.params.toList.zip (c.args.toList.map a.eval)).foldl (fun t (p : Tmp × Value) => t.setIfInBounds p.1 p.2) R.rcd.tmps := by
      rw [← Array.foldl_toList]
      congr 1
      simp
    rw [e]; exact this
  have hsz : ((R.rcd.params.zip (c.args.map a.eval)).foldl (fun tmps (t, a) => tmps.setIfInBounds t a) R.rcd.tmps).size = N := by
    rw [← Array.foldl_toList, hN]
    exact foldl_set_size _ _
  refine wpIn_mono (hr 0 [] ρ w hW _ w ⟨rfl, ρ, ⟨rfl, hsz, hfr⟩, hS, Tr.refl _ _, hW⟩) ?_
  rintro e a1 w1 ⟨fs1, h1, ⟨rfl, hbody⟩, hds1, ρ1, hF1, hS1, hTr1, hW1⟩
  have hK1 := hKp.tr hTr1
  refine ⟨_, run_beginRound hK1.lp hR.ready, ?_⟩
  have hl1 := lt_of_heap hK1.lp
  have hS2 : SR ρ1 h1.get (w1.putObj R.l (.loop { R.rcd with state := .busy })) := hS1.putObj hK1.lp (fun _ _ _ h => by cases h)
  have hKb : Kept { R with rcd := { R.rcd with state := .busy } } ρ1 (w1.putObj R.l (.loop { R.rcd with state := .busy })) :=
    ⟨World.putObj_heap_same hl1, (World.putObj_heap_other hR.ne).trans hK1.df, hK1.own⟩
  refine wpIn_mono (hbody 0 [] ρ1 _ hW1 a1 _ ⟨hds1, ρ1, hF1, hS2, Tr.refl _ _, hW1⟩) ?_
  rintro e a2 w3 ⟨fs2, h2, ⟨rfl, hk⟩, hds2, ρ2, hF2, hS3, hTr2, hW2⟩
  have hK3 := hKb.tr hTr2
  have hl3 := lt_of_heap hK3.lp
  have hrec : ({ R.rcd with state := .busy, } : Loop) = { R.rcd with state := .busy } := rfl
  have hend := run_endRound (P := P) none hK3.lp
  have hback : ({ ({ R with rcd := { R.rcd with state := .busy } } : Rg).rcd with state := if (none : Option Code).isNone then .ready else .done, pending := none } : Loop) = R.rcd := by
    have h1 := hR.ready
    have h2 := hR.none
    cases hr : R.rcd
    rw [hr] at h1 h2
    simp only at h1 h2
    subst h1; subst h2
    simp
  refine ⟨_, _, hend, ?_⟩
  rw [hback]
  refine hK h2 _ hk ⟨ρ2, ?_, fun t => VR.ext hTr2.ext _ _ (VR.ext hTr1.ext _ _ (hG t)), hS3.putObj hK3.lp (fun _ _ _ h => by cases h), ?_, hW2, ?_⟩
  · rw [dput_fr]
    exact ((hF.ext hTr1.ext).ext hTr2.ext).put hd (by simp [VR])
  · exact (((hTr.trans hTr1).putObj hl).trans hTr2).putObj hl
  · exact ⟨World.putObj_heap_same hl3, (World.putObj_heap_other hR.ne).trans hK3.df, hK3.own⟩

theorem region_textL {ops : Array Oper} {n : Nat} {ρ0 : Rho} {w0 : World} (hR : R.OK) (hl : w0.heap.size ≤ R.l) (hdst : ∀ (j : Nat) o, ops[j]? = some o → ∀ d, o.dst = some d → d < n) {K : Fs → H → Prop} {Q : Exit → Act → World → Prop}
    (hQ : ∀ fs h a w, K fs h → HoldsI R ρ0 w0 n go fs h a w → Q .normal a w) :
    ∀ (os : List Oper) (i : Nat) (fs : Fs) (h : H) (a : Act) (w : World), ops.toList.drop i = os → RunL R P ops go os fs h K → HoldsI R ρ0 w0 n go fs h a w → wpOpsIn (Wd none) 0 P ops Q (List.range' i (ops.size - i)) a w
  | [], i, fs, h, a, w, hd, hr, hh => by
    have : ops.size - i = 0 := by
      have := congrArg List.length hd
      simpa using this
    rw [this]
    exact hQ fs h a w hr hh
  | o :: os, i, fs, h, a, w, hd, hr, hh => by
    have hlen := congrArg List.length hd
    simp at hlen
    have ho : ops[i]? = some o := by
      have : (ops.toList.drop i)[0]? = some o := by rw [hd]; rfl
      simpa using this
    have hd' : ops.toList.drop (i + 1) = os := by
      rw [← List.tail_drop, hd]; rfl
    rw [show ops.size - i = (ops.size - (i + 1)) + 1 by omega, List.range'_succ]
    simp only [wpOpsIn, ho]
    rcases hr with ⟨v, e, hrec, hr⟩ | ⟨c, f, xs, hg, hop, hc, hf, hx, hr⟩
    · obtain ⟨ρ, hF, hG, hS, hTr, hW, hKp⟩ := hh
      have hFb : FR ρ n fs.fr (bareA a) := ⟨rfl, hF.2.1, hF.2.2⟩
      have hfo := hrec.follows
      rcases hrec with ⟨hw, hop⟩ | ⟨hw, rfl, rfl⟩
      · rw [wantA_sound hF hw, if_pos rfl]
        refine hop.wpIn hFb hS (fun b hb => ?_) ⟨_, hW.1 _ (Nat.le_refl _)⟩ (hdst i o ho) fun cv w' ρ' h1 h2 h3 h4 => ?_
        · have := hfo.news hb
          cases b with
          | o m => exact hW.1 m this.1
          | r m => exact hW.2 m this.1
        · exact region_textL hR hl hdst hQ os (i + 1) _ _ _ _ hd' hr ⟨ρ', by rw [dput_fr]; exact ⟨by rw [put_defers]; exact hF.1, by rw [← bareA_put] at h1; exact h1.2.1, by rw [← bareA_put] at h1; exact h1.2.2⟩,
            fun t => VR.ext h3.ext _ _ (hG t), by rw [H.app_get hfo]; exact h2, hTr.trans h3, hW.app hfo h4, hKp.tr h3⟩
      · rw [wantA_sound hF hw]
        simp only [Bool.false_eq_true, if_false]
        refine ⟨fun _ _ => trivial, region_textL hR hl hdst hQ os (i + 1) _ _ _ _ hd' hr ⟨ρ, by rw [dput_fr]; exact hF.put (hdst i o ho) (by simp only [VR]; exact ⟨[], rfl, VRs.nil⟩), hG, ?_, hTr, ?_, hKp⟩⟩
        · rw [H.app_nil]; exact hS
        · rw [H.app_nil]; exact hW
    · have hw : Region.wanted o (yielded ops a.tmps) = true := by unfold Region.wanted; rw [hg]
      rw [hw, if_pos rfl]
      exact yield_step hR hl hop hc hf hx (hdst i o ho) hr hh fun h' w' hk hh' => region_textL hR hl hdst hQ os (i + 1) _ _ _ _ hd' hk hh'

theorem AWL.yields {no nr n : Nat} {Q : APost} {fs : Fs} {h : H} (hR : R.OK) {id : Nat} {os : List Oper} (hedge : edgesOK n os.toArray = true) (hr : RunL R P os.toArray go os fs h fun fs h => Q .normal fs h) : AWL R P no nr n go (.region id os.toArray false) Q fs h := fun ρ0 w0 _ hl _ a w hh => by
  refine wpIn_wide.1 (wpIn_region (n := 0) ?_)
  show wpOpsIn (Wd none) 0 P os.toArray _ (List.range os.toArray.size) a w
  have := region_textL (Q := fun e a' w' => ∃ fs' h', Q e fs' h' ∧ HoldsI R ρ0 w0 n go fs' h' a' w') (ρ0 := ρ0) (w0 := w0) (ops := os.toArray) hR hl (edgesOK_spec hedge).2
    (fun fs h a w hk hh => ⟨fs, h, hk, hh⟩) os 0 fs h a w (by simp) hr hh
  rw [List.range_eq_range']
  simpa using this
end

/-! the caller -/

def markD (D : Nat) : Deferred := { target := .collected D, args := #[] }

/-- a frame that has ranged: a mark for each range -/
def HoldsR (ρ0 : Rho) (w0 : World) (n : Nat) (fs : Fs) (h : H) (a : Act) (w : World) : Prop :=
  ∃ ds : List Nat, ds.Nodup ∧ a.defers = ds.map markD ∧ ∃ ρ, FR ρ n fs.fr (bareA a) ∧ SR ρ h.get w ∧ Tr ρ0 ρ w0 w ∧ Within ρ h.ow.length h.ro.length ∧
    ∀ D ∈ ds, w0.heap.size ≤ D ∧ w.heap[D]? = some (.deferred (some [])) ∧ ∀ n cb, ρ (.o n) = some cb → cb.blk ≠ D

def AWR (P : Program) (no nr n : Nat) (c : Code) (Q : APost) (fs : Fs) (h : H) : Prop :=
  ∀ (ρ0 : Rho) (w0 : World), Within ρ0 no nr → ∀ a w, HoldsR ρ0 w0 n fs h a w → c.wpIn (Wd none) 0 P (fun e a' w' => ∃ fs' h', Q e fs' h' ∧ HoldsR ρ0 w0 n fs' h' a' w') a w

section
variable {P : Program} {no nr n : Nat} {Q : APost} {fs : Fs} {h : H}

theorem AWR.seq {x y : Code} (h1 : AWR P no nr n x (AThen (fun fs h => AWR P no nr n y Q fs h) Q) fs h) : AWR P no nr n (.seq x y) Q fs h := fun ρ0 w0 hW a w hh =>
  wpIn_seq <| wpIn_mono (h1 ρ0 w0 hW a w hh) fun e a' w' ⟨fs', h', k1, k2⟩ => by
    cases e with
    | normal => exact k1 ρ0 w0 hW a' w' k2
    | _ => exact ⟨fs', h', k1, k2⟩
theorem AWR.ret (h1 : Q .ret fs h) : AWR P no nr n .ret Q fs h := fun _ _ _ _ _ hh => wpIn_ret ⟨fs, h, h1, hh⟩
theorem AWR.block {id : Nat} {c : Code} (h1 : AWR P no nr n c (AIn id Q) fs h) : AWR P no nr n (.block id c) Q fs h := fun ρ0 w0 hW a w hh =>
  wpIn_block <| wpIn_mono (h1 ρ0 w0 hW a w hh) fun e a' w' ⟨fs', h', k1, k2⟩ => by
    cases e with
    | exit id' =>
      simp only [AIn] at k1
      simp only [Exit.inBlock]
      split
      · rename_i e; rw [if_pos e] at k1; exact ⟨fs', h', k1, k2⟩
      · rename_i e; rw [if_neg e] at k1; exact ⟨fs', h', k1, k2⟩
    | _ => exact ⟨fs', h', k1, k2⟩

/-- code that doesn't range -/
theorem AWR.code {c : Code} (h1 : AWI none P h.ow.length h.ro.length n c Q fs h) : AWR P no nr n c Q fs h := fun ρ0 w0 _ a w ⟨ds, hnd, hds, ρ, hF, hS, hTr, hWi, hD⟩ => by
  refine wpIn_mono (h1 0 _ ρ w hWi a w ⟨hds, ρ, hF, hS, Tr.refl _ _, hWi⟩) ?_
  rintro e a' w' ⟨fs', h', hq, hds', ρ', hF', hS', hTr', hW'⟩
  refine ⟨fs', h', hq, ds, hnd, hds', ρ', hF', hS', hTr.trans hTr', hW', fun D hDm => ?_⟩
  obtain ⟨q1, q2, q3⟩ := hD D hDm
  refine ⟨q1, (hTr'.frame D (lt_of_heap q2) q3).trans q2, fun m cb hm => ?_⟩
  rcases hTr'.own m cb hm with ⟨m', cb', hm', e⟩ | hge
  · rw [← e]; exact q3 m' cb' hm'
  · have := lt_of_heap q2; omega

theorem AWR.pre {c : Code} (h1 : AW P h.ow.length h.ro.length n c Q fs h) (h0 : ∀ (ρ0 : Rho) (w0 : World) a w, HoldsR ρ0 w0 n fs h a w → a.defers = []) : AWR P no nr n c Q fs h := fun ρ0 w0 _ a w hh => by
  have ha := h0 _ _ _ _ hh
  obtain ⟨ds, hnd, hds, ρ, hF, hS, hTr, hWi, hD⟩ := hh
  have hb : bareA a = a := by cases a; simp only at ha; subst ha; rfl
  rw [hb] at hF
  refine wpIn_wide.2 (wp_mono (h1 ρ w hWi a w ⟨ρ, hF, hS, Tr.refl _ _, hWi⟩) ?_)
  rintro e a' w' ⟨fs', h', hq, ρ', hF', hS', hTr', hW'⟩
  exact ⟨fs', h', hq, [], by simp, hF'.1, ρ', ⟨rfl, hF'.2.1, hF'.2.2⟩, hS', hTr.trans hTr', hW', fun D hDm => by simp at hDm⟩

theorem SR.alloc_other {ρ : Rho} {g : Gh} {w : World} (h : SR ρ g w) (o : Obj) : SR ρ g (w.alloc o) := by
  refine ⟨fun b l hb hz => ?_, h.sep, fun n cb hb => by have := h.bound n cb hb; simp; omega, fun hb => h.has hb⟩
  obtain ⟨cb, cs, ty, fz, h1, h2, h3⟩ := h.cells b l hb hz
  exact ⟨cb, cs, ty, fz, h1, by rw [heap_alloc_lt _ _ _ (lt_of_heap h2)]; exact h2, h3⟩
theorem Tr.alloc_other {ρ0 ρ : Rho} {w0 w : World} (t : Tr ρ0 ρ w0 w) (o : Obj) : Tr ρ0 ρ w0 (w.alloc o) :=
  ⟨t.ext, t.own, t.ro, t.os, t.tape, t.output, by have := t.size; simp; omega, fun j hj hn => (heap_alloc_lt _ _ _ (Nat.lt_of_lt_of_le hj t.size)).trans (t.frame j hj hn)⟩

/-- the range: the iterator's body, with yield for its first argument -/
theorem AWR.range {g : Operand} {ps : Array Tmp} {assign body : Code} {gf : FuncId} {cap : List AV} {fn : Func} {c : Code} {N : Nat} {K : H → Prop} (hg : evO fs g = some (.func gf [] cap)) (hf : P.funcs[gf]? = some fn) (hb : fn.body = some c) (hnm : (fn.name != "runtime.NumGoroutine") = true)
    (hN : fn.ntmps = N) (hres : fn.results.toList = []) (hle : Nat.ble (cap.length + 1) N = true)
    (hit : ∀ R : Rg, R.OK → R.rcd.params = ps → R.rcd.assign = assign → R.rcd.body = body → R.rcd.tmps.size = n → AWL R P h.ow.length h.ro.length N fs c (fun e _ h' => (e = .normal ∨ e = .ret) ∧ K h') (num 0 (.yl R.l :: cap)) h)
    (hk : ∀ h', K h' → Q .normal fs h') : AWR P no nr n (.rangeFunc g ps assign body) Q fs h := fun ρ0 w0 _ a w ⟨ds, hnd, hds, ρ, hF, hS, hTr, hWi, hD⟩ => by
  refine wpIn_rangeFunc fun fnid _ => ?_
  obtain ⟨rec, hrec⟩ : ∃ rec : Loop, rec = { state := .ready, pending := none, fn := fnid, tmps := a.tmps, params := ps, assign, body, defers := w.heap.size } := ⟨_, rfl⟩
  obtain ⟨W1, hW1⟩ : ∃ W1, (w.alloc (.deferred (some []))).alloc (.loop rec) = W1 := ⟨_, rfl⟩
  have hsz1 : W1.heap.size = w.heap.size + 1 + 1 := by rw [← hW1]; simp
  have hL1 : W1.heap[w.heap.size + 1]? = some (.loop rec) := by
    rw [← hW1]; have := World.alloc_heap_new (w.alloc (.deferred (some []))) (.loop rec); rwa [World.size_alloc] at this
  have hK1 : W1.heap[w.heap.size]? = some (.deferred (some [])) := by
    rw [← hW1]; exact (heap_alloc_lt _ _ _ (by simp)).trans (World.alloc_heap_new w _)
  have hold : ∀ i, i < w.heap.size → W1.heap[i]? = w.heap[i]? := fun i hi => by
    rw [← hW1]; exact (heap_alloc_lt _ _ _ (by simp; omega)).trans (heap_alloc_lt _ _ _ hi)
  have hcall : callable P gf = true := by simp only [callable, hf, hnm, hb, Option.isSome_some, Bool.and_self]
  have hvg : ∃ y', a.eval g = .func (.func gf) #[] (List.toArray y') ∧ VRs ρ cap y' := by
    have := hF.ev g
    rw [evO_eq hg, bareA_eval] at this
    simp only [VR, VRs] at this
    obtain ⟨x', y', h1, rfl, h2⟩ := this
    exact ⟨y', h1, h2⟩
  obtain ⟨y', hge, hcap⟩ := hvg
  have hS1 : SR ρ h.get W1 := by rw [← hW1]; exact (hS.alloc_other _).alloc_other _
  have hT1 : Tr ρ0 ρ w0 W1 := by rw [← hW1]; exact (hTr.alloc_other _).alloc_other _
  refine ⟨w.heap.size + 1, [markD w.heap.size], W1, { target := .fn (.func gf) (List.toArray y'), args := #[.func (.yield (w.heap.size + 1)) #[] #[]] }, W1, gf,
    #[.func (.yield (w.heap.size + 1)) #[] #[]] ++ List.toArray y', W1, ?_, ?_, fun _ _ => trivial, ?_, fun hh => (by cases hh), ?_⟩
  · rw [← hW1, hrec]; exact run_enterLoop_outer _ _ _ _ _
  · simp only [resolve, hge]
    simp [go_sem]
  · simp only [invoke]
    exact run_callFunc hcall _ _
  · obtain ⟨R, hRl, hRD, hRr⟩ : ∃ R : Rg, R.l = w.heap.size + 1 ∧ R.D = w.heap.size ∧ R.rcd = rec := ⟨⟨_, _, _⟩, rfl, rfl, rfl⟩
    have hR : R.OK := ⟨by rw [hRr, hrec], by rw [hRr, hrec], by omega⟩
    have hw0 := hTr.size
    have hKept : Kept R ρ W1 := ⟨by rw [hRl, hRr]; exact hL1, by rw [hRD]; exact hK1, fun m cb hm => by have := hS.bound m cb hm; omega⟩
    have haw := hit R hR (by rw [hRr, hrec]) (by rw [hRr, hrec]) (by rw [hRr, hrec]) (by rw [hRr, hrec]; exact hF.2.1)
    refine callsIn_of_wp hf hb trivial (wpIn_wide.2 (wp_mono (haw ρ w hWi (by omega) (by omega) _ W1 ⟨ρ, ⟨rfl, ?_, fun t => ?_⟩, fun t => ?_, hS1, ?_, hWi, hKept⟩) ?_)) rfl
    · have hle' := Nat.le_of_ble_eq_true hle
      have := hcap.length
      simp [hN, this]; omega
    · have hargs : VRs ρ (.yl R.l :: cap) (.func (.yield (w.heap.size + 1)) #[] #[] :: y') := VRs.cons (by simp [VR, hRl]) hcap
      simp only [Fs.fr, look_num, Nat.zero_le, if_true, Nat.sub_zero]
      cases ha : (AV.yl R.l :: cap)[t]? with
      | none => simp [VR]
      | some v =>
        obtain ⟨cv, h1, h2⟩ := hargs.get t v ha
        have hlt : t < (Value.func (.yield (w.heap.size + 1)) #[] #[] :: y').length := (List.getElem?_eq_some_iff.mp h1).1
        have e : (#[.func (.yield (w.heap.size + 1)) #[] #[]] ++ List.toArray y' : Array Value) = List.toArray (Value.func (.yield (w.heap.size + 1)) #[] #[] :: y') := by simp
        rw [e]
        have : ((Value.func (.yield (w.heap.size + 1)) #[] #[] :: y').toArray ++ Array.replicate (fn.ntmps - (Value.func (.yield (w.heap.size + 1)) #[] #[] :: y').toArray.size) undef).getD t undef = cv := by
          have h3 : ((Value.func (.yield (w.heap.size + 1)) #[] #[] :: y').toArray ++ Array.replicate (fn.ntmps - (Value.func (.yield (w.heap.size + 1)) #[] #[] :: y').toArray.size) undef)[t]? = some cv := by
            rw [Array.getElem?_append_left (by simpa using hlt)]; simpa using h1
          simp only [Array.getD_eq_getD_getElem?, h3, Option.getD_some]
        rw [this]; exact h2
    · rw [hRr, hrec]; exact hF.2.2 t
    · exact ⟨Rho.le_refl _, fun m cb hm => .inl ⟨m, cb, hm, rfl⟩, fun _ _ hm => .inl hm, by rw [← hW1]; rfl, by rw [← hW1]; rfl, by rw [← hW1]; rfl, by omega, fun i hi _ => hold i hi⟩
    · rintro e a' w' ⟨fs', h', ⟨he, hk'⟩, ρ', hF', hG', hS', hTr', hW', hKp'⟩
      have hpost : bodyPost P fn (rangePost (Wd none) 0 P (w.heap.size + 1) (fun e a' w' => ∃ fs' h', Q e fs' h' ∧ HoldsR ρ0 w0 n fs' h' a' w') { a with defers := [markD w.heap.size] ++ a.defers }) .ret a' w' := by
        obtain ⟨cv, q1, q2⟩ := run_results (vs := []) hF' hS' (by rw [hres]; rfl)
        have hend := run_endLoop (P := P) hKp'.lp (by rw [hR.ready]; simp)
        rw [hR.none, hRl] at hend
        refine ⟨hF'.1, cv, q1, none, _, hend, ?_⟩
        · have hlr : w'.heap[w.heap.size + 1]? = some (.loop R.rcd) := by rw [← hRl]; exact hKp'.lp
          refine ⟨fs, h', hk h' hk', w.heap.size :: ds, ?_, by simp [hds], ρ', ⟨rfl, hF.2.1, fun t => ?_⟩, hS'.putObj hlr (fun _ _ _ h => by cases h), (hTr.trans hTr').putObj (by omega), hW', fun D hDm => ?_⟩
          · refine List.nodup_cons.2 ⟨fun hm => ?_, hnd⟩
            have := lt_of_heap (hD _ hm).2.1
            omega
          · have := hG' t
            rw [hRr, hrec] at this
            exact this
          · rcases List.mem_cons.1 hDm with rfl | hDm
            · exact ⟨by omega, (World.putObj_heap_other (by omega)).trans (by rw [← hRD]; exact hKp'.df), fun m cb hm => by rw [← hRD]; exact (hKp'.own m cb hm).2⟩
            · obtain ⟨p1, p2, p3⟩ := hD D hDm
              have hlt := lt_of_heap p2
              refine ⟨p1, (World.putObj_heap_other (by omega)).trans ((hTr'.frame D hlt p3).trans p2), fun m cb hm => ?_⟩
              rcases hTr'.own m cb hm with ⟨m', cb', hm', e⟩ | hge
              · rw [← e]; exact p3 m' cb' hm'
              · omega
      rcases he with rfl | rfl <;> exact hpost
end

/-- what is to be done on the way out -/
theorem leaves_marks {P : Program} {fn : Func} {tmps : Array Value} {Rr : Ending → World → Prop} (ρ : Rho) (g : Gh) (ρ0 : Rho) (w0 : World) : ∀ (ds : List Nat) (w : World), ds.Nodup → SR ρ g w → Tr ρ0 ρ w0 w →
    (∀ D ∈ ds, w0.heap.size ≤ D ∧ w.heap[D]? = some (.deferred (some []))) → (∀ w', SR ρ g w' → Tr ρ0 ρ w0 w' → ∃ v, (results fn tmps).run P w' = .ok v w' ∧ Rr (.returned v) w') → LeavesInM (Wd none) 0 P fn tmps Rr (ds.map markD) .returning w
  | [], w, _, hS, hT, _, h => h w hS hT
  | D :: ds, w, hnd, hS, hT, hD, h => by
    obtain ⟨q1, q2⟩ := hD D (by simp)
    refine ⟨by simp, .inl ⟨D, _, rfl, run_takeDeferred q2, leaves_marks ρ g ρ0 w0 ds _ (List.nodup_cons.1 hnd).2 (hS.putObj q2 (fun _ _ _ h => by cases h)) (hT.putObj q1) (fun D' hm => ?_) h⟩⟩
    obtain ⟨p1, p2⟩ := hD D' (by simp [hm])
    have hne : D' ≠ D := fun e => (List.nodup_cons.1 hnd).1 (by rw [← e]; exact hm)
    exact ⟨p1, (World.putObj_heap_other hne).trans p2⟩

/-- a function's contract, by its body, where it ranges -/
theorem SoundC.ofR {P : Program} {k : FuncId} {fn : Func} {c : Code} {args : List AV} {h : H} {r : Res} {N : Nat} (hf : P.funcs[k]? = some fn) (hb : fn.body = some c) (hn : (fn.name != "runtime.NumGoroutine") = Bool.true) (hN : fn.ntmps = N) (hle : Nat.ble args.length N = Bool.true)
    (haw : AWR P h.ow.length h.ro.length N c (FinQ P h.ow.length h.ro.length fn.results.toList r.val (h.app (r.eff h))) (num 0 args) h) : SoundC P k args h r := by
  refine ⟨by simp only [callable, hf, hn, hb, Option.isSome_some, Bool.and_self], fun ρ w cargs hargs hS hW => ?_⟩
  have hlen := hargs.length
  have hle' := Nat.le_of_ble_eq_true hle
  refine callsIn_wide.1 (callsIn_of_wp_marks (n := 0) hf hb trivial (wpIn_mono (haw ρ w hW _ w ⟨[], by simp, rfl, ρ, ⟨rfl, ?_, fun t => ?_⟩, hS, Tr.refl _ _, hW, fun D hD => by simp at hD⟩) ?_))
  · simp [bareA, hlen, hN]; omega
  · simp only [Fs.fr, look_num, Nat.zero_le, if_true, Nat.sub_zero]
    cases ha : args[t]? with
    | none => simp [VR]
    | some v =>
      obtain ⟨cv, h1, h2⟩ := hargs.get t v ha
      have hlt : t < cargs.length := (List.getElem?_eq_some_iff.mp h1).1
      have : (cargs.toArray ++ Array.replicate (fn.ntmps - cargs.toArray.size) undef).getD t undef = cv := by
        have h3 : (cargs.toArray ++ Array.replicate (fn.ntmps - cargs.toArray.size) undef)[t]? = some cv := by
          rw [Array.getElem?_append_left (by simpa using hlt)]; simpa using h1
        simp only [Array.getD_eq_getD_getElem?, h3, Option.getD_some]
      simp only [bareA]
      rw [this]; exact h2
  · rintro e a' w' ⟨fs', h', ⟨he, vs, so, sr, h1, h2, h3, h4, h5⟩, ds, hnd, hds, ρ', hF, hS', hTr, hW', hD⟩
    have hpost : bodyPostM (Wd none) 0 P fn (PostC ρ w ((r.eff h).app h.get) r.val (h.ow.length + r.newo.length) (h.ro.length + r.newr.length)) .ret a' w' := by
      show LeavesInM _ _ _ _ _ _ _ _ _
      rw [hds]
      refine leaves_marks ρ' h'.get ρ w ds w' hnd hS' hTr (fun D hm => ⟨(hD D hm).1, (hD D hm).2.1⟩) fun w2 hS2 hT2 => ?_
      obtain ⟨cv, k1, k2⟩ := run_results hF hS2 h1
      obtain ⟨q1, q2, q3⟩ := renamed hW hS2 hT2 h2 h3 h4
      refine ⟨cv, k1, cv, _, rfl, VR.rn _ _ _ h5 k2, ?_, q2, ?_⟩
      · rw [← H.app_get (Res.follows r h)]; exact q1
      · have e1 : (h.app (r.eff h)).ow.length = h.ow.length + r.newo.length := by simp [H.app, appO_length, Res.eff, num_length]
        have e2 : (h.app (r.eff h)).ro.length = h.ro.length + r.newr.length := by simp [H.app, Res.eff, num_length]
        rw [← e1, ← e2]; exact q3
    rcases he with rfl | rfl <;> exact hpost
end Go.Sym

/- A region that draws its order, in a round's frame, or in a frame that has deferred calls. -/
namespace Go.Sym
open Go

def InRegionD (ds : List Deferred) (ops : Array Oper) (rc : Nat → Rc) (n : Nat) (fr0 : Fr) (h0 : H) (ρ0 : Rho) (w0 : World) (L : Nat → Bool) (a : Act) (w : World) : Prop := a.defers = ds ∧ InRegion ops rc n fr0 h0 ρ0 w0 L (bareA a) w

section
variable {P : Program} {ops : Array Oper} {rc : Nat → Rc} {n : Nat} {fr0 : Fr} {h0 : H} {ρ0 : Rho} {w0 : World}

theorem InRegionD.congr {ds : List Deferred} {L L' : Nat → Bool} (h : ∀ k, k < ops.size → L k = L' k) {a : Act} {w : World} (hin : InRegionD ds ops rc n fr0 h0 ρ0 w0 L a w) : InRegionD ds ops rc n fr0 h0 ρ0 w0 L' a w := ⟨hin.1, hin.2.congr h⟩

theorem oper_stepIn {ro : Option Nat} {m : Nat} {ds : List Deferred} {Q : Exit → Act → World → Prop}
    (hrec : ∀ i o, ops[i]? = some o → RecR P ops (frL ops rc fr0 allL i) (hT rc h0 i) o (rc i).v (rc i).e)
    (hget : ∀ i, i ≤ ops.size → (hT rc h0 i).get = gL rc h0.get allL i)
    (hW : Within ρ0 h0.ow.length h0.ro.length)
    (hnews : ∀ i j b, i < ops.size → j < ops.size → (rc i).e.news b = true → (rc j).e.news b = true → i = j)
    (hnews0 : ∀ i b, i < ops.size → (rc i).e.news b = true → ρ0 b = none)
    (hfin : ∃ N, ∀ i, i < ops.size → ∀ m, N ≤ m → (rc i).e.news (.o m) = false)
    (hedge : edgesOK n ops = true) (hpair : ∀ i j, i < j → j < ops.size → pairOK ops rc i j)
    {L : Nat → Bool} (hcl : ∀ j o, ops[j]? = some o → L j = true → ∀ e ∈ o.after, Region.binds .any e = true → L e.on = true)
    {j : Nat} {o : Oper} (ho : ops[j]? = some o) (hj : L j = false) (hready : ∀ e ∈ o.after, Region.binds .any e = true → L e.on = true)
    {a : Act} {w : World} (hin : InRegionD ds ops rc n fr0 h0 ρ0 w0 L a w)
    {K : Act → World → Prop} (hK : ∀ a' w', InRegionD ds ops rc n fr0 h0 ρ0 w0 (with1 L j) a' w' → K a' w') : wpOpIn (Wd ro) m P ops Q j K a w := by
  obtain ⟨hlt, hdst⟩ := edgesOK_spec hedge
  have hjs : j < ops.size := (Array.getElem?_eq_some_iff.mp ho).1
  have hbef := beforeBit_listed hcl hlt j o ho hready
  -- of each other operation that came, or didn't come, out of the text's order
  have hap : ∀ k ok, ops[k]? = some ok → k ≠ j → (L k = true → j < k) → (L k = false → k < j) → ok.apart ops o = true ∧ apartE (rc k).e (rc j).e = true ∨ o.apart ops ok = true ∧ apartE (rc j).e (rc k).e = true := by
    intro k ok hk hkj h1 h2
    have hks : k < ops.size := (Array.getElem?_eq_some_iff.mp hk).1
    cases hLk : L k with
    | false =>
      have hlt' := h2 hLk
      rcases hpair k j hlt' hjs ok o hk ho with hb | hb
      · have := hbef k hb; rw [hLk] at this; cases this
      · exact .inl hb
    | true =>
      have hlt' := h1 hLk
      rcases hpair j k hlt' hks o ok ho hk with hb | hb
      · have := beforeBit_listed hcl hlt k ok hk (hcl k ok hk hLk) j hb
        rw [hj] at this; cases this
      · exact .inr hb
  have hslots : ∀ k ok, ops[k]? = some ok → k ≠ j → (L k = true → j < k) → (L k = false → k < j) → (∀ t, ok.dst = some t → t ∉ o.looksAt ops) ∧ (∀ t, o.dst = some t → ok.dst ≠ some t) := by
    intro k ok hk hkj h1 h2
    rcases hap k ok hk hkj h1 h2 with ⟨h, _⟩ | ⟨h, _⟩
    · obtain ⟨k1, k2, k3⟩ := Oper.apart_spec h
      exact ⟨k1, fun t ht e => k2 t e ht⟩
    · obtain ⟨k1, k2, k3⟩ := Oper.apart_spec h
      exact ⟨k3, k2⟩
  have heffs : ∀ k ok, ops[k]? = some ok → k ≠ j → (L k = true → j < k) → (L k = false → k < j) → apartE (rc j).e (rc k).e = true := by
    intro k ok hk hkj h1 h2
    rcases hap k ok hk hkj h1 h2 with ⟨_, h⟩ | ⟨_, h⟩
    · exact apartE_symm h
    · exact h
  -- the text's order, as a set
  have hall_fr : frL ops rc fr0 allL j = frL ops rc fr0 (fun k => Nat.blt k j) ops.size := by
    obtain ⟨d, hd⟩ : ∃ d, ops.size = j + d := ⟨ops.size - j, by omega⟩
    rw [hd, frL_stop d fun k h1 h2 => blt_false.2 h1]
    exact frL_congr j fun k hk => (blt_true.2 hk).symm
  have hall_g : gL rc h0.get allL j = gL rc h0.get (fun k => Nat.blt k j) ops.size := by
    obtain ⟨d, hd⟩ : ∃ d, ops.size = j + d := ⟨ops.size - j, by omega⟩
    rw [hd, gL_stop d fun k h1 h2 => blt_false.2 h1]
    exact gL_congr j fun k hk => (blt_true.2 hk).symm
  have hdiff : ∀ k, k < ops.size → Nat.blt k j ≠ L k → k ≠ j ∧ (L k = true → j < k) ∧ (L k = false → k < j) := by
    intro k hk hne
    have hb : Nat.blt k j = true ↔ k < j := blt_true
    refine ⟨fun e => ?_, fun hl => ?_, fun hl => ?_⟩
    · subst e
      apply hne
      rw [hj]
      cases hh : Nat.blt k k with
      | false => rfl
      | true => rw [hh] at hb; have := hb.1 rfl; omega
    · rw [hl] at hne
      have h1 : ¬ k < j := fun h => hne (hb.2 h)
      have h2 : k ≠ j := fun e => by subst e; rw [hj] at hl; cases hl
      omega
    · rw [hl] at hne
      have : Nat.blt k j = true := by
        cases hh : Nat.blt k j with
        | true => rfl
        | false => exact absurd hh hne
      exact hb.1 this
  have hfr : ∀ t ∈ o.looksAt ops, frL ops rc fr0 allL j t = frL ops rc fr0 L ops.size t := by
    intro t ht
    rw [hall_fr]
    refine frL_slot _ fun k hk hne hd => ?_
    obtain ⟨h1, h2, h3⟩ := hdiff k hk hne
    have hok : ops[k]? = some ops[k] := by simp [hk]
    simp only [dstOf, hok, Option.bind_some] at hd
    exact (hslots k _ hok h1 h2 h3).1 t hd ht
  have hsm : ∀ b off m, (∀ k, k < ops.size → Nat.blt k j ≠ L k → (rc k).e.hit b off m = false) → Sm b off m (hT rc h0 j).get (gL rc h0.get L ops.size) := by
    intro b off m h
    rw [hget j (by omega), hall_g]
    exact gL_Sm _ h
  have hagree : Agree (rc j).e (hT rc h0 j).get (gL rc h0.get L ops.size) := by
    refine ⟨fun b off m hm => hsm b off m fun k hk hne => ?_, fun m off cs hm l hl => ?_⟩
    · obtain ⟨h1, h2, h3⟩ := hdiff k hk hne
      have := heffs k _ (by simp [hk] : ops[k]? = some ops[k]) h1 h2 h3
      simp only [apartE, Bool.and_eq_true, List.all_eq_true, Bool.not_eq_true'] at this
      exact this.1.1.1.1.1.1.1 _ hm
    · obtain ⟨l2, k1, k2, _⟩ := hsm (.o m) off cs.length (fun k hk hne => by
        obtain ⟨h1, h2, h3⟩ := hdiff k hk hne
        have := heffs k _ (by simp [hk] : ops[k]? = some ops[k]) h1 h2 h3
        simp only [apartE, Bool.and_eq_true, List.all_eq_true, Bool.not_eq_true'] at this
        exact this.1.1.1.1.1.2 _ hm) l hl
      exact ⟨l2, k1, k2⟩
  obtain ⟨ρ, hF, hS, hTr, hdom⟩ := hin.2.state
  have hfree : ∀ b, (rc j).e.news b = true → ρ b = none := by
    intro b hb
    cases hρ : ρ b with
    | none => rfl
    | some c =>
      rcases hdom b (by rw [hρ]; simp) with ⟨i, hi, hLi, hni⟩ | h
      · have := hnews i j b hi hjs hni hb
        subst this; rw [hj] at hLi; cases hLi
      · exact absurd (hnews0 j b hjs hb) h
  have hfresh : ∃ m, ρ (.o m) = none := by
    obtain ⟨N, hN⟩ := hfin
    refine ⟨max N h0.ow.length, ?_⟩
    cases hρ : ρ (.o (max N h0.ow.length)) with
    | none => rfl
    | some c =>
      rcases hdom _ (by rw [hρ]; simp) with ⟨i, hi, _, hni⟩ | h
      · rw [hN i hi _ (Nat.le_max_left _ _)] at hni; cases hni
      · exact absurd (hW.1 _ (Nat.le_max_right _ _)) h
  have hd : ops.size = j + 1 + (ops.size - (j + 1)) := by omega
  have hins_fr : frL ops rc fr0 (with1 L j) ops.size = (frL ops rc fr0 L ops.size).put o.dst (rc j).v := by
    have := frL_ins (ops := ops) (rc := rc) (fr0 := fr0) hj (ops.size - (j + 1)) fun k h1 h2 hLk t ht => by
      have hk : k < ops.size := by omega
      have hok : ops[k]? = some ops[k] := by simp [hk]
      simp only [dstOf, ho, Option.bind_some] at ht
      simp only [dstOf, hok, Option.bind_some]
      exact (hslots k _ hok (by omega) (fun _ => h1) (fun h => by rw [hLk] at h; cases h)).2 t ht
    rw [← hd] at this
    rw [this]
    simp only [dstOf, ho, Option.bind_some]
  have hins_g : gL rc h0.get (with1 L j) ops.size = (rc j).e.app (gL rc h0.get L ops.size) := by
    have := gL_ins (rc := rc) (g0 := h0.get) hj (ops.size - (j + 1)) fun k h1 h2 hLk => by
      have hk : k < ops.size := by omega
      exact heffs k _ (by simp [hk] : ops[k]? = some ops[k]) (by omega) (fun _ => h1) (fun h => by rw [hLk] at h; cases h)
    rw [← hd] at this
    exact this
  have hdom' : ∀ ρ' : Rho, (∀ b, ρ b = none → (rc j).e.news b = false → ρ' b = none) → ∀ b, ρ' b ≠ none → (∃ i, i < ops.size ∧ with1 L j i = true ∧ (rc i).e.news b = true) ∨ ρ0 b ≠ none := by
    intro ρ' h b hb
    cases hnb : (rc j).e.news b with
    | true => exact .inl ⟨j, hjs, with1_self, hnb⟩
    | false =>
      have : ρ b ≠ none := fun e => hb (h b e hnb)
      rcases hdom b this with ⟨i, hi, hLi, hni⟩ | h
      · refine .inl ⟨i, hi, ?_, hni⟩
        simp only [with1, hLi, Bool.or_true]
      · exact .inr h
  unfold wpOpIn
  simp only [ho]
  rcases hrec j o ho with ⟨hw, hop⟩ | ⟨hw, hv, he⟩
  · rw [looks_want hfr] at hw
    rw [wantA_bare hF hw, if_pos rfl]
    refine OpR.wpIn ((hop.congr (looks_ev hfr)).local hagree) hF hS hfree hfresh (hdst j o ho) fun cv w' ρ' h1 h2 h3 h4 => hK _ _ ⟨by rw [put_defers]; exact hin.1, ⟨ρ', ?_, ?_, hTr.trans h3, hdom' ρ' h4⟩⟩
    · rw [hins_fr, bareA_put]; exact h1
    · rw [hins_g]; exact h2
  · rw [looks_want hfr] at hw
    rw [wantA_bare hF hw]
    simp only [Bool.false_eq_true, if_false]
    refine ⟨fun _ _ => trivial, hK _ _ ⟨by rw [put_defers]; exact hin.1, ⟨ρ, ?_, ?_, hTr, hdom' ρ fun b hb _ => hb⟩⟩⟩
    · rw [hins_fr, hv, bareA_put]; exact hF.put (hdst j o ho) (by simp only [VR]; exact ⟨[], rfl, VRs.nil⟩)
    · rw [hins_g, he, Eff.app_rd _ _ rfl rfl rfl rfl]; exact hS

end
section
variable {P : Program} {ops : Array Oper} {rc : Nat → Rc} {n : Nat} {fr0 : Fr} {h0 : H} {ρ0 : Rho} {w0 : World} {Q : Exit → Act → World → Prop}
theorem region_anyIn {ro : Option Nat} {m : Nat} {ds : List Deferred}
    (hrec : ∀ i o, ops[i]? = some o → RecR P ops (frL ops rc fr0 allL i) (hT rc h0 i) o (rc i).v (rc i).e)
    (hget : ∀ i, i ≤ ops.size → (hT rc h0 i).get = gL rc h0.get allL i)
    (hW : Within ρ0 h0.ow.length h0.ro.length)
    (hnews : ∀ i j b, i < ops.size → j < ops.size → (rc i).e.news b = true → (rc j).e.news b = true → i = j)
    (hnews0 : ∀ i b, i < ops.size → (rc i).e.news b = true → ρ0 b = none)
    (hfin : ∃ N, ∀ i, i < ops.size → ∀ m, N ≤ m → (rc i).e.news (.o m) = false)
    (hedge : edgesOK n ops = true) (hpair : ∀ i j, i < j → j < ops.size → pairOK ops rc i j)
    (hQ : ∀ a w, InRegionD ds ops rc n fr0 h0 ρ0 w0 allL a w → Q .normal a w) :
    ∀ (fuel : Nat) (listed : Array Bool) (L : Nat → Bool) (a : Act) (w : World), listed.size = ops.size → (∀ k, k < ops.size → listed[k]? = some (L k)) →
      (∀ j o, ops[j]? = some o → L j = true → ∀ e ∈ o.after, Region.binds .any e = true → L e.on = true) → unl L ops.size = fuel → InRegionD ds ops rc n fr0 h0 ρ0 w0 L a w → wpAnyIn (Wd ro) m P .any ops Q fuel listed a w := by
  obtain ⟨hlt, _⟩ := edgesOK_spec hedge
  have hready : ∀ (listed : Array Bool) (L : Nat → Bool), (∀ k, k < ops.size → listed[k]? = some (L k)) → ∀ j, j ∈ Region.ready .any ops listed ↔ j < ops.size ∧ L j = false ∧ ∃ o, ops[j]? = some o ∧ ∀ e ∈ o.after, Region.binds .any e = true → L e.on = true := by
    intro listed L hl j
    rw [mem_ready]
    constructor
    · rintro ⟨h1, o, ho, h2⟩
      have hj := (Array.getElem?_eq_some_iff.mp ho).1
      refine ⟨hj, ?_, o, ho, fun e he hb => ?_⟩
      · have := hl j hj; simp [this] at h1; exact h1
      · have hej : e.on < ops.size := Nat.lt_trans (hlt j o ho e he hb) hj
        have := hl _ hej
        have h3 := h2 e he hb
        simp [this] at h3; exact h3
    · rintro ⟨hj, h1, o, ho, h2⟩
      refine ⟨by simp [hl j hj, h1], o, ho, fun e he hb => ?_⟩
      have hej : e.on < ops.size := Nat.lt_trans (hlt j o ho e he hb) hj
      simp [hl _ hej, h2 e he hb]
  intro fuel
  induction fuel with
  | zero =>
    intro listed L a w hsz hl hcl hu hin
    have hall := unl_zero hu
    refine ⟨?_, hQ a w (hin.congr fun k hk => hall k hk)⟩
    rw [List.eq_nil_iff_forall_not_mem]
    intro j hj
    obtain ⟨h1, h2, _⟩ := (hready listed L hl j).1 hj
    rw [hall j h1] at h2; cases h2
  | succ fuel ih =>
    intro listed L a w hsz hl hcl hu hin
    refine ⟨fun hnil => ?_, fun j hj => ?_⟩
    · rcases first_unlisted L ops.size with h | ⟨j, h1, h2, h3⟩
      · have : unl L ops.size = unl (fun _ => true) ops.size := unl_congr h
        have h0 : ∀ i, unl (fun _ => true) i = 0 := fun i => by
          induction i with
          | zero => rfl
          | succ i ih => simp [unl, ih]
        rw [this, h0] at hu; omega
      · have : j ∈ Region.ready .any ops listed := (hready listed L hl j).2 ⟨h1, h2, ops[j], by simp [h1], fun e he hb => h3 _ (hlt j _ (by simp [h1]) e he hb)⟩
        rw [hnil] at this; cases this
    · obtain ⟨h1, h2, o, ho, h3⟩ := (hready listed L hl j).1 hj
      refine oper_stepIn hrec hget hW hnews hnews0 hfin hedge hpair hcl ho h2 h3 hin fun a' w' hin' => ?_
      refine ih _ (with1 L j) a' w' (by simpa using hsz) (fun k hk => ?_) (fun i oi hi hL e he hb => ?_) ?_ hin'
      · by_cases e : k = j
        · subst e
          rw [with1_self, Array.getElem?_setIfInBounds_self_of_lt (by omega)]
        · rw [with1_lt e, Array.getElem?_setIfInBounds_ne (fun e' => e e'.symm)]
          exact hl k hk
      · by_cases e' : i = j
        · subst e'
          rw [ho] at hi; cases hi
          by_cases e2 : e.on = i
          · rw [e2]; exact with1_self
          · rw [with1_lt e2]; exact h3 e he hb
        · rw [with1_lt e'] at hL
          by_cases e2 : e.on = j
          · rw [e2]; exact with1_self
          · rw [with1_lt e2]; exact hcl i oi hi hL e he hb
      · have := unl_with1 h2 h1
        omega

theorem region_drawsIn {ro : Option Nat} {m : Nat} {ds : List Deferred} {fr : Fr} {h : H} {K : Fr → H → Prop} (hedge : edgesOK n ops = true) (hr : RunW P ops ops.toList [] fr h fun rs fr h => pairsOK ops rs = true ∧ K fr h)
    (hQ : ∀ fr h a w, K fr h → HoldsD ds ρ0 w0 n fr h a w → Q .normal a w) {a : Act} {w : World} (hh : HoldsD ds ρ0 w0 n fr h a w) : wpAnyIn (Wd ro) m P .any ops Q ops.size (Array.replicate ops.size false) a w := by
  obtain ⟨rs, hl, hrec, hpair, hK⟩ := RunW.recs (fr0 := fr) (h0 := h) ops.toList 0 [] fr h rfl (Nat.zero_le _) rfl (fun k o hk => by omega) rfl rfl hr
  obtain ⟨hds, ρ, hF, hS, hTr, hW⟩ := hh
  have hfol : ∀ i, i < ops.size → Follows (rcL rs i).e (hT (rcL rs) h i).ow.length (hT (rcL rs) h i).ro.length := fun i hi => (hrec i ops[i] (by simp [hi])).follows
  have hget : ∀ i, i ≤ ops.size → (hT (rcL rs) h i).get = gL (rcL rs) h.get allL i := by
    intro i
    induction i with
    | zero => intro _; rfl
    | succ i ih =>
      intro hi
      simp only [hT, gL, if_true]
      rw [H.app_get (hfol i (by omega)), ih (by omega)]
  have hin : ∀ i b, i < ops.size → (rcL rs i).e.news b = true → match b with
      | .o m => (hT (rcL rs) h i).ow.length ≤ m ∧ m < (hT (rcL rs) h (i + 1)).ow.length
      | .r m => (hT (rcL rs) h i).ro.length ≤ m ∧ m < (hT (rcL rs) h (i + 1)).ro.length := by
    intro i b hi hb
    have h1 := (hfol i hi).news hb
    have h2 := hT_len (rc := rcL rs) (h0 := h) i
    cases b with
    | o m => simp only at h1 ⊢; omega
    | r m => simp only at h1 ⊢; omega
  have hnews : ∀ i j b, i < ops.size → j < ops.size → i < j → (rcL rs i).e.news b = true → (rcL rs j).e.news b = true → False := by
    intro i j b hi hj hij h1 h2
    obtain ⟨d, rfl⟩ : ∃ d, j = i + 1 + d := ⟨j - (i + 1), by omega⟩
    have h3 := hin i b hi h1
    have h4 := hin _ b hj h2
    have h5 := hT_mono (rc := rcL rs) (h0 := h) (i := i + 1) d
    cases b with
    | o m => simp only at h3 h4; omega
    | r m => simp only at h3 h4; omega
  refine region_anyIn (ds := ds) (rc := rcL rs) (fr0 := fr) (h0 := h) (ρ0 := ρ) (w0 := w) hrec hget hW ?_ ?_ ?_ hedge (pairsOK_spec hpair) ?_ ops.size _ (fun _ => false) a w (by simp) (fun k hk => by simp [hk]) (fun j o _ h => by cases h) (unl_none _) ?_
  · intro i j b hi hj h1 h2
    rcases Nat.lt_trichotomy i j with h3 | h3 | h3
    · exact (hnews i j b hi hj h3 h1 h2).elim
    · exact h3
    · exact (hnews j i b hj hi h3 h2 h1).elim
  · intro i b hi hb
    have h1 := hin i b hi hb
    have h2 := hT_mono (rc := rcL rs) (h0 := h) (i := 0) i
    simp only [Nat.zero_add] at h2
    cases b with
    | o m => exact hW.1 m (Nat.le_trans h2.1 h1.1)
    | r m => exact hW.2 m (Nat.le_trans h2.2 h1.1)
  · refine ⟨(hT (rcL rs) h ops.size).ow.length, fun i hi m hm => ?_⟩
    cases hh : (rcL rs i).e.news (.o m) with
    | false => rfl
    | true =>
      have h1 := hin i _ hi hh
      obtain ⟨d, hd⟩ : ∃ d, ops.size = i + 1 + d := ⟨ops.size - (i + 1), by omega⟩
      have h2 := hT_mono (rc := rcL rs) (h0 := h) (i := i + 1) d
      rw [← hd] at h2
      simp only at h1; omega
  · intro a' w' hin'
    obtain ⟨ρ', h1, h2, h3, h4⟩ := hin'.2.state
    refine hQ _ _ a' w' hK ⟨hin'.1, ρ', h1, by rw [hget _ (Nat.le_refl _)]; exact h2, hTr.trans h3, fun m hm => ?_, fun m hm => ?_⟩
    · cases hρ : ρ' (.o m) with
      | none => rfl
      | some c =>
        rcases h4 (.o m) (by rw [hρ]; simp) with ⟨i, hi, _, hn⟩ | h5
        · have h6 := hin i _ hi hn
          obtain ⟨d, hd⟩ : ∃ d, ops.size = i + 1 + d := ⟨ops.size - (i + 1), by omega⟩
          have h7 := hT_mono (rc := rcL rs) (h0 := h) (i := i + 1) d
          rw [← hd] at h7
          simp only at h6; omega
        · have h7 := hT_mono (rc := rcL rs) (h0 := h) (i := 0) ops.size
          simp only [Nat.zero_add] at h7
          exact absurd (hW.1 m (Nat.le_trans h7.1 hm)) h5
    · cases hρ : ρ' (.r m) with
      | none => rfl
      | some c =>
        rcases h4 (.r m) (by rw [hρ]; simp) with ⟨i, hi, _, hn⟩ | h5
        · have h6 := hin i _ hi hn
          obtain ⟨d, hd⟩ : ∃ d, ops.size = i + 1 + d := ⟨ops.size - (i + 1), by omega⟩
          have h7 := hT_mono (rc := rcL rs) (h0 := h) (i := i + 1) d
          rw [← hd] at h7
          simp only at h6; omega
        · have h7 := hT_mono (rc := rcL rs) (h0 := h) (i := 0) ops.size
          simp only [Nat.zero_add] at h7
          exact absurd (hW.2 m (Nat.le_trans h7.2 hm)) h5
  · have hz : ∀ i, frL ops (rcL rs) fr (fun _ => false) i = fr := fun i => by
      induction i with
      | zero => rfl
      | succ i ih => simp [frL, ih]
    have hg : ∀ i, gL (rcL rs) h.get (fun _ => false) i = h.get := fun i => by
      induction i with
      | zero => rfl
      | succ i ih => simp [gL, ih]
    exact ⟨hds, ρ, by rw [hz]; exact hF, by rw [hg]; exact hS, Tr.refl _ _, fun b hb => .inr hb⟩

end

theorem AWI.draws {ro : Option Nat} {P : Program} {no nr n : Nat} {Q : APost} {fs : Fs} {h : H} {id : Nat} {os : List Oper} (hm : P.follows .mixedOrders = true) (hedge : edgesOK n os.toArray = true) (hr : RunV P os.toArray os [] fs h fun rs fs h => pairsOK os.toArray rs = true ∧ Q .normal fs h) :
    AWI ro P no nr n (.region id os.toArray true) Q fs h := fun m ds ρ0 w0 _ a w hh => by
  refine wpIn_region_any hm ?_
  refine region_drawsIn (ρ0 := ρ0) (w0 := w0) (ds := ds) (K := fun fr h => ∃ fs, Fs.fr fs = fr ∧ Q .normal fs h) hedge (RunV.runW _ _ _ _ (by simpa using hr)) (fun fr h a w ⟨fs', e, hk⟩ hh => ⟨fs', h, hk, by rw [e]; exact hh⟩) ?_
  obtain ⟨hds, ρ, h1, h2, h3, h4⟩ := hh
  exact ⟨hds, ρ, h1, SR.drew h2, h3.trans (Tr.drew _ _), h4⟩
end Go.Sym

/- Steps of an iterator's region, and of a round. -/
namespace Go.Sym
open Go

section
variable {R : Rg} {P : Program} {ops : Array Oper} {os : List Oper} {go fs : Fs} {h : H} {v : AV} {e : Eff} {d : Tmp} {op : Op} {ty : TypeId} {pos : String} {aft : Array Edge} {K : Fs → H → Prop}

theorem RunL.q (hop : OpV P fs h op v e) (hq : e.quiet = true) (k : RunL R P ops go os ((d, v) :: fs) h K) : RunL R P ops go (⟨some d, op, ty, pos, aft, none⟩ :: os) fs h K :=
  .inl ⟨v, e, recR_go hop, by rw [Eff.quiet_app hq]; exact k⟩
theorem RunL.qn (hop : OpV P fs h op v e) (hq : e.quiet = true) (k : RunL R P ops go os fs h K) : RunL R P ops go (⟨none, op, ty, pos, aft, none⟩ :: os) fs h K :=
  .inl ⟨v, e, recR_go hop, by rw [Eff.quiet_app hq]; exact k⟩
theorem RunL.w {h2 : H} (hop : OpV P fs h op v e) (hh : h.app e = h2) (k : RunL R P ops go os ((d, v) :: fs) h2 K) : RunL R P ops go (⟨some d, op, ty, pos, aft, none⟩ :: os) fs h K :=
  .inl ⟨v, e, recR_go hop, by rw [hh]; exact k⟩
theorem RunL.wn {h2 : H} (hop : OpV P fs h op v e) (hh : h.app e = h2) (k : RunL R P ops go os fs h2 K) : RunL R P ops go (⟨none, op, ty, pos, aft, none⟩ :: os) fs h K :=
  .inl ⟨v, e, recR_go hop, by rw [hh]; exact k⟩
theorem RunL.y {c : Call} {f : Operand} {xs : List AV} (hc : c.callee = .value f) (hf : evO fs f = some (.yl R.l)) (hx : evs fs c.args.toList = some xs)
    (hr : RoundOK R P go xs h fun h' => RunL R P ops go os ((d, .bool true) :: fs) h' K) : RunL R P ops go (⟨some d, .call c, ty, pos, aft, none⟩ :: os) fs h K :=
  .inr ⟨c, f, xs, rfl, rfl, hc, hf, hx, hr⟩

theorem RoundOK.of {ps : Array Tmp} {assign body : Code} {N : Nat} {xs : List AV} {K : H → Prop} (h1 : R.rcd.params = ps) (h2 : R.rcd.assign = assign) (h3 : R.rcd.body = body) (h4 : R.rcd.tmps.size = N) (hps : Nat.beq ps.size xs.length = true)
    (hb : ps.toList.all (fun t => Nat.blt t N) = true)
    (haw : AWI (some R.l) P h.ow.length h.ro.length N assign (fun e fs1 h1 => e = .normal ∧ AWI (some R.l) P h1.ow.length h1.ro.length N body (fun e fs2 h2 => e = .normal ∧ K h2) fs1 h1) ((ps.toList.zip xs).reverse ++ go) h) : RoundOK R P go xs h K :=
  ⟨N, h4.symm, by rw [h1]; exact Nat.eq_of_beq_eq_true hps, by rw [h1]; exact hb, by rw [h1, h2, h3]; exact haw⟩
end

/-- a function's contract, by its body: what it leaves is written out -/
theorem SoundC.of2 {P : Program} {k : FuncId} {fn : Func} {c : Code} {args : List AV} {h h2 : H} {r : Res} {N : Nat} (hf : P.funcs[k]? = some fn) (hb : fn.body = some c) (hn : (fn.name != "runtime.NumGoroutine") = Bool.true) (hN : fn.ntmps = N) (hle : Nat.ble args.length N = Bool.true)
    (he : h.app (r.eff h) = h2) (haw : AW P h.ow.length h.ro.length N c (FinQ P h.ow.length h.ro.length fn.results.toList r.val h2) (num 0 args) h) : SoundC P k args h r := by
  subst he; exact SoundC.of hf hb hn hN hle haw

/-! a heap behind an operation, in one step -/
theorem patch_all : ∀ {cs l p : List AV}, l.length = cs.length → patch (p ++ l) p.length cs = p ++ cs
  | [], l, p, h => by
    have : l = [] := List.eq_nil_of_length_eq_zero (by simpa using h)
    subst this; simp [patch]
  | c :: cs, [], p, h => by simp at h
  | c :: cs, a :: l, p, h => by
    simp only [patch]
    have e1 : (p ++ a :: l).set p.length c = (p ++ [c]) ++ l := by simp
    have e2 : p.length + 1 = (p ++ [c]).length := by simp
    rw [e1, e2, patch_all (by simpa using h)]
    simp

theorem appO_id : ∀ (n : Nat) (l : List (Option (List AV))), appO [] [] n l = l
  | _, [] => rfl
  | n, r :: rs => by simp only [appO, appO_id (n + 1) rs]; cases r <;> simp [patchAll]

theorem H.app_new {h : H} {rd : List (BId × Nat × Nat)} {n : List (Nat × List AV)} {m : List (Nat × List AV)} : h.app { rd := rd, newo := n, newr := m } = ⟨h.ro ++ m.map (·.2), h.ow ++ n.map fun x => some x.2⟩ := by
  simp only [H.app, appO_id]

theorem H.app_one {h : H} {m off : Nat} {l : List AV} {v : AV} {rd : List (BId × Nat × Nat)} (hm : h.ow[m]? = some (some l)) : h.app { rd := rd, wr := [(m, off, [v])] } = ⟨h.ro, h.ow.set m (some (l.set off v))⟩ := by
  have hlt := (List.getElem?_eq_some_iff.mp hm).1
  have h1 : h.app { rd := rd, wr := [(m, off, [v])] } = ⟨h.ro, appO [] [(m, off, [v])] 0 h.ow⟩ := by simp [H.app]
  rw [h1]
  congr 1
  refine List.ext_getElem? fun i => ?_
  rw [appO_get, List.getElem?_set]
  by_cases e : m = i
  · subst e
    rw [if_pos rfl, hm, if_pos hlt]
    simp only [Option.map_some, List.contains_nil, Bool.false_eq_true, if_false, Nat.zero_add, patchAll, if_true, patch]
  · rw [if_neg e]
    cases h.ow[i]? with
    | none => rfl
    | some r => cases r <;> simp [patchAll, e]

theorem H.app_all {h : H} {m : Nat} {l cs : List AV} {rd : List (BId × Nat × Nat)} (hm : h.ow[m]? = some (some l)) (hl : Nat.beq l.length cs.length = true) : h.app { rd := rd, wr := [(m, 0, cs)] } = ⟨h.ro, h.ow.set m (some cs)⟩ := by
  have hl := Nat.eq_of_beq_eq_true hl
  have hlt := (List.getElem?_eq_some_iff.mp hm).1
  have h1 : h.app { rd := rd, wr := [(m, 0, cs)] } = ⟨h.ro, appO [] [(m, 0, cs)] 0 h.ow⟩ := by simp [H.app]
  rw [h1]
  congr 1
  refine List.ext_getElem? fun i => ?_
  rw [appO_get, List.getElem?_set]
  by_cases e : m = i
  · subst e
    rw [if_pos rfl, hm, if_pos hlt]
    simp only [Option.map_some, List.contains_nil, Bool.false_eq_true, if_false, Nat.zero_add, patchAll, if_true]
    rw [show patch l 0 cs = cs from by simpa using patch_all (p := []) hl]
  · rw [if_neg e]
    cases h.ow[i]? with
    | none => rfl
    | some r => cases r <;> simp [patchAll, e]
end Go.Sym
