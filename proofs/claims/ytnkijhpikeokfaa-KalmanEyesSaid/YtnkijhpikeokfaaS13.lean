/- A call by its contract is sound wherever it stands. -/
import Derived.Test.YtnkijhpikeokfaaS12
set_option linter.unusedSimpArgs false
set_option linter.unusedVariables false
namespace Go.Sym
open Go

section
variable {P : Program} {O : Oracle} {ρ : Rho} {g : Gh} {w : World}

theorem num_length {α : Type} : ∀ (n : Nat) (l : List α), (num n l).length = l.length
  | _, [] => rfl
  | n, a :: l => by simp [num, num_length (n + 1) l]

/-- what a call comes to -/
def CallsE (P : Program) (ρ : Rho) (g : Gh) (w : World) (k : FuncId) (cargs : List Value) (v : AV) (e : Eff) : Prop :=
  Calls P k cargs.toArray w fun en w' => ∃ cv ρ', en = .returned cv ∧ VR ρ' v cv ∧ SR ρ' (e.app g) w' ∧ Tr ρ ρ' w w' ∧ (∀ b, ρ b = none → e.news b = false → ρ' b = none)

theorem callE_sound (hO : SoundO P O) (h : SR ρ g w) {k : FuncId} {args : List AV} {cargs : List Value} (hargs : VRs ρ args cargs) {no nr : Nat} {v : AV} {e : Eff} (hc : callE O k args g no nr = some (v, e))
    (hnew : ∀ b, e.news b = true → ρ b = none) : callable P k = true ∧ CallsE P ρ g w k cargs v e := by
  unfold callE at hc
  split at hc
  · cases hc
  rename_i args' S hcan
  split at hc
  case isFalse => cases hc
  rename_i hok
  split at hc
  · cases hc
  rename_i r hr
  split at hc
  case isFalse => cases hc
  rename_i hlim
  simp only [Bool.and_eq_true] at hlim
  obtain ⟨hwr, hkill⟩ := hlim
  simp only [Option.some.injEq, Prod.mk.injEq] at hc
  obtain ⟨rfl, rfl⟩ := hc
  have hS0 : CSOK g ({} : CS) := ⟨rfl, rfl, fun j b s c h1 _ => by simp at h1, fun j m c h1 _ => by simp at h1, by simp⟩
  obtain ⟨hS, _, hRN⟩ := canL_ok (fun S v v' S' => canV_ok 6 false S v v' S') hcan hS0
  obtain ⟨hSR0, hW0⟩ := can_SR hS hok h
  obtain ⟨hcall, hsound⟩ := hO _ _ _ _ hr
  have hargs0 : VRs (comp ρ S.ren) args' cargs := VRs.rn _ _ _ hRN hargs
  have hlen1 : (H.ow ⟨S.rc, S.oc.map some⟩).length = S.os.length := by simp [hS.olen]
  have hlen2 : (H.ro ⟨S.rc, S.oc.map some⟩).length = S.rs.length := by simp [hS.rlen]
  refine ⟨hcall, (hsound (comp ρ S.ren) w cargs hargs0 hSR0 (by rw [hlen1, hlen2]; exact hW0)).mono ?_⟩
  rintro en w' ⟨cv, ρ1, rfl, hv, hSR1, hTr, hW1⟩
  rw [hlen1, hlen2] at hW1
  simp only [CS.ok, Bool.and_eq_true] at hok
  -- of the rows that are one's own, and seen
  have hro : ∀ (j : Nat) (b : BId) (s m : Nat), S.rs[j]? = some (b, s) → m ∈ S.os → b ≠ .o m := by
    intro j b s m hj hm e
    have := List.all_eq_true.mp hok.1 (b, s) (List.mem_of_getElem? hj)
    subst e
    simp at this
    exact this hm
  have hin : ∀ (j m m' : Nat), S.os[j]? = some m → S.os[m']? = some m → m' = j := by
    intro j m m' h1 h2
    obtain ⟨p1, q1⟩ := List.getElem?_eq_some_iff.mp h1
    obtain ⟨p2, q2⟩ := List.getElem?_eq_some_iff.mp h2
    exact (List.getElem_inj hS.nodup).mp (q2.trans q1.symm)
  have halive : ∀ m, m ∈ S.os → ∃ (j : Nat) (l c : List AV), S.os[j]? = some m ∧ S.oc[j]? = some c ∧ g (.o m) = some l ∧ c.length = l.length ∧ RNs true S.ren c l := by
    intro m hm
    obtain ⟨j, hj⟩ := List.getElem?_of_mem hm
    have hlt := (List.getElem?_eq_some_iff.mp hj).1
    have hoc : S.oc[j]? = some (S.oc[j]'(by rw [← hS.olen]; exact hlt)) := by simp
    obtain ⟨l, k1, k2, k3⟩ := hS.ook j m _ hj hoc
    have hle := lensOK_get hok.2 j m _ hj hoc l k1
    exact ⟨j, l, _, hj, hoc, k1, hle.symm, RNs.of_get hle k3⟩
  have hcomp : ∀ x b s c, S.ren x = some (b, s) → ρ b = some c → ρ1 x = some { c with sh := c.sh + s } := by
    intro x b s c hx hb
    exact hTr.ext _ _ (by simp [comp, hx, hb])
  -- the new names
  let nm1 : BId → BId := fun b => match b with
    | .o n => .o (S.os.length + (n - no))
    | .r n => .r (S.rs.length + (n - nr))
  let ρ' : Rho := fun b => match ρ b with
    | some c => some c
    | none => if (S.eff r no nr).news b then ρ1 (nm1 b) else none
  have hnews : ∀ b, (S.eff r no nr).news b = true ↔ (match b with | .o n => no ≤ n ∧ n - no < r.newo.length | .r n => nr ≤ n ∧ n - nr < r.newr.length) := by
    intro b
    cases b with
    | o n =>
      simp only [Eff.news, CS.eff, lk_num]
      split
      · rename_i hle; simp [hle]
      · rename_i hle; simp [hle]
    | r n =>
      simp only [Eff.news, CS.eff, lk_num]
      split
      · rename_i hle; simp [hle]
      · rename_i hle; simp [hle]
  have hold : ∀ b c, ρ b = some c → ρ' b = some c := fun b c hb => by simp only [ρ', hb]
  have hnewρ : ∀ b, (S.eff r no nr).news b = true → ρ' b = ρ1 (nm1 b) := fun b hb => by simp only [ρ', hnew b hb, hb, if_true]
  -- back from the call's names
  have hback : ∀ x, Back ρ1 ρ' x (S.de no nr x).1 (S.de no nr x).2 := by
    intro x c hc
    cases hx : S.ren x with
    | some p =>
      obtain ⟨b, s⟩ := p
      have hde : S.de no nr x = (b, s) := by
        cases x with
        | r j => simp only [CS.ren] at hx; simp [CS.de, hx]
        | o j =>
          simp only [CS.ren, Option.map_eq_some_iff, Prod.mk.injEq] at hx
          obtain ⟨m, hm, rfl, rfl⟩ := hx
          simp [CS.de, hm]
      have hb : ∃ c', ρ b = some c' := by
        cases x with
        | r j =>
          simp only [CS.ren] at hx
          have hlt := (List.getElem?_eq_some_iff.mp hx).1
          have hrc : S.rc[j]? = some (S.rc[j]'(by rw [← hS.rlen]; exact hlt)) := by simp
          obtain ⟨l, k1, _⟩ := hS.rok j b s _ hx hrc
          exact h.some k1
        | o j =>
          simp only [CS.ren, Option.map_eq_some_iff, Prod.mk.injEq] at hx
          obtain ⟨m, hm, rfl, rfl⟩ := hx
          obtain ⟨_, l, _, _, _, k1, _⟩ := halive m (List.mem_of_getElem? hm)
          exact h.some k1
      obtain ⟨c', hc'⟩ := hb
      have := hcomp x b s c' hx hc'
      rw [hc] at this
      cases this
      rw [hde]
      exact ⟨c', hold _ _ hc', rfl, rfl, rfl⟩
    | none =>
      cases x with
      | r j =>
        simp only [CS.ren] at hx
        have hge : S.rs.length ≤ j := by simpa using hx
        have hlt : j < S.rs.length + r.newr.length := by
          by_cases hh : j < S.rs.length + r.newr.length
          · exact hh
          · rw [hW1.2 j (by omega)] at hc; cases hc
        have hde : S.de no nr (.r j) = (.r (nr + (j - S.rs.length)), 0) := by simp [CS.de, hx]
        rw [hde]
        refine ⟨c, ?_, rfl, by simp, rfl⟩
        rw [hnewρ _ ((hnews _).2 (by simp only; omega))]
        simp only [nm1]
        rw [show S.rs.length + (nr + (j - S.rs.length) - nr) = j by omega]
        exact hc
      | o j =>
        simp only [CS.ren, Option.map_eq_none_iff] at hx
        have hge : S.os.length ≤ j := by simpa using hx
        have hlt : j < S.os.length + r.newo.length := by
          by_cases hh : j < S.os.length + r.newo.length
          · exact hh
          · rw [hW1.1 j (by omega)] at hc; cases hc
        have hde : S.de no nr (.o j) = (.o (no + (j - S.os.length)), 0) := by simp [CS.de, hx]
        rw [hde]
        refine ⟨c, ?_, rfl, by simp, rfl⟩
        rw [hnewρ _ ((hnews _).2 (by simp only; omega))]
        simp only [nm1]
        rw [show S.os.length + (no + (j - S.os.length) - no) = j by omega]
        exact hc
  have hbackT : ∀ b b' s, (fun b => some (S.de no nr b)) b = some (b', s) → Back ρ1 ρ' b b' s := by
    intro b b' s hb
    simp only [Option.some.injEq] at hb
    have := hback b
    rw [hb] at this
    exact this
  have hvr : ∀ a c, VR ρ1 a c → VR ρ' (reV (S.de no nr) a) c := fun a c ha => VR.nr hbackT _ _ _ (RN.re _ a) ha
  -- what isn't touched
  have hfar : ∀ b l, g b = some l → (l = [] → b.own = true) → (∀ m, b = .o m → m ∉ S.os) → ∀ cb, ρ b = some cb → ∀ n c, comp ρ S.ren (.o n) = some c → c.blk ≠ cb.blk := by
    intro b l hb hz hns cb hcb n c hcn
    obtain ⟨b1, s1, c1, e1, e2, rfl⟩ := comp_some hcn
    simp only [CS.ren, Option.map_eq_some_iff, Prod.mk.injEq] at e1
    obtain ⟨m, hm, rfl, rfl⟩ := e1
    obtain ⟨_, lm, _, _, _, k1, _⟩ := halive m (List.mem_of_getElem? hm)
    exact h.sep m b lm l k1 hb hz (fun e => hns m e (List.mem_of_getElem? hm)) c1 cb e2 hcb
  have hkept : ∀ b l, g b = some l → (l = [] → b.own = true) → (∀ m, b = .o m → m ∉ S.os) → ∀ cb, ρ b = some cb → w'.heap[cb.blk]? = w.heap[cb.blk]? := by
    intro b l hb hz hns cb hcb
    exact hTr.frame _ (h.live hb hz hcb) fun n c hcn => hfar b l hb hz hns cb hcb n c hcn
  -- where a name of the call's lies
  have hwhere : ∀ x c, ρ1 x = some c → (∀ j, x = .r j → S.rs.length ≤ j) → (∃ m c', m ∈ S.os ∧ ρ (.o m) = some c' ∧ c'.blk = c.blk) ∨ w.heap.size ≤ c.blk := by
    intro x c hx hxr
    have hown : ∀ n c', comp ρ S.ren (.o n) = some c' → ∃ m c1, m ∈ S.os ∧ ρ (.o m) = some c1 ∧ c1.blk = c'.blk := by
      intro n c' hcn
      obtain ⟨b1, s1, c1, e1, e2, rfl⟩ := comp_some hcn
      simp only [CS.ren, Option.map_eq_some_iff, Prod.mk.injEq] at e1
      obtain ⟨m, hm, rfl, rfl⟩ := e1
      exact ⟨m, c1, List.mem_of_getElem? hm, e2, rfl⟩
    cases x with
    | o n =>
      rcases hTr.own n c hx with ⟨m, c', hm, e⟩ | hge
      · obtain ⟨m', c1, h1, h2, h3⟩ := hown m c' hm
        exact .inl ⟨m', c1, h1, h2, h3.trans e⟩
      · exact .inr hge
    | r n =>
      rcases hTr.ro n c hx with hr0 | ⟨m, c', hm, e⟩ | hge
      · rw [hW0.2 n (hxr n rfl)] at hr0; cases hr0
      · obtain ⟨m', c1, h1, h2, h3⟩ := hown m c' hm
        exact .inl ⟨m', c1, h1, h2, h3.trans e⟩
      · exact .inr hge
  -- the names that are alive behind the call: of the call's, or not touched
  have hclass : ∀ b l, (S.eff r no nr).app g b = some l →
      (∃ x l1, ((r.eff ⟨S.rc, S.oc.map some⟩).app (H.get ⟨S.rc, S.oc.map some⟩)) x = some l1 ∧ RNs true (fun b => some (S.de no nr b)) l1 l ∧ S.de no nr x = (b, 0) ∧ x.own = b.own ∧ (∀ j, x = .r j → S.rs.length ≤ j)) ∨
      (g b = some l ∧ ∀ m, b = .o m → m ∉ S.os) := by
    intro b l hb
    cases b with
    | r n =>
      simp only [Eff.app, CS.eff, lk_num] at hb
      by_cases hn : nr ≤ n ∧ n - nr < r.newr.length
      · left
        simp only [hn.1, if_true, List.getElem?_map] at hb
        rw [List.getElem?_eq_getElem hn.2] at hb
        simp only [Option.map_some, Option.some.injEq] at hb
        subst hb
        refine ⟨.r (S.rs.length + (n - nr)), r.newr[n - nr], ?_, RNs.reL _ _, ?_, rfl, fun j hj => by cases hj; omega⟩
        · simp only [Eff.app, Res.eff, lk_num, hlen2]
          rw [if_pos (by omega), show S.rs.length + (n - nr) - S.rs.length = n - nr by omega, List.getElem?_eq_getElem hn.2]
        · simp only [CS.de]
          rw [List.getElem?_eq_none (by omega)]
          simp only [Prod.mk.injEq, BId.r.injEq, and_true]; omega
      · right
        refine ⟨?_, fun m e => by cases e⟩
        split at hb
        · rename_i l0 hl0
          split at hl0
          · rename_i hle
            simp only [hle, true_and, Nat.not_lt] at hn
            rw [List.getElem?_eq_none (by simpa using hn)] at hl0
            cases hl0
          · cases hl0
        · exact hb
    | o n =>
      simp only [Eff.app, CS.eff, lk_num] at hb
      by_cases hn : no ≤ n ∧ n - no < r.newo.length
      · left
        simp only [hn.1, if_true, List.getElem?_map] at hb
        rw [List.getElem?_eq_getElem hn.2] at hb
        simp only [Option.map_some, Option.some.injEq] at hb
        subst hb
        refine ⟨.o (S.os.length + (n - no)), r.newo[n - no], ?_, RNs.reL _ _, ?_, rfl, fun j hj => by cases hj⟩
        · simp only [Eff.app, Res.eff, lk_num, hlen1]
          rw [if_pos (by omega), show S.os.length + (n - no) - S.os.length = n - no by omega, List.getElem?_eq_getElem hn.2]
        · simp only [CS.de]
          rw [List.getElem?_eq_none (by omega)]
          simp only [Prod.mk.injEq, BId.o.injEq, and_true]; omega
      · have hb2 : (if (r.kill.map fun j => S.os.getD j 0).contains n then none else (g (.o n)).map (patchAll n (r.wr.map fun x => (S.os.getD x.1 0, x.2.1, reL (S.de no nr) x.2.2)))) = some l := by
          split at hb
          · rename_i l0 hl0
            split at hl0
            · rename_i hle
              simp only [hle, true_and, Nat.not_lt] at hn
              rw [List.getElem?_eq_none (by simpa using hn)] at hl0
              cases hl0
            · cases hl0
          · exact hb
        split at hb2
        · cases hb2
        · rename_i hk
          simp only [Option.map_eq_some_iff] at hb2
          obtain ⟨l0, hl0, rfl⟩ := hb2
          by_cases hns : n ∈ S.os
          · left
            obtain ⟨j, l1, c, hj, hoc, hl1, hcl, hrn⟩ := halive n hns
            rw [hl0] at hl1; cases hl1
            have hjlt := (List.getElem?_eq_some_iff.mp hj).1
            refine ⟨.o j, patchAll j r.wr c, ?_, ?_, by simp [CS.de, hj], rfl, fun j hj => by cases hj⟩
            · simp only [Eff.app, Res.eff, lk_num, hlen1]
              rw [if_neg (by omega)]
              have hkj : ¬ (r.kill.contains j = true) := by
                intro hkk
                apply hk
                simp only [List.contains_iff_mem, List.mem_map] at hkk ⊢
                exact ⟨j, hkk, by simp [List.getD, hj]⟩
              simp only [hkj, Bool.false_eq_true, if_false, H.get, List.getElem?_map, hoc, Option.map_some, Option.getD_some]
            · refine patchAll_re hS.nodup hj r.wr hwr ?_
              refine RNs.ext (σ := S.ren) (fun b p hp => ?_) _ _ hrn
              cases b with
              | r i => simp only [CS.ren] at hp; simp [CS.de, hp]
              | o i =>
                simp only [CS.ren, Option.map_eq_some_iff] at hp
                obtain ⟨m, hm, rfl⟩ := hp
                simp [CS.de, hm]
          · right
            refine ⟨?_, fun m e => by cases e; exact hns⟩
            rw [patchAll_not]
            · exact hl0
            · intro x hx e
              simp only [List.mem_map] at hx
              obtain ⟨y, hy, rfl⟩ := hx
              have hlt := List.all_eq_true.mp hwr y hy
              simp only [decide_eq_true_eq] at hlt
              apply hns
              rw [← e]
              simp [List.getD, hlt]
  have hρde : ∀ x b c, S.de no nr x = (b, 0) → ρ1 x = some c → ∃ c', ρ' b = some c' ∧ c'.blk = c.blk ∧ c'.sh = c.sh ∧ c'.sz = c.sz := by
    intro x b c hx hc
    obtain ⟨c', h1, h2, h3, h4⟩ := hback x c hc
    rw [hx] at h1 h3
    exact ⟨c', h1, h2, by simpa using h3, h4⟩
  refine ⟨cv, ρ', rfl, hvr _ _ hv, ⟨fun b l hb hz => ?_, fun n b l l' hn hb hz hne cb cb' hcb hcb' => ?_, fun n cb hb => ?_, fun {b l} hb => ?_⟩, ⟨hold, fun n cb hn => ?_, fun n cb hn => ?_, hTr.os, hTr.tape, hTr.output, hTr.size, fun i hi hno => ?_⟩, fun b hb hnb => ?_⟩
  · -- cells
    rcases hclass b l hb with ⟨x, l1, hx, hrn, hde, hown, _⟩ | ⟨hg, hns⟩
    · obtain ⟨cb, cs, ty, fz, h1, h2, h3, h4, h5⟩ := hSR1.cells x l1 hx (fun e => hown ▸ hz (List.eq_nil_of_length_eq_zero (by rw [hrn.length, e]; rfl)))
      obtain ⟨cb', k1, k2, k3, k4⟩ := hρde x b cb hde h1
      refine ⟨cb', cs, ty, fz, k1, by rw [k2]; exact h2, fun i v hi => ?_, by rw [k3, k4, hrn.length]; exact h4, fun ho => by rw [k4]; exact h5 (hown ▸ ho)⟩
      have hil : i < l1.length := by rw [← hrn.length]; exact (List.getElem?_eq_some_iff.mp hi).1
      obtain ⟨v', hv1, hv2⟩ := hrn.get i l1[i] (by simp)
      rw [hi] at hv1; cases hv1
      obtain ⟨cv', h6, h7⟩ := h3 i l1[i] (by simp)
      exact ⟨cv', by rw [k3]; exact h6, VR.nr hbackT _ _ _ hv2 h7⟩
    · obtain ⟨cb, cs, ty, fz, h1, h2, h3, h4, h5⟩ := h.cells b l hg hz
      refine ⟨cb, cs, ty, fz, hold _ _ h1, by rw [hkept b l hg hz hns cb h1]; exact h2, fun i v hi => ?_, h4, h5⟩
      obtain ⟨cv', h6, h7⟩ := h3 i v hi
      exact ⟨cv', h6, VR.ext hold _ _ h7⟩
  · -- apart
    rcases hclass _ l hn with ⟨x, l1, hx, _, hde, hown, hxr⟩ | ⟨hg, hns⟩
    · obtain ⟨c1, q1⟩ := hSR1.some hx
      obtain ⟨c1', k1, k2, _, _⟩ := hρde x _ c1 hde q1
      rw [hcb] at k1; cases k1
      rcases hclass _ l' hb with ⟨y, l2, hy, hrny, hdey, howny, hyr⟩ | ⟨hg', hns'⟩
      · obtain ⟨c2, q2⟩ := hSR1.some hy
        obtain ⟨c2', k3, k4, _, _⟩ := hρde y _ c2 hdey q2
        rw [hcb'] at k3; cases k3
        rw [k2, k4]
        cases x with
        | r j => simp [BId.own] at hown
        | o j => exact hSR1.sep j y l1 l2 hx hy (fun e => howny ▸ hz (List.eq_nil_of_length_eq_zero (by rw [hrny.length, e]; rfl))) (fun e => hne (by rw [e, hde] at hdey; cases hdey; rfl)) c1 c2 q1 q2
      · have hcb2 : ρ b = some cb' := by
          obtain ⟨c0, hc0⟩ := h.some hg'
          rw [hold _ _ hc0] at hcb'; cases hcb'; exact hc0
        rw [k2]
        rcases hwhere x c1 q1 hxr with ⟨m, c', hm, hc', e⟩ | hge
        · obtain ⟨_, lm, _, _, _, g1, _⟩ := halive m hm
          rw [← e]
          exact h.sep m b lm l' g1 hg' hz (fun e => hns' m e hm) c' cb' hc' hcb2
        · have := h.live hg' hz hcb2; omega
    · have hcb2 : ρ (.o n) = some cb := by
        obtain ⟨c0, hc0⟩ := h.some hg
        rw [hold _ _ hc0] at hcb; cases hcb; exact hc0
      rcases hclass _ l' hb with ⟨y, l2, hy, hrny, hdey, howny, hyr⟩ | ⟨hg', hns'⟩
      · obtain ⟨c2, q2⟩ := hSR1.some hy
        obtain ⟨c2', k3, k4, _, _⟩ := hρde y _ c2 hdey q2
        rw [hcb'] at k3; cases k3
        rw [k4]
        rcases hwhere y c2 q2 hyr with ⟨m, c', hm, hc', e⟩ | hge
        · obtain ⟨_, lm, _, _, _, g1, _⟩ := halive m hm
          rw [← e]
          exact fun e2 => h.sep m (.o n) lm l g1 hg (fun _ => rfl) (fun e => hns m e hm) c' cb hc' hcb2 e2.symm
        · have := h.bound _ _ hcb2; omega
      · have hcb3 : ρ b = some cb' := by
          obtain ⟨c0, hc0⟩ := h.some hg'
          rw [hold _ _ hc0] at hcb'; cases hcb'; exact hc0
        exact h.sep n b l l' hg hg' hz hne cb cb' hcb2 hcb3
  · -- in the world
    cases hρb : ρ (.o n) with
    | some c =>
      rw [hold _ _ hρb] at hb; cases hb
      have := h.bound _ _ hρb
      have := hTr.size
      omega
    | none =>
      simp only [ρ', hρb] at hb
      split at hb
      · exact hSR1.bound _ _ hb
      · cases hb
  · -- each has a place
    rcases hclass b l hb with ⟨x, l1, hx, _, hde, _, _⟩ | ⟨hg, _⟩
    · obtain ⟨c1, q1⟩ := hSR1.has hx
      obtain ⟨c1', k1, _⟩ := hρde x b c1 hde q1
      exact ⟨c1', k1⟩
    · obtain ⟨c0, hc0⟩ := h.has hg
      exact ⟨c0, hold _ _ hc0⟩
  · cases hρb : ρ (.o n) with
    | some c =>
      rw [hold _ _ hρb] at hn; cases hn
      exact .inl ⟨n, cb, hρb, rfl⟩
    | none =>
      simp only [ρ', hρb] at hn
      split at hn
      · rcases hwhere _ cb hn (fun j hj => by simp [nm1] at hj) with ⟨m, c', _, h1, h2⟩ | hge
        · exact .inl ⟨m, c', h1, h2⟩
        · exact .inr hge
      · cases hn
  · cases hρb : ρ (.r n) with
    | some c =>
      rw [hold _ _ hρb] at hn; cases hn
      exact .inl rfl
    | none =>
      simp only [ρ', hρb] at hn
      split at hn
      · rcases hwhere _ cb hn (fun j hj => by simp only [nm1, BId.r.injEq] at hj; omega) with ⟨m, c', _, h1, h2⟩ | hge
        · exact .inr (.inl ⟨m, c', h1, h2⟩)
        · exact .inr (.inr hge)
      · cases hn
  · refine hTr.frame i hi fun n c hcn => ?_
    obtain ⟨b1, s1, c1, e1, e2, rfl⟩ := comp_some hcn
    simp only [CS.ren, Option.map_eq_some_iff, Prod.mk.injEq] at e1
    obtain ⟨m, hm, rfl, rfl⟩ := e1
    exact hno m c1 e2
  · simp only [ρ', hb, hnb, Bool.false_eq_true, if_false]

end
end Go.Sym
