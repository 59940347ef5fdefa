/- Code over abstract frames and heaps: rules for each shape of code, and a function's contract by its body. -/
import Derived.Test.YtnkijhpikeokfaaS20
set_option linter.unusedSimpArgs false
set_option linter.unusedVariables false
namespace Go.Sym
open Go

abbrev Fs := List (Nat × AV)

def look : Fs → Nat → Option AV
  | [], _ => none
  | (m, v) :: r, t => match Nat.beq m t with
    | true => some v
    | false => look r t

def Fs.fr (fs : Fs) : Fr := fun t => (look fs t).getD .top

theorem Fs.fr_cons (fs : Fs) (d : Nat) (v : AV) : Fs.fr ((d, v) :: fs) = (Fs.fr fs).upd d v := by
  funext t
  simp only [Fs.fr, look, Fr.upd]
  cases h : Nat.beq d t with
  | true =>
    have := Nat.eq_of_beq_eq_true h
    simp [this]
  | false =>
    have : t ≠ d := fun e => by subst e; simp at h
    simp [this]

def constO : Value → Option AV
  | .bool b => some (.bool b)
  | .int k n => some (.int k n)
  | .string s => some (.str s)
  | .pointer none => some .nilptr
  | .slice none 0 0 => some .nilsl
  | .nilFunc => some .nilfunc
  | _ => none

theorem constO_eq {v : Value} {a : AV} (h : constO v = some a) : constA v = a := by
  unfold constO at h
  split at h <;> first | (cases h; rfl) | cases h

def evO (fs : Fs) : Operand → Option AV
  | .tmp t => look fs t
  | .const v => constO v
  | .func f => some (.func f [] [])
  | .global _ => none

theorem evO_eq {fs : Fs} {x : Operand} {v : AV} (h : evO fs x = some v) : fs.fr.ev x = v := by
  cases x with
  | tmp t => simp only [evO] at h; simp only [Fr.ev, Fs.fr, h, Option.getD_some]
  | const c => exact constO_eq h
  | func f => simp only [evO, Option.some.injEq] at h; exact h
  | global g => cases h

def evs (fs : Fs) : List Operand → Option (List AV)
  | [] => some []
  | x :: l => match evO fs x, evs fs l with
    | some v, some vs => some (v :: vs)
    | _, _ => none

theorem evs_eq {fs : Fs} : ∀ {l : List Operand} {vs : List AV}, evs fs l = some vs → l.map fs.fr.ev = vs
  | [], vs, h => by simp only [evs, Option.some.injEq] at h; exact h
  | x :: l, vs, h => by
    simp only [evs] at h
    split at h
    · rename_i v vs' h1 h2
      cases h
      simp only [List.map_cons, evO_eq h1, evs_eq h2]
    · cases h

/-! code -/

abbrev APost := Exit → Fs → H → Prop

def AW (P : Program) (no nr n : Nat) (c : Code) (Q : APost) (fs : Fs) (h : H) : Prop :=
  ∀ (ρ0 : Rho) (w0 : World), Within ρ0 no nr → ∀ a w, Holds ρ0 w0 n fs.fr h a w → c.wp P (fun e a' w' => ∃ fs' h', Q e fs' h' ∧ Holds ρ0 w0 n fs'.fr h' a' w') a w

def AThen (K : Fs → H → Prop) (Q : APost) : APost
  | .normal, fs, h => K fs h
  | e, fs, h => Q e fs h

def AIn (id : Nat) (Q : APost) : APost
  | .exit id', fs, h => if id' = id then Q .normal fs h else Q (.exit id') fs h
  | e, fs, h => Q e fs h

/-- the run of a region's operations, in the text's order -/
def RunF (P : Program) (ops : Array Oper) : List Oper → Fs → H → (Fs → H → Prop) → Prop
  | [], fs, h, K => K fs h
  | o :: os, fs, h, K => ∃ v e, RecR P ops fs.fr h o v e ∧ RunF P ops os (match o.dst with | some d => (d, v) :: fs | none => fs) (h.app e) K

def RunV (P : Program) (ops : Array Oper) : List Oper → List Rc → Fs → H → (List Rc → Fs → H → Prop) → Prop
  | [], rs, fs, h, K => K rs.reverse fs h
  | o :: os, rs, fs, h, K => ∃ v e, RecR P ops fs.fr h o v e ∧ RunV P ops os (⟨v, e⟩ :: rs) (match o.dst with | some d => (d, v) :: fs | none => fs) (h.app e) K

section
variable {P : Program} {no nr n : Nat} {Q : APost} {fs : Fs} {h : H}

theorem Fs.fr_dst (fs : Fs) (o : Oper) (v : AV) : Fs.fr (match o.dst with | some d => (d, v) :: fs | none => fs) = fs.fr.put o.dst v := by
  cases o.dst with
  | none => rfl
  | some d => exact Fs.fr_cons fs d v

theorem RunF.runS {ops : Array Oper} {K : Fs → H → Prop} : ∀ (os : List Oper) (fs : Fs) (h : H), RunF P ops os fs h K → RunS P ops os fs.fr h fun fr h => ∃ fs, Fs.fr fs = fr ∧ K fs h
  | [], fs, h, hr => ⟨fs, rfl, hr⟩
  | o :: os, fs, h, ⟨v, e, h1, h2⟩ => ⟨v, e, h1, by rw [← Fs.fr_dst]; exact RunF.runS os _ _ h2⟩

theorem RunV.runW {ops : Array Oper} {K : Fs → H → Prop} : ∀ (os : List Oper) (rs : List Rc) (fs : Fs) (h : H), RunV P ops os rs fs h (fun rs fs h => pairsOK ops rs = true ∧ K fs h) →
    RunW P ops os rs fs.fr h fun rs fr h => pairsOK ops rs = true ∧ ∃ fs, Fs.fr fs = fr ∧ K fs h
  | [], rs, fs, h, hr => ⟨hr.1, fs, rfl, hr.2⟩
  | o :: os, rs, fs, h, ⟨v, e, h1, h2⟩ => ⟨v, e, h1, by rw [← Fs.fr_dst]; exact RunV.runW os _ _ _ h2⟩

theorem AW.mono {c : Code} {Q' : APost} (h1 : AW P no nr n c Q' fs h) (hq : ∀ e fs h, Q' e fs h → Q e fs h) : AW P no nr n c Q fs h :=
  fun ρ0 w0 hW a w hh => wp_mono (h1 ρ0 w0 hW a w hh) fun e _ _ ⟨fs', h', k1, k2⟩ => ⟨fs', h', hq e _ _ k1, k2⟩

theorem AW.skip (h1 : Q .normal fs h) : AW P no nr n .skip Q fs h := fun _ _ _ _ _ hh => wp_skip ⟨fs, h, h1, hh⟩
theorem AW.label {l : Nat} (h1 : Q .normal fs h) : AW P no nr n (.label l) Q fs h := fun _ _ _ _ _ hh => wp_label ⟨fs, h, h1, hh⟩
theorem AW.exit {id : Nat} (h1 : Q (.exit id) fs h) : AW P no nr n (.exit id) Q fs h := fun _ _ _ _ _ hh => wp_exit ⟨fs, h, h1, hh⟩
theorem AW.ret (h1 : Q .ret fs h) : AW P no nr n .ret Q fs h := fun _ _ _ _ _ hh => wp_ret ⟨fs, h, h1, hh⟩

theorem AW.seq {x y : Code} (h1 : AW P no nr n x (AThen (fun fs h => AW P no nr n y Q fs h) Q) fs h) : AW P no nr n (.seq x y) Q fs h := fun ρ0 w0 hW a w hh =>
  wp_seq <| wp_mono (h1 ρ0 w0 hW a w hh) fun e a' w' ⟨fs', h', k1, k2⟩ => by
    cases e with
    | normal => exact k1 ρ0 w0 hW a' w' k2
    | _ => exact ⟨fs', h', k1, k2⟩

theorem AW.cond {c : Operand} {x y : Code} {t : Bool} (hc : evO fs c = some (.bool t)) (hx : t = true → AW P no nr n x Q fs h) (hy : t = false → AW P no nr n y Q fs h) : AW P no nr n (.cond c x y) Q fs h := fun ρ0 w0 hW a w hh => by
  obtain ⟨ρ, hF, _⟩ := id hh
  have := hF.ev c
  rw [evO_eq hc] at this
  simp only [VR] at this
  exact wp_cond_split this (fun ht => hx ht ρ0 w0 hW a w hh) (fun ht => hy ht ρ0 w0 hW a w hh)

theorem AW.block {id : Nat} {c : Code} (h1 : AW P no nr n c (AIn id Q) fs h) : AW P no nr n (.block id c) Q fs h := fun ρ0 w0 hW a w hh =>
  wp_block <| wp_mono (h1 ρ0 w0 hW a w hh) fun e a' w' ⟨fs', h', k1, k2⟩ => by
    cases e with
    | exit id' =>
      simp only [AIn] at k1
      simp only [Exit.inBlock]
      split
      · rename_i e; rw [if_pos e] at k1; exact ⟨fs', h', k1, k2⟩
      · rename_i e; rw [if_neg e] at k1; exact ⟨fs', h', k1, k2⟩
    | _ => exact ⟨fs', h', k1, k2⟩

theorem AW.region {id : Nat} {os : List Oper} (hedge : edgesOK n os.toArray = true) (hr : RunF P os.toArray os fs h fun fs h => Q .normal fs h) : AW P no nr n (.region id os.toArray false) Q fs h := fun ρ0 w0 _ a w hh => by
  refine wp_region ?_
  have := region_text (Q := fun e a' w' => ∃ fs' h', Q e fs' h' ∧ Holds ρ0 w0 n fs'.fr h' a' w') (ρ0 := ρ0) (w0 := w0) (ops := os.toArray) (edgesOK_spec hedge).2
    (fun fr h a w ⟨fs', e, hk⟩ hh => ⟨fs', h, hk, by rw [e]; exact hh⟩) os 0 fs.fr h a w (by simp) (RunF.runS _ _ _ hr) hh
  rw [List.range_eq_range']
  simpa using this

theorem AW.draws {id : Nat} {os : List Oper} (hm : P.follows .mixedOrders = true) (hedge : edgesOK n os.toArray = true) (hr : RunV P os.toArray os [] fs h fun rs fs h => pairsOK os.toArray rs = true ∧ Q .normal fs h) :
    AW P no nr n (.region id os.toArray true) Q fs h := fun ρ0 w0 _ a w hh => by
  refine wp_region_any hm ?_
  refine region_draws (ρ0 := ρ0) (w0 := w0) (K := fun fr h => ∃ fs, Fs.fr fs = fr ∧ Q .normal fs h) hedge (RunV.runW _ _ _ _ (by simpa using hr)) (fun fr h a w ⟨fs', e, hk⟩ hh => ⟨fs', h, hk, by rw [e]; exact hh⟩) ?_
  obtain ⟨ρ, h1, h2, h3, h4⟩ := hh
  exact ⟨ρ, h1, SR.drew h2, h3.trans (Tr.drew _ _), h4⟩

/-- one state, told as another one -/
def Wk (no nr : Nat) (fs : Fs) (h : H) (fs2 : Fs) (h2 : H) : Prop := ∀ (ρ0 : Rho) (w0 : World) (n : Nat), Within ρ0 no nr → ∀ a w, Holds ρ0 w0 n fs.fr h a w → Holds ρ0 w0 n fs2.fr h2 a w

theorem AW.weaken {c : Code} {fs2 : Fs} {h2 : H} (hk : Wk no nr fs h fs2 h2) (h1 : AW P no nr n c Q fs2 h2) : AW P no nr n c Q fs h := fun ρ0 w0 hW a w hh => h1 ρ0 w0 hW a w (hk ρ0 w0 n hW a w hh)

theorem AW.loop {α : Type} {c : Code} (I : α → Fs × H) (μ : α → Nat) (hr : ∀ x, AW P no nr n c (AThen (fun fs h => ∃ y, Wk no nr fs h (I y).1 (I y).2 ∧ μ y < μ x) Q) (I x).1 (I x).2) (x : α) (hs : Wk no nr fs h (I x).1 (I x).2) :
    AW P no nr n (.loop c) Q fs h := fun ρ0 w0 hW a w hh => by
  -- the loop's measure counts over the invariant's own states
  have key : ∀ (m : Nat) (x : α), μ x = m → ∀ a w, Holds ρ0 w0 n (I x).1.fr (I x).2 a w → ∀ (b : Frame) (k : List Item) (cs : List Frame),
      ∃ e a' w', (∃ fs' h', Q e fs' h' ∧ Holds ρ0 w0 n fs'.fr h' a' w') ∧ Arrives P (lone (b.at a (.code c :: .inLoop c :: k)) cs w) b k cs e a' w' := by
    intro m
    induction m using Nat.strongRecOn with
    | _ m ih =>
      intro x hx a w hh b k cs
      obtain ⟨e, a1, w1, ⟨fs', h', hq, hh'⟩, harr⟩ := hr x ρ0 w0 hW a w hh b (.inLoop c :: k) cs
      cases e with
      | normal =>
        obtain ⟨y, hy, hlt⟩ := hq
        obtain ⟨e2, a2, w2, hq2, harr2⟩ := ih (μ y) (hx ▸ hlt) y rfl a1 w1 (hy ρ0 w0 n hW a1 w1 hh') b k cs
        exact ⟨e2, a2, w2, hq2, .of_steps (Steps.trans harr (.one step_inLoop)) harr2⟩
      | exit id => exact ⟨_, a1, w1, ⟨fs', h', hq, hh'⟩, .pass (x := .inLoop c) rfl (fun _ _ => .inl (by simp)) harr⟩
      | goto l => exact ⟨_, a1, w1, ⟨fs', h', hq, hh'⟩, .pass (x := .inLoop c) rfl (fun _ _ => .inl (by simp)) harr⟩
      | ret => exact ⟨_, a1, w1, ⟨fs', h', hq, hh'⟩, .pass (x := .inLoop c) rfl (fun _ _ => .inl (by simp)) harr⟩
      | panic ch => exact ⟨_, a1, w1, ⟨fs', h', hq, hh'⟩, .pass (x := .inLoop c) rfl (fun _ _ => .inl (by simp)) harr⟩
      | outgrown => exact ⟨_, a1, w1, ⟨fs', h', hq, hh'⟩, .pass (x := .inLoop c) rfl (fun _ _ => .inl (by simp)) harr⟩
  intro b k cs
  obtain ⟨e, a', w', hq, harr⟩ := key _ x rfl a w (hs ρ0 w0 n hW a w hh) b k cs
  exact ⟨e, a', w', hq, .of_steps (.one step_loop) harr⟩

/-! one state told as another one: names changed, what isn't needed let go -/

/-- the new names: of one's own, and read only ones -/
def renOf (no nr : Nat) (so : List Nat) (sr : List BId) : Ren
  | .o m => if m < no then some (.o m, 0) else (so[m - no]?).map fun m => (.o m, 0)
  | .r m => if m < nr then some (.r m, 0) else (sr[m - nr]?).map fun b => (b, 0)

/-- a row, under the new names: it may be told of less -/
def PRN (σ : Ren) : List AV → List AV → Prop
  | [], _ => True
  | v :: vs, l => ∃ u us, l = u :: us ∧ RN false σ v u ∧ PRN σ vs us

theorem PRN.len {σ : Ren} : ∀ {l l' : List AV}, PRN σ l l' → l.length ≤ l'.length
  | [], _, _ => Nat.zero_le _
  | v :: vs, l', h => by
    obtain ⟨u, us, rfl, _, h⟩ := h
    simp [PRN.len h]

theorem PRN.get {σ : Ren} : ∀ {l l' : List AV} (_ : PRN σ l l') (i : Nat) (v : AV), l[i]? = some v → ∃ u, l'[i]? = some u ∧ RN false σ v u
  | [], _, _, i, v, h => by simp at h
  | v :: vs, l', h, i, u, hi => by
    obtain ⟨a, as, rfl, h1, h2⟩ := h
    cases i with
    | zero => simp at hi; subst hi; exact ⟨a, rfl, h1⟩
    | succ i => simp at hi; simpa using PRN.get h2 i u hi

def RowsO (σ : Ren) (h : H) : Nat → List (Option (List AV)) → Prop
  | _, [] => True
  | m, none :: r => RowsO σ h (m + 1) r
  | m, some l :: r => (∃ b s l', σ (.o m) = some (b, s) ∧ h.get b = some l' ∧ PRN σ l l') ∧ RowsO σ h (m + 1) r

def RowsR (σ : Ren) (h : H) : Nat → List (List AV) → Prop
  | _, [] => True
  | m, l :: r => (∃ b s l', σ (.r m) = some (b, s) ∧ h.get b = some l' ∧ PRN σ l l') ∧ RowsR σ h (m + 1) r

theorem RowsO.get {σ : Ren} {h : H} : ∀ {m : Nat} {L : List (Option (List AV))}, RowsO σ h m L → ∀ i l, L[i]? = some (some l) → ∃ b s l', σ (.o (m + i)) = some (b, s) ∧ h.get b = some l' ∧ PRN σ l l'
  | _, [], _, i, l, hi => by simp at hi
  | m, none :: r, hr, 0, l, hi => by simp at hi
  | m, none :: r, hr, i + 1, l, hi => by
    have := RowsO.get (m := m + 1) (L := r) hr i l (by simpa using hi)
    rwa [Nat.add_assoc, Nat.add_comm 1 i] at this
  | m, some a :: r, hr, 0, l, hi => by simp at hi; subst hi; exact hr.1
  | m, some a :: r, hr, i + 1, l, hi => by
    have := RowsO.get (m := m + 1) (L := r) hr.2 i l (by simpa using hi)
    rwa [Nat.add_assoc, Nat.add_comm 1 i] at this

theorem RowsR.get {σ : Ren} {h : H} : ∀ {m : Nat} {L : List (List AV)}, RowsR σ h m L → ∀ i l, L[i]? = some l → ∃ b s l', σ (.r (m + i)) = some (b, s) ∧ h.get b = some l' ∧ PRN σ l l'
  | _, [], _, i, l, hi => by simp at hi
  | m, a :: r, hr, 0, l, hi => by simp at hi; subst hi; exact hr.1
  | m, a :: r, hr, i + 1, l, hi => by
    have := RowsR.get (m := m + 1) (L := r) hr.2 i l (by simpa using hi)
    rwa [Nat.add_assoc, Nat.add_comm 1 i] at this

def nodupN : List Nat → Bool
  | [] => true
  | a :: l => !l.any (Nat.beq a) && nodupN l

/-- the names' part: closed -/
def renOK (no nr : Nat) (so : List Nat) (sr : List BId) (h2 : H) : Bool :=
  Nat.beq h2.ow.length (no + so.length) && Nat.beq h2.ro.length (nr + sr.length) &&
  nodupN so && so.all (fun m => Nat.ble no m || (match h2.ow[m]? with | some (some _) => false | _ => true)) &&
  sr.all (fun b => match b with
    | .o m => !so.any (Nat.beq m) && (Nat.ble no m || (match h2.ow[m]? with | some (some _) => false | _ => true))
    | .r m => Nat.ble nr m)

theorem nodupN_spec : ∀ {l : List Nat}, nodupN l = true → l.Nodup
  | [], _ => by simp
  | a :: l, h => by
    simp only [nodupN, Bool.and_eq_true, Bool.not_eq_true'] at h
    rw [List.nodup_cons]
    refine ⟨fun hm => ?_, nodupN_spec h.2⟩
    have := h.1
    rw [List.any_eq_false] at this
    exact this a hm (by simp)

theorem Tr.within {ρ0 ρ : Rho} {w0 w : World} (_ : Tr ρ0 ρ w0 w) : ρ0.le ρ := Tr.ext ‹_›

/-- the core: other names for a heap -/
theorem renamed {ρ0 ρ : Rho} {w0 w : World} {so : List Nat} {sr : List BId} {h2 : H} (hW0 : Within ρ0 no nr) (hS : SR ρ h.get w) (hTr : Tr ρ0 ρ w0 w)
    (hok : renOK no nr so sr h2 = true) (ho : RowsO (renOf no nr so sr) h 0 h2.ow) (hr : RowsR (renOf no nr so sr) h 0 h2.ro) :
    SR (comp ρ (renOf no nr so sr)) h2.get w ∧ Tr ρ0 (comp ρ (renOf no nr so sr)) w0 w ∧ Within (comp ρ (renOf no nr so sr)) h2.ow.length h2.ro.length := by
  simp only [renOK, Bool.and_eq_true, List.all_eq_true] at hok
  obtain ⟨⟨⟨⟨hlo, hlr⟩, hnd⟩, hso⟩, hsr⟩ := hok
  have hlo := Nat.eq_of_beq_eq_true hlo
  have hlr := Nat.eq_of_beq_eq_true hlr
  have hnd := nodupN_spec hnd
  have hz : ∀ b b' s, renOf no nr so sr b = some (b', s) → s = 0 ∧ (b.own = true → b'.own = true) := by
    intro b b' s hb
    cases b with
    | o m =>
      simp only [renOf] at hb
      split at hb
      · cases hb; exact ⟨rfl, id⟩
      · simp only [Option.map_eq_some_iff, Prod.mk.injEq] at hb
        obtain ⟨_, _, rfl, rfl⟩ := hb
        exact ⟨rfl, fun _ => rfl⟩
    | r m =>
      simp only [renOf] at hb
      split at hb
      · cases hb; exact ⟨rfl, id⟩
      · simp only [Option.map_eq_some_iff, Prod.mk.injEq] at hb
        obtain ⟨_, _, rfl, rfl⟩ := hb
        exact ⟨rfl, fun h => by cases h⟩
  have hrow : ∀ b l, h2.get b = some l → ∃ b' l', renOf no nr so sr b = some (b', 0) ∧ h.get b' = some l' ∧ PRN (renOf no nr so sr) l l' := by
    intro b l hb
    cases b with
    | o m =>
      simp only [H.get] at hb
      have : h2.ow[m]? = some (some l) := by
        cases hh : h2.ow[m]? with
        | none => simp [hh] at hb
        | some x => simp [hh] at hb; rw [hb]
      obtain ⟨b', s, l', k1, k2, k3⟩ := ho.get m l this
      rw [Nat.zero_add] at k1
      obtain ⟨rfl, _⟩ := hz _ _ _ k1
      exact ⟨b', l', k1, k2, k3⟩
    | r m =>
      obtain ⟨b', s, l', k1, k2, k3⟩ := hr.get m l hb
      rw [Nat.zero_add] at k1
      obtain ⟨rfl, _⟩ := hz _ _ _ k1
      exact ⟨b', l', k1, k2, k3⟩
  have hcomp : ∀ b b' c, renOf no nr so sr b = some (b', 0) → ρ b' = some c → comp ρ (renOf no nr so sr) b = some c := by
    intro b b' c h1 h2
    simp [comp, h1, h2]
  have hcomp' : ∀ b c, comp ρ (renOf no nr so sr) b = some c → ∃ b', renOf no nr so sr b = some (b', 0) ∧ ρ b' = some c := by
    intro b c hb
    obtain ⟨b', s, c', h1, h2, rfl⟩ := comp_some hb
    obtain ⟨rfl, _⟩ := hz _ _ _ h1
    exact ⟨b', h1, h2⟩
  -- a block of one's own lies under one name alone
  have hinj : ∀ m l b l', h2.get (.o m) = some l → h2.get b = some l' → b ≠ .o m → ∀ b1 b2, renOf no nr so sr (.o m) = some (b1, 0) → renOf no nr so sr b = some (b2, 0) → b2 ≠ b1 := by
    intro m l b l' hm hb hne b1 b2 h1 h3
    have halive : ∀ k lk, h2.get (.o k) = some lk → h2.ow[k]? = some (some lk) := by
      intro k lk hk
      simp only [H.get] at hk
      cases hh : h2.ow[k]? with
      | none => simp [hh] at hk
      | some x => simp [hh] at hk; rw [hk]
    have hdead : ∀ k, (∃ lk, h2.ow[k]? = some (some lk)) → k < no → ∀ x ∈ so, x ≠ k := by
      rintro k ⟨lk, hk⟩ hkn x hx rfl
      have := hso x hx
      simp only [hk, Bool.or_eq_true, Nat.ble_eq, Bool.false_eq_true, or_false] at this
      omega
    cases b with
    | o k =>
      simp only [renOf] at h1 h3
      by_cases c1 : m < no
      · rw [if_pos c1] at h1; cases h1
        by_cases c2 : k < no
        · rw [if_pos c2] at h3; cases h3; exact hne
        · rw [if_neg c2] at h3
          simp only [Option.map_eq_some_iff, Prod.mk.injEq] at h3
          obtain ⟨x, hx, rfl, _⟩ := h3
          exact fun e => hdead m ⟨l, halive m l hm⟩ c1 x (List.mem_of_getElem? hx) (by cases e; rfl)
      · rw [if_neg c1] at h1
        simp only [Option.map_eq_some_iff, Prod.mk.injEq] at h1
        obtain ⟨x, hx, rfl, _⟩ := h1
        by_cases c2 : k < no
        · rw [if_pos c2] at h3; cases h3
          exact fun e => hdead k ⟨l', halive k l' hb⟩ c2 x (List.mem_of_getElem? hx) (by cases e; rfl)
        · rw [if_neg c2] at h3
          simp only [Option.map_eq_some_iff, Prod.mk.injEq] at h3
          obtain ⟨y, hy, rfl, _⟩ := h3
          intro e
          cases e
          obtain ⟨p1, q1⟩ := List.getElem?_eq_some_iff.mp hx
          obtain ⟨p2, q2⟩ := List.getElem?_eq_some_iff.mp hy
          have := (List.getElem_inj hnd).mp (q2.trans q1.symm)
          exact hne (by congr 1; omega)
    | r k =>
      simp only [renOf] at h1 h3
      have hb1 : ∃ x, b1 = .o x ∧ ((x = m ∧ m < no) ∨ x ∈ so) := by
        by_cases c1 : m < no
        · rw [if_pos c1] at h1; cases h1; exact ⟨m, rfl, .inl ⟨rfl, c1⟩⟩
        · rw [if_neg c1] at h1
          simp only [Option.map_eq_some_iff, Prod.mk.injEq] at h1
          obtain ⟨x, hx, rfl, _⟩ := h1
          exact ⟨x, rfl, .inr (List.mem_of_getElem? hx)⟩
      obtain ⟨x, rfl, hx⟩ := hb1
      by_cases c2 : k < nr
      · rw [if_pos c2] at h3; cases h3; exact fun e => by cases e
      · rw [if_neg c2] at h3
        simp only [Option.map_eq_some_iff, Prod.mk.injEq] at h3
        obtain ⟨y, hy, rfl, _⟩ := h3
        intro e
        subst e
        have := hsr _ (List.mem_of_getElem? hy)
        simp only [Bool.and_eq_true, Bool.not_eq_true', Bool.or_eq_true, Nat.ble_eq] at this
        rcases hx with ⟨rfl, hx⟩ | hx
        · rcases this.2 with h5 | h5
          · omega
          · rw [halive x l hm] at h5; simp at h5
        · have h6 := this.1
          rw [List.any_eq_false] at h6
          exact h6 x hx (by simp)
  refine ⟨⟨fun b l hb he0 => ?_, fun m b l l' hm hb he0 hne cb cb' hc hc' => ?_, fun m cb hb => ?_, fun {b l} hb => ?_⟩, ⟨fun b c hb => ?_, fun m c hm => ?_, fun m c hm => ?_, hTr.os, hTr.tape, hTr.output, hTr.size, hTr.frame⟩, fun m hm => ?_, fun m hm => ?_⟩
  · obtain ⟨b', l', h1, h3, h4⟩ := hrow b l hb
    obtain ⟨cb, cs, ty, fz, k1, k2, k3, k4, k5⟩ := hS.cells b' l' h3 (fun e => by
      have hlen := h4.len
      rw [e] at hlen
      exact (hz b b' 0 h1).2 (he0 (List.eq_nil_of_length_eq_zero (by simpa using hlen))))
    refine ⟨cb, cs, ty, fz, hcomp b b' cb h1 k1, k2, fun j v hj => ?_, Nat.le_trans (Nat.add_le_add_left h4.len _) k4, fun hown => k5 ((hz b b' 0 h1).2 hown)⟩
    obtain ⟨u, q1, q2⟩ := h4.get j v hj
    obtain ⟨cv, q3, q4⟩ := k3 j u q1
    exact ⟨cv, q3, VR.rn _ _ _ q2 q4⟩
  · obtain ⟨b1, l1, h1, h3, _⟩ := hrow _ _ hm
    obtain ⟨b2, l2, k1, k3, k4⟩ := hrow _ _ hb
    obtain ⟨b1', e1, e2⟩ := hcomp' _ _ hc
    obtain ⟨b2', e3, e4⟩ := hcomp' _ _ hc'
    rw [h1] at e1; cases e1
    rw [k1] at e3; cases e3
    have hb1 := (hz _ _ _ h1).2 rfl
    cases b1 with
    | r x => cases hb1
    | o x => exact hS.sep x b2 l1 l2 h3 k3 (fun e => by
      have hlen := k4.len
      rw [e] at hlen
      exact (hz b b2 0 k1).2 (he0 (List.eq_nil_of_length_eq_zero (by simpa using hlen)))) (hinj m l b l' hm hb hne _ _ h1 k1) cb cb' e2 e4
  · obtain ⟨b', e1, e2⟩ := hcomp' _ _ hb
    have hb1 := (hz _ _ _ e1).2 rfl
    cases b' with
    | r x => cases hb1
    | o x => exact hS.bound _ _ e2
  · obtain ⟨b', l', h1, h3, _⟩ := hrow b l hb
    obtain ⟨c1, q1⟩ := hS.has h3
    exact ⟨c1, hcomp b b' c1 h1 q1⟩
  · have hlt : renOf no nr so sr b = some (b, 0) := by
      cases b with
      | o m =>
        have : m < no := by
          by_cases hh : m < no
          · exact hh
          · rw [hW0.1 m (by omega)] at hb; cases hb
        simp only [renOf, this, if_true]
      | r m =>
        have : m < nr := by
          by_cases hh : m < nr
          · exact hh
          · rw [hW0.2 m (by omega)] at hb; cases hb
        simp only [renOf, this, if_true]
    exact hcomp b b c hlt (hTr.ext _ _ hb)
  · obtain ⟨b', e1, e2⟩ := hcomp' _ _ hm
    have hb' := (hz _ _ _ e1).2 rfl
    cases b' with
    | r x => cases hb'
    | o x => exact hTr.own x c e2
  · obtain ⟨b', e1, e2⟩ := hcomp' _ _ hm
    simp only [renOf] at e1
    split at e1
    · cases e1; exact hTr.ro m c e2
    · simp only [Option.map_eq_some_iff, Prod.mk.injEq] at e1
      obtain ⟨x, hx, rfl, _⟩ := e1
      have h5 := hsr _ (List.mem_of_getElem? hx)
      cases x with
      | o k => rcases hTr.own k c e2 with h6 | h6
               · exact .inr (.inl h6)
               · exact .inr (.inr h6)
      | r k =>
        simp only [Nat.ble_eq] at h5
        rcases hTr.ro k c e2 with h6 | h6
        · rw [hW0.2 k h5] at h6; cases h6
        · exact .inr h6
  · rw [hlo] at hm
    have : renOf no nr so sr (.o m) = none := by
      simp only [renOf]
      rw [if_neg (by omega), List.getElem?_eq_none (by omega)]
      rfl
    simp [comp, this]
  · rw [hlr] at hm
    have : renOf no nr so sr (.r m) = none := by
      simp only [renOf]
      rw [if_neg (by omega), List.getElem?_eq_none (by omega)]
      rfl
    simp [comp, this]

/-- of a frame: what is told of a slot, was told before -/
def FW (σ : Ren) (fs : Fs) : Fs → Prop
  | [] => True
  | (t, v) :: r => (∃ u, look fs t = some u ∧ RN false σ v u) ∧ FW σ fs r

theorem FW.get {σ : Ren} {fs : Fs} : ∀ {fs2 : Fs}, FW σ fs fs2 → ∀ t v, look fs2 t = some v → ∃ u, look fs t = some u ∧ RN false σ v u
  | [], _, t, v, h => by cases h
  | (m, a) :: r, hf, t, v, h => by
    simp only [look] at h
    cases hb : Nat.beq m t with
    | true =>
      rw [hb] at h
      simp only [Option.some.injEq] at h
      have := Nat.eq_of_beq_eq_true hb
      subst this; subst h
      exact hf.1
    | false =>
      rw [hb] at h
      exact FW.get hf.2 t v h

theorem Wk.of {fs2 : Fs} {h2 : H} (so : List Nat) (sr : List BId) (hok : renOK no nr so sr h2 = true) (ho : RowsO (renOf no nr so sr) h 0 h2.ow) (hr : RowsR (renOf no nr so sr) h 0 h2.ro) (hf : FW (renOf no nr so sr) fs fs2) :
    Wk no nr fs h fs2 h2 := fun ρ0 w0 n hW a w ⟨ρ, hF, hS, hTr, _⟩ => by
  obtain ⟨k1, k2, k3⟩ := renamed hW hS hTr hok ho hr
  refine ⟨_, ⟨hF.1, hF.2.1, fun t => ?_⟩, k1, k2, k3⟩
  cases hl : look fs2 t with
  | none => simp [Fs.fr, hl, VR]
  | some v =>
    obtain ⟨u, q1, q2⟩ := hf.get t v hl
    have := hF.2.2 t
    simp only [Fs.fr, q1, Option.getD_some] at this
    simp only [Fs.fr, hl, Option.getD_some]
    exact VR.rn _ _ _ q2 this

/-- the frame alone: what isn't needed is let go -/
def FWs (fs : Fs) : Fs → Prop
  | [] => True
  | (t, v) :: r => look fs t = some v ∧ FWs fs r

theorem FWs.get {fs : Fs} : ∀ {fs2 : Fs}, FWs fs fs2 → ∀ t v, look fs2 t = some v → look fs t = some v
  | [], _, t, v, h => by cases h
  | (m, a) :: r, hf, t, v, h => by
    simp only [look] at h
    cases hb : Nat.beq m t with
    | true =>
      rw [hb] at h
      simp only [Option.some.injEq] at h
      have := Nat.eq_of_beq_eq_true hb
      subst this; subst h
      exact hf.1
    | false =>
      rw [hb] at h
      exact FWs.get hf.2 t v h

theorem Wk.same {fs2 : Fs} {h2 : H} (hh : h = h2) (hf : FWs fs fs2) : Wk no nr fs h fs2 h2 := fun ρ0 w0 n _ a w ⟨ρ, hF, hS, hTr, hW⟩ => by
  subst hh
  refine ⟨ρ, ⟨hF.1, hF.2.1, fun t => ?_⟩, hS, hTr, hW⟩
  cases hl : look fs2 t with
  | none => simp [Fs.fr, hl, VR]
  | some v =>
    have h1 := hf.get t v hl
    have := hF.2.2 t
    simp only [Fs.fr, h1, Option.getD_some] at this
    simp only [Fs.fr, hl, Option.getD_some]
    exact this

theorem Wk.refl : Wk no nr fs h fs h := fun _ _ _ _ _ _ hh => hh
theorem Wk.trans {fs2 fs3 : Fs} {h2 h3 : H} (k1 : Wk no nr fs h fs2 h2) (k2 : Wk no nr fs2 h2 fs3 h3) : Wk no nr fs h fs3 h3 := fun ρ0 w0 n hW a w hh => k2 ρ0 w0 n hW a w (k1 ρ0 w0 n hW a w hh)

/-! a function's contract, by its body -/

def resO (P : Program) (fs : Fs) (h : H) : ResultVar → Option AV
  | .tmp t => look fs t
  | .cell a t => match look fs a with
    | some (.ptr b off) => match tk P t, tsize P t, h.get b with
      | some k, some n, some l => if k.agg then (if off + n ≤ l.length then some (.agg ((l.drop off).take n)) else none) else l[off]?
      | _, _, _ => none
    | _ => none

def ress (P : Program) (fs : Fs) (h : H) : List ResultVar → Option (List AV)
  | [] => some []
  | x :: l => match resO P fs h x, ress P fs h l with
    | some v, some vs => some (v :: vs)
    | _, _ => none

def one (l : List AV) : AV :=
  match l with
  | [v] => v
  | l => .tuple l

/-- at a body's end: the results, and what is told of the heap -/
def FinQ (P : Program) (no nr : Nat) (rs : List ResultVar) (val : AV) (h2 : H) : APost := fun e fs h =>
  (e = .normal ∨ e = .ret) ∧ ∃ vs so sr, ress P fs h rs = some vs ∧ renOK no nr so sr h2 = true ∧ RowsO (renOf no nr so sr) h 0 h2.ow ∧ RowsR (renOf no nr so sr) h 0 h2.ro ∧ RN false (renOf no nr so sr) val (one vs)

theorem run_resO {ρ : Rho} {n : Nat} {a : Act} {w : World} (hF : FR ρ n fs.fr a) (hS : SR ρ h.get w) {x : ResultVar} {v : AV} (hx : resO P fs h x = some v) :
    ∃ cv, Sem.run P (match x with | .tmp t => pure (a.tmps.getD t undef) | .cell b t => do loadVar t (← asAddr (a.tmps.getD b undef))) w = .ok cv w ∧ VR ρ v cv := by
  cases x with
  | tmp t =>
    simp only [resO] at hx
    have := hF.2.2 t
    simp only [Fs.fr, hx, Option.getD_some] at this
    exact ⟨_, rfl, this⟩
  | cell s t =>
    simp only [resO] at hx
    split at hx
    · rename_i b off hb
      have hv := hF.2.2 s
      simp only [Fs.fr, hb, Option.getD_some] at hv
      split at hx
      · rename_i k m l hk hm hl
        simp only [VR] at hv
        obtain ⟨cb, hc, hv⟩ := hv
        simp only [hv, asAddr, Sem.run_bind, Sem.run_pure, Result.andThen_ok, loadVar, run_isAgg hk]
        split at hx
        · rename_i ha
          split at hx
          · rename_i hlen
            cases hx
            obtain ⟨cs, h1, h2⟩ := run_loadCells_SR (P := P) hS hl hc hlen
            refine ⟨.agg cs.toArray, ?_, by simp only [VR]; exact ⟨cs, rfl, h2⟩⟩
            simp [ha, run_sizeOf hm, h1]
          · cases hx
        · rename_i ha
          simp only [Bool.not_eq_true] at ha
          obtain ⟨cv, h1, h2⟩ := hS.cell hl hc hx
          refine ⟨cv, ?_, h2⟩
          simp [ha, h1]
      · cases hx
    · cases hx

theorem run_ress {ρ : Rho} {n : Nat} {a : Act} {w : World} (hF : FR ρ n fs.fr a) (hS : SR ρ h.get w) : ∀ {l : List ResultVar} {vs : List AV}, ress P fs h l = some vs →
    ∃ cvs, Sem.run P (l.mapM fun x => match x with | .tmp t => pure (a.tmps.getD t undef) | .cell b t => do loadVar t (← asAddr (a.tmps.getD b undef))) w = .ok cvs w ∧ VRs ρ vs cvs
  | [], vs, hx => by
    simp only [ress, Option.some.injEq] at hx
    subst hx
    exact ⟨[], by simp, VRs.nil⟩
  | x :: l, vs, hx => by
    simp only [ress] at hx
    split at hx
    · rename_i v vs' h1 h2
      cases hx
      obtain ⟨cv, k1, k2⟩ := run_resO hF hS h1
      obtain ⟨cvs, k3, k4⟩ := run_ress hF hS h2
      refine ⟨cv :: cvs, ?_, VRs.cons k2 k4⟩
      simp only [List.mapM_cons, Sem.run_bind, k1, k3, Result.andThen_ok, Sem.run_pure]
    · cases hx

theorem run_results {ρ : Rho} {n : Nat} {a : Act} {w : World} (hF : FR ρ n fs.fr a) (hS : SR ρ h.get w) {fn : Func} {vs : List AV} (hx : ress P fs h fn.results.toList = some vs) :
    ∃ cv, (results fn a.tmps).run P w = .ok cv w ∧ VR ρ (Sym.one vs) cv := by
  obtain ⟨cvs, k1, k2⟩ := run_ress hF hS hx
  refine ⟨if h : cvs.toArray.size = 1 then cvs.toArray[0] else .tuple cvs.toArray, ?_, ?_⟩
  · unfold results
    rw [Array.mapM_eq_mapM_toList]
    have hm : ∀ m : Sem (List Value), m.run P w = .ok cvs w → (List.toArray <$> m).run P w = .ok cvs.toArray w := fun m hm => by
      rw [← bind_pure_comp]
      simp [hm]
    simp only [Sem.run_bind]
    refine (congrArg (fun r => Result.andThen r _) (hm _ k1)).trans ?_
    simp
  · match vs, cvs, k2 with
    | [], cvs, k2 =>
      simp only [VRs] at k2
      subst k2
      simp only [Sym.one, VR]
      exact ⟨[], rfl, VRs.nil⟩
    | [v], cvs, k2 =>
      simp only [VRs] at k2
      obtain ⟨c, cs, rfl, k2, rfl⟩ := k2
      simpa [Sym.one] using k2
    | v :: u :: vs, cvs, k2 =>
      have hl := k2.length
      simp only [Sym.one, VR]
      rw [dif_neg (by simp [hl])]
      exact ⟨cvs, rfl, k2⟩

theorem look_num : ∀ (l : List AV) (i t : Nat), look (num i l) t = if i ≤ t then l[t - i]? else none
  | [], i, t => by simp [num, look]
  | a :: l, i, t => by
    simp only [num, look]
    cases hb : Nat.beq i t with
    | true =>
      have := Nat.eq_of_beq_eq_true hb
      subst this
      simp
    | false =>
      have hne : i ≠ t := fun e => by subst e; simp at hb
      rw [look_num l (i + 1) t]
      by_cases hle : i ≤ t
      · rw [if_pos (by omega), if_pos hle, show t - i = (t - (i + 1)) + 1 by omega]
        simp
      · rw [if_neg (by omega), if_neg hle]

theorem Res.follows (r : Res) (h : H) : Follows (r.eff h) h.ow.length h.ro.length := ⟨⟨_, rfl⟩, ⟨_, rfl⟩⟩

/-- a function's contract, by its body -/
theorem SoundC.of {k : FuncId} {fn : Func} {c : Code} {args : List AV} {r : Res} {N : Nat} (hf : P.funcs[k]? = some fn) (hb : fn.body = some c) (hn : (fn.name != "runtime.NumGoroutine") = true) (hN : fn.ntmps = N) (hle : Nat.ble args.length N = true)
    (haw : AW P h.ow.length h.ro.length N c (FinQ P h.ow.length h.ro.length fn.results.toList r.val (h.app (r.eff h))) (num 0 args) h) : SoundC P k args h r := by
  refine ⟨by simp only [callable, hf, hn, hb, Option.isSome_some, Bool.and_self], fun ρ w cargs hargs hS hW => ?_⟩
  have hlen := hargs.length
  have hle' := Nat.le_of_ble_eq_true hle
  refine calls_of_wp hf hb (wp_mono (haw ρ w hW _ w ⟨ρ, ⟨rfl, ?_, fun t => ?_⟩, hS, Tr.refl _ _, hW⟩) ?_)
  · simp [hlen, hN]; omega
  · simp only [Fs.fr, look_num, Nat.zero_le, if_true, Nat.sub_zero]
    cases ha : args[t]? with
    | none => simp [VR]
    | some v =>
      obtain ⟨cv, h1, h2⟩ := hargs.get t v ha
      have hlt : t < cargs.length := (List.getElem?_eq_some_iff.mp h1).1
      have : (cargs.toArray ++ Array.replicate (fn.ntmps - cargs.toArray.size) undef).getD t undef = cv := by
        have h3 : (cargs.toArray ++ Array.replicate (fn.ntmps - cargs.toArray.size) undef)[t]? = some cv := by
          rw [Array.getElem?_append_left (by simpa using hlt)]; simpa using h1
        simp only [Array.getD_eq_getD_getElem?, h3, Option.getD_some]
      rw [this]; exact h2
  · rintro e a' w' ⟨fs', h', ⟨he, vs, so, sr, h1, h2, h3, h4, h5⟩, ρ', hF, hS', hTr, hW'⟩
    obtain ⟨cv, k1, k2⟩ := run_results hF hS' h1
    obtain ⟨q1, q2, q3⟩ := renamed hW hS' hTr h2 h3 h4
    have hpost : bodyPost P fn (PostC ρ w ((r.eff h).app h.get) r.val (h.ow.length + r.newo.length) (h.ro.length + r.newr.length)) .ret a' w' := by
      refine ⟨hF.1, cv, k1, cv, _, rfl, VR.rn _ _ _ h5 k2, ?_, q2, ?_⟩
      · rw [← H.app_get (Res.follows r h)]; exact q1
      · have e1 : (h.app (r.eff h)).ow.length = h.ow.length + r.newo.length := by simp [H.app, appO_length, Res.eff, num_length]
        have e2 : (h.app (r.eff h)).ro.length = h.ro.length + r.newr.length := by simp [H.app, Res.eff, num_length]
        rw [← e1, ← e2]; exact q3
    rcases he with rfl | rfl <;> exact hpost

end
end Go.Sym
