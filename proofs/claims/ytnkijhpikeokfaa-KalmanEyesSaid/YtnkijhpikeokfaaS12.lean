/- A call by its contract: what is proved of a call that sees its arguments under names of its own holds of it wherever it stands. -/
import Derived.Test.YtnkijhpikeokfaaS11
set_option linter.unusedSimpArgs false
set_option linter.unusedVariables false
namespace Go.Sym
open Go

mutual
def reV (τ : BId → BId × Nat) : AV → AV
  | .ptr b off => .ptr (τ b).1 ((τ b).2 + off)
  | .sl b off n z f => .sl (τ b).1 ((τ b).2 + off) n z f
  | .func k a b => .func k (if a.all AV.flat then a else reVs τ a) (if b.all AV.flat then b else reVs τ b)
  | .agg l => .agg (if l.all AV.flat then l else reVs τ l)
  | .tuple l => .tuple (if l.all AV.flat then l else reVs τ l)
  | .top => .top
  | .bool b => .bool b
  | .int k n => .int k n
  | .str s => .str s
  | .nilptr => .nilptr
  | .nilsl => .nilsl
  | .nilfunc => .nilfunc
def reVs (τ : BId → BId × Nat) : List AV → List AV
  | [] => []
  | a :: l => reV τ a :: reVs τ l
end

def reL (τ : BId → BId × Nat) (l : List AV) : List AV := if l.all AV.flat then l else reVs τ l

mutual
theorem RN.re (τ : BId → BId × Nat) : ∀ v : AV, RN true (fun b => some (τ b)) v (reV τ v)
  | .top => by simp [RN, reV]
  | .bool b => by simp [RN, reV]
  | .int k n => by simp [RN, reV]
  | .str s => by simp [RN, reV]
  | .nilptr => by simp [RN, reV]
  | .nilsl => by simp [RN, reV]
  | .nilfunc => by simp [RN, reV]
  | .ptr b off => by simp only [RN, reV]; exact ⟨_, _, rfl, rfl⟩
  | .sl b off n z f => by simp only [RN, reV]; exact ⟨_, _, _, rfl, rfl, id, fun _ => rfl⟩
  | .func k a b => by
    simp only [RN, reV]
    refine ⟨_, _, rfl, ?_, ?_⟩
    · split
      · rename_i h; exact RNs.flat h
      · exact RNs.re τ a
    · split
      · rename_i h; exact RNs.flat h
      · exact RNs.re τ b
  | .agg l => by
    simp only [RN, reV]
    refine ⟨_, rfl, ?_⟩
    split
    · rename_i h; exact RNs.flat h
    · exact RNs.re τ l
  | .tuple l => by
    simp only [RN, reV]
    refine ⟨_, rfl, ?_⟩
    split
    · rename_i h; exact RNs.flat h
    · exact RNs.re τ l
theorem RNs.re (τ : BId → BId × Nat) : ∀ l : List AV, RNs true (fun b => some (τ b)) l (reVs τ l)
  | [] => by simp [RNs, reVs]
  | a :: l => by simp only [RNs, reVs]; exact ⟨_, _, rfl, RN.re τ a, RNs.re τ l⟩
end

theorem RNs.reL (τ : BId → BId × Nat) (l : List AV) : RNs true (fun b => some (τ b)) l (reL τ l) := by
  unfold Sym.reL; split
  · rename_i h; exact RNs.flat h
  · exact RNs.re τ l

/-- may a function be entered? -/
def callable (P : Program) (k : FuncId) : Bool :=
  match P.funcs[k]? with
  | some fn => fn.name != "runtime.NumGoroutine" && fn.body.isSome
  | none => false

def Within (ρ : Rho) (no nr : Nat) : Prop := (∀ n, no ≤ n → ρ (.o n) = none) ∧ ∀ n, nr ≤ n → ρ (.r n) = none

def PostC (ρ : Rho) (w : World) (g' : Gh) (v : AV) (no nr : Nat) : Ending → World → Prop := fun e w' =>
  ∃ cv ρ', e = .returned cv ∧ VR ρ' v cv ∧ SR ρ' g' w' ∧ Tr ρ ρ' w w' ∧ Within ρ' no nr

/-- the contract of a call: over a heap that is written out -/
def SoundC (P : Program) (k : FuncId) (args : List AV) (h : H) (r : Res) : Prop :=
  callable P k = true ∧ ∀ (ρ : Rho) (w : World) (cargs : List Value), VRs ρ args cargs → SR ρ h.get w → Within ρ h.ow.length h.ro.length →
    Calls P k cargs.toArray w (PostC ρ w ((r.eff h).app h.get) r.val (h.ow.length + r.newo.length) (h.ro.length + r.newr.length))

def SoundO (P : Program) (O : Oracle) : Prop := ∀ k args h r, O k args h = some r → SoundC P k args h r

def CS.de (S : CS) (no nr : Nat) : BId → BId × Nat
  | .r j => match S.rs[j]? with
    | some p => p
    | none => (.r (nr + (j - S.rs.length)), 0)
  | .o j => match S.os[j]? with
    | some m => (.o m, 0)
    | none => (.o (no + (j - S.os.length)), 0)

def lensOK (g : Gh) : List Nat → List (List AV) → Bool
  | m :: os, c :: oc => (match g (.o m) with | some l => l.length == c.length | none => false) && lensOK g os oc
  | [], [] => true
  | _, _ => false

def CS.ok (S : CS) (g : Gh) : Bool := S.rs.all (fun p => match p.1 with | .o m => !S.os.contains m | .r _ => true) && lensOK g S.os S.oc

def rdsR : List (BId × Nat) → List (List AV) → List (BId × Nat × Nat)
  | (b, s) :: rs, c :: rc => (b, s, c.length) :: rdsR rs rc
  | _, _ => []

def rdsO : List Nat → List (List AV) → List (BId × Nat × Nat)
  | m :: os, c :: oc => (.o m, 0, c.length) :: rdsO os oc
  | _, _ => []

def CS.eff (S : CS) (r : Res) (no nr : Nat) : Eff where
  rd := rdsR S.rs S.rc ++ rdsO S.os S.oc
  wr := r.wr.map fun x => (S.os.getD x.1 0, x.2.1, reL (S.de no nr) x.2.2)
  kill := r.kill.map fun j => S.os.getD j 0
  newo := num no (r.newo.map (reL (S.de no nr)))
  newr := num nr (r.newr.map (reL (S.de no nr)))

def callE (O : Oracle) (k : FuncId) (args : List AV) (g : Gh) (no nr : Nat) : Option (AV × Eff) :=
  match canL (canV 6 g false) {} args with
  | none => none
  | some (args', S) =>
    if S.ok g then
      match O k args' ⟨S.rc, S.oc.map some⟩ with
      | none => none
      | some r => if (r.wr.all fun x => decide (x.1 < S.os.length)) && (r.kill.all fun j => decide (j < S.os.length)) then some (reV (S.de no nr) r.val, S.eff r no nr) else none
    else none

theorem lk_num : ∀ (L : List (List AV)) (m n : Nat), lk n (num m L) = if m ≤ n then L[n - m]? else none
  | [], m, n => by simp [num, lk]
  | a :: L, m, n => by
    simp only [num, lk]
    by_cases e : m = n
    · subst e; simp
    · simp only [e, if_false, lk_num L (m + 1) n]
      by_cases h : m ≤ n
      · have h1 : m + 1 ≤ n := by omega
        have h2 : n - m = (n - (m + 1)) + 1 := by omega
        simp [h, h1, h2]
      · have h1 : ¬ (m + 1 ≤ n) := by omega
        simp [h, h1]

theorem lensOK_get {g : Gh} : ∀ {os : List Nat} {oc : List (List AV)}, lensOK g os oc = true → ∀ (j m : Nat) (c : List AV), os[j]? = some m → oc[j]? = some c → ∀ l, g (.o m) = some l → l.length = c.length
  | [], [], _, j, m, c, h1, _, _, _ => by simp at h1
  | [], _ :: _, h, _, _, _, _, _, _, _ => by simp [lensOK] at h
  | _ :: _, [], h, _, _, _, _, _, _, _ => by simp [lensOK] at h
  | m' :: os, c' :: oc, h, j, m, c, h1, h2, l, hl => by
    simp only [lensOK, Bool.and_eq_true] at h
    cases j with
    | zero =>
      simp at h1 h2
      subst h1; subst h2
      rw [hl] at h
      simpa using h.1
    | succ j =>
      simp at h1 h2
      exact lensOK_get h.2 j m c h1 h2 l hl

theorem RNs.set {x : Bool} {σ : Ren} {l l' : List AV} (h : RNs x σ l l') (n : Nat) {v v' : AV} (hv : RN x σ v v') : RNs x σ (l.set n v) (l'.set n v') := by
  refine RNs.of_get (by simp [h.length]) fun i u hi => ?_
  rw [List.getElem?_set] at hi ⊢
  by_cases hn : n = i
  · subst hn
    simp only [if_true] at hi ⊢
    split at hi
    · rename_i hlt
      rw [if_pos (by rw [h.length]; exact hlt)]
      cases hi; exact ⟨v', rfl, hv⟩
    · cases hi
  · simp only [hn, if_false] at hi ⊢
    exact h.get i u hi

theorem RNs.patch {x : Bool} {σ : Ren} : ∀ {cs cs' : List AV} (_ : RNs x σ cs cs') {l l' : List AV} (_ : RNs x σ l l') (off : Nat), RNs x σ (patch l off cs) (patch l' off cs')
  | [], cs', h, l, l', hl, off => by simp only [RNs] at h; subst h; simpa [Sym.patch] using hl
  | c :: cs, cs', h, l, l', hl, off => by
    simp only [RNs] at h
    obtain ⟨d, ds, rfl, h1, h2⟩ := h
    simp only [Sym.patch]
    exact RNs.patch h2 (hl.set off h1) (off + 1)

section
variable {P : Program} {O : Oracle} {ρ : Rho} {g : Gh} {w : World}

theorem patchAll_re {S : CS} {no nr : Nat} (hn : S.os.Nodup) {j m : Nat} (hj : S.os[j]? = some m) : ∀ (wr : List (Nat × Nat × List AV)), (wr.all fun x => decide (x.1 < S.os.length)) = true → ∀ {l l' : List AV},
    RNs true (fun b => some (S.de no nr b)) l l' → RNs true (fun b => some (S.de no nr b)) (patchAll j wr l) (patchAll m (wr.map fun x => (S.os.getD x.1 0, x.2.1, reL (S.de no nr) x.2.2)) l')
  | [], _, l, l', h => by simpa [patchAll] using h
  | (i, off, cs) :: wr, hw, l, l', h => by
    simp only [List.all_cons, Bool.and_eq_true, decide_eq_true_eq] at hw
    simp only [List.map_cons, patchAll]
    refine patchAll_re hn hj wr hw.2 ?_
    by_cases e : i = j
    · subst e
      have : S.os.getD i 0 = m := by simp [List.getD, hj]
      simp only [this, if_true]
      exact RNs.patch (RNs.reL _ cs) h off
    · have : S.os.getD i 0 ≠ m := by
        intro e'
        have h1 : S.os[i]? = some m := by
          rw [List.getElem?_eq_getElem hw.1]
          simp only [List.getD, List.getElem?_eq_getElem hw.1, Option.getD_some] at e'
          rw [e']
        obtain ⟨p1, q1⟩ := List.getElem?_eq_some_iff.mp h1
        obtain ⟨p2, q2⟩ := List.getElem?_eq_some_iff.mp hj
        exact e ((List.getElem_inj hn).mp (q1.trans q2.symm))
      simp only [e, if_false, this]
      exact h

theorem patchAll_not {m : Nat} : ∀ (wr : List (Nat × Nat × List AV)), (∀ x ∈ wr, x.1 ≠ m) → ∀ l, patchAll m wr l = l
  | [], _, l => rfl
  | (i, off, cs) :: wr, h, l => by
    simp only [patchAll]
    rw [if_neg (h (i, off, cs) (by simp))]
    exact patchAll_not wr (fun x hx => h x (by simp [hx])) l

theorem comp_some {σ : Ren} {b : BId} {c : CB} (h : comp ρ σ b = some c) : ∃ b' s c', σ b = some (b', s) ∧ ρ b' = some c' ∧ c = { c' with sh := c'.sh + s } := by
  unfold comp at h
  simp only [Option.bind_eq_some_iff, Option.map_eq_some_iff] at h
  obtain ⟨⟨b', s⟩, h1, c', h2, h3⟩ := h
  exact ⟨b', s, c', h1, h2, h3.symm⟩

theorem SR.some (h : SR ρ g w) {b : BId} {l : List AV} (hb : g b = some l) : ∃ cb, ρ b = some cb := by
  exact h.has hb

/-- what the call sees stands to the world, too -/
theorem can_SR {S : CS} (hS : CSOK g S) (hok : S.ok g = true) (h : SR ρ g w) : SR (comp ρ S.ren) (H.get ⟨S.rc, S.oc.map some⟩) w ∧ Within (comp ρ S.ren) S.os.length S.rs.length := by
  simp only [CS.ok, Bool.and_eq_true] at hok
  have hro : ∀ (j : Nat) (b : BId) (s m : Nat), S.rs[j]? = some (b, s) → m ∈ S.os → b ≠ .o m := by
    intro j b s m hj hm e
    have := List.all_eq_true.mp hok.1 (b, s) (List.mem_of_getElem? hj)
    subst e
    simp at this
    exact this hm
  refine ⟨⟨fun b l hb hz => ?_, fun n b l l' hn hb hz hne cb cb' hc hc' => ?_, fun n cb hb => ?_, fun {b l} hb => ?_⟩, fun n hn => ?_, fun n hn => ?_⟩
  · cases b with
    | r j =>
      simp only [H.get] at hb
      have hlt := (List.getElem?_eq_some_iff.mp hb).1
      rw [← hS.rlen] at hlt
      obtain ⟨l0, k1, k0, k2⟩ := hS.rok j (S.rs[j]).1 (S.rs[j]).2 l (by simp [hlt]) hb
      obtain ⟨cb, cs, ty, fz, h1, h2, h3, h4, _⟩ := h.cells _ _ k1 (fun e => by
        cases l with
        | nil => exact absurd (hz rfl) (by simp [BId.own])
        | cons v r =>
          obtain ⟨v0, k3, _⟩ := k2 0 v rfl
          rw [e] at k3; simp at k3)
      refine ⟨{ cb with sh := cb.sh + (S.rs[j]).2 }, cs, ty, fz, by simp [comp, CS.ren, hlt, h1], h2, fun i v hi => ?_, by simp only; omega, fun ho => by simp [BId.own] at ho⟩
      obtain ⟨v0, k3, k4⟩ := k2 i v hi
      obtain ⟨cv, k5, k6⟩ := h3 _ _ k3
      exact ⟨cv, by rw [Nat.add_assoc]; exact k5, VR.rn _ _ _ k4 k6⟩
    | o j =>
      simp only [H.get, List.getElem?_map] at hb
      cases hoc : S.oc[j]? with
      | none => simp [hoc] at hb
      | some c =>
        simp [hoc] at hb
        subst hb
        have hlt := (List.getElem?_eq_some_iff.mp hoc).1
        rw [← hS.olen] at hlt
        obtain ⟨l0, k1, k0, k2⟩ := hS.ook j (S.os[j]) c (by simp [hlt]) hoc
        obtain ⟨cb, cs, ty, fz, h1, h2, h3, h4, h5⟩ := h.cells _ _ k1 (fun _ => rfl)
        refine ⟨{ cb with sh := cb.sh + 0 }, cs, ty, fz, by simp [comp, CS.ren, hlt, h1], h2, fun i v hi => ?_, by simp only; omega, fun _ => h5 rfl⟩
        obtain ⟨v0, k3, k4⟩ := k2 i v hi
        obtain ⟨cv, k5, k6⟩ := h3 _ _ k3
        exact ⟨cv, k5, VR.rn _ _ _ k4 k6⟩
  · -- apart
    obtain ⟨b1, s1, c1, e1, e2, rfl⟩ := comp_some hc
    obtain ⟨b2, s2, c2, e3, e4, rfl⟩ := comp_some hc'
    simp only [CS.ren, Option.map_eq_some_iff, Prod.mk.injEq] at e1
    obtain ⟨m, hm, rfl, rfl⟩ := e1
    simp only [H.get, List.getElem?_map] at hn
    have hmo := List.mem_of_getElem? hm
    cases hoc : S.oc[n]? with
    | none => simp [hoc] at hn
    | some c =>
      obtain ⟨lm, g1, _, _⟩ := hS.ook n m c hm hoc
      cases b with
      | r j =>
        simp only [CS.ren] at e3
        simp only [H.get] at hb
        obtain ⟨lb, g2, _, k2⟩ := hS.rok j b2 s2 l' e3 hb
        exact h.sep m b2 lm lb g1 g2 (fun e => by
          cases l' with
          | nil => exact absurd (hz rfl) (by simp [BId.own])
          | cons v r =>
            obtain ⟨v0, k3, _⟩ := k2 0 v rfl
            rw [e] at k3; simp at k3) (hro j b2 s2 m e3 hmo) c1 c2 e2 e4
      | o j =>
        simp only [CS.ren, Option.map_eq_some_iff, Prod.mk.injEq] at e3
        obtain ⟨m', hm', rfl, rfl⟩ := e3
        simp only [H.get, List.getElem?_map] at hb
        cases hoc' : S.oc[j]? with
        | none => simp [hoc'] at hb
        | some c' =>
          obtain ⟨lb, g2, _, _⟩ := hS.ook j m' c' hm' hoc'
          refine h.sep m (.o m') lm lb g1 g2 (fun _ => rfl) (fun e => hne ?_) c1 c2 e2 e4
          cases e
          obtain ⟨p1, q1⟩ := List.getElem?_eq_some_iff.mp hm
          obtain ⟨p2, q2⟩ := List.getElem?_eq_some_iff.mp hm'
          rw [(List.getElem_inj hS.nodup).mp (q2.trans q1.symm)]
  · obtain ⟨b1, s1, c1, e1, e2, rfl⟩ := comp_some hb
    simp only [CS.ren, Option.map_eq_some_iff, Prod.mk.injEq] at e1
    obtain ⟨m, hm, rfl, rfl⟩ := e1
    have := h.bound _ _ e2
    exact this
  · cases b with
    | r j =>
      simp only [H.get] at hb
      have hlt := (List.getElem?_eq_some_iff.mp hb).1
      rw [← hS.rlen] at hlt
      obtain ⟨l0, k1, _, _⟩ := hS.rok j (S.rs[j]).1 (S.rs[j]).2 l (by simp [hlt]) hb
      obtain ⟨cb, h1⟩ := h.has k1
      exact ⟨{ cb with sh := cb.sh + (S.rs[j]).2 }, by simp [comp, CS.ren, hlt, h1]⟩
    | o j =>
      simp only [H.get, List.getElem?_map] at hb
      cases hoc : S.oc[j]? with
      | none => simp [hoc] at hb
      | some c =>
        have hlt := (List.getElem?_eq_some_iff.mp hoc).1
        rw [← hS.olen] at hlt
        obtain ⟨l0, k1, _, _⟩ := hS.ook j (S.os[j]) c (by simp [hlt]) hoc
        obtain ⟨cb, h1⟩ := h.has k1
        exact ⟨{ cb with sh := cb.sh + 0 }, by simp [comp, CS.ren, hlt, h1]⟩
  · simp [comp, CS.ren, hn]
  · simp [comp, CS.ren, hn]

end
end Go.Sym
