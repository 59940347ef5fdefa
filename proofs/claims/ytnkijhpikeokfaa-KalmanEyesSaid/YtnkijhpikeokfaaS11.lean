/- Names changed for one another: an abstract value under other names; what a call sees (its arguments, and what they reach, under names of its own). -/
import Derived.Test.YtnkijhpikeokfaaS10
set_option linter.unusedSimpArgs false
set_option linter.unusedVariables false
namespace Go.Sym
open Go

abbrev Ren := BId → Option (BId × Nat)

mutual
/-- the first one under names of its own; x: all is kept -/
def RN (x : Bool) (σ : Ren) : AV → AV → Prop
  | .top, v => x = true → v = .top
  | .bool b, v => v = .bool b
  | .int k n, v => v = .int k n
  | .str s, v => v = .str s
  | .nilptr, v => v = .nilptr
  | .ptr b off, v => ∃ b' s, σ b = some (b', s) ∧ v = .ptr b' (s + off)
  | .nilsl, v => v = .nilsl
  | .sl b off n z f, v => ∃ b' s f', σ b = some (b', s) ∧ v = .sl b' (s + off) n z f' ∧ (f = true → f' = true) ∧ (x = true → f' = f)
  | .nilfunc, v => v = .nilfunc
  | .func k a b, v => ∃ a' b', v = .func k a' b' ∧ RNs x σ a a' ∧ RNs x σ b b'
  | .agg l, v => ∃ l', v = .agg l' ∧ RNs x σ l l'
  | .tuple l, v => ∃ l', v = .tuple l' ∧ RNs x σ l l'
def RNs (x : Bool) (σ : Ren) : List AV → List AV → Prop
  | [], l => l = []
  | a :: as, l => ∃ c cs, l = c :: cs ∧ RN x σ a c ∧ RNs x σ as cs
end

def Ren.le (σ τ : Ren) : Prop := ∀ b p, σ b = some p → τ b = some p

mutual
theorem RN.ext {x : Bool} {σ τ : Ren} (h : σ.le τ) : ∀ (a v : AV), RN x σ a v → RN x τ a v
  | .top, v, hv => by simpa [RN] using hv
  | .bool b, v, hv => by simpa [RN] using hv
  | .int k n, v, hv => by simpa [RN] using hv
  | .str s, v, hv => by simpa [RN] using hv
  | .nilptr, v, hv => by simpa [RN] using hv
  | .nilsl, v, hv => by simpa [RN] using hv
  | .nilfunc, v, hv => by simpa [RN] using hv
  | .ptr b off, v, hv => by
    simp only [RN] at hv ⊢
    obtain ⟨b', s, h1, h2⟩ := hv
    exact ⟨b', s, h _ _ h1, h2⟩
  | .sl b off n z f, v, hv => by
    simp only [RN] at hv ⊢
    obtain ⟨b', s, f', h1, h2⟩ := hv
    exact ⟨b', s, f', h _ _ h1, h2⟩
  | .func k a b, v, hv => by
    simp only [RN] at hv ⊢
    obtain ⟨a', b', e, h1, h2⟩ := hv
    exact ⟨a', b', e, RNs.ext h a a' h1, RNs.ext h b b' h2⟩
  | .agg l, v, hv => by
    simp only [RN] at hv ⊢
    obtain ⟨l', e, h1⟩ := hv
    exact ⟨l', e, RNs.ext h l l' h1⟩
  | .tuple l, v, hv => by
    simp only [RN] at hv ⊢
    obtain ⟨l', e, h1⟩ := hv
    exact ⟨l', e, RNs.ext h l l' h1⟩
theorem RNs.ext {x : Bool} {σ τ : Ren} (h : σ.le τ) : ∀ (l v : List AV), RNs x σ l v → RNs x τ l v
  | [], v, hv => by simpa [RNs] using hv
  | a :: as, v, hv => by
    simp only [RNs] at hv ⊢
    obtain ⟨c, cs, e, h1, h2⟩ := hv
    exact ⟨c, cs, e, RN.ext h a c h1, RNs.ext h as cs h2⟩
end

/-- where a block under its own name lies -/
def comp (ρ : Rho) (σ : Ren) : Rho := fun b => (σ b).bind fun p => (ρ p.1).map fun cb => { cb with sh := cb.sh + p.2 }

mutual
theorem VR.rn {x : Bool} {σ : Ren} {ρ : Rho} : ∀ (a v : AV) (c : Value), RN x σ a v → VR ρ v c → VR (comp ρ σ) a c
  | .top, v, c, _, _ => by simp [VR]
  | .bool b, v, c, h, hv => by simp only [RN] at h; subst h; simpa [VR] using hv
  | .int k n, v, c, h, hv => by simp only [RN] at h; subst h; simpa [VR] using hv
  | .str s, v, c, h, hv => by simp only [RN] at h; subst h; simpa [VR] using hv
  | .nilptr, v, c, h, hv => by simp only [RN] at h; subst h; simpa [VR] using hv
  | .nilsl, v, c, h, hv => by simp only [RN] at h; subst h; simpa [VR] using hv
  | .nilfunc, v, c, h, hv => by simp only [RN] at h; subst h; simpa [VR] using hv
  | .ptr b off, v, c, h, hv => by
    simp only [RN] at h
    obtain ⟨b', s, h1, rfl⟩ := h
    simp only [VR] at hv ⊢
    obtain ⟨cb, h2, rfl⟩ := hv
    exact ⟨{ cb with sh := cb.sh + s }, by simp [comp, h1, h2], by simp [Nat.add_assoc]⟩
  | .sl b off n z f, v, c, h, hv => by
    simp only [RN] at h
    obtain ⟨b', s, f', h1, rfl, h3, _⟩ := h
    simp only [VR] at hv ⊢
    rcases hv with ⟨cb, y, cap, h2, rfl, h4, h5, h6, h7⟩ | hv
    case inr => exact .inr hv
    exact .inl ⟨{ cb with sh := cb.sh + s }, y, cap, by simp [comp, h1, h2], rfl, fun hn => by rw [h4 hn]; simp [Nat.add_assoc], h5, fun hf => h6 (h3 hf), h7⟩
  | .func k a b, v, c, h, hv => by
    simp only [RN] at h
    obtain ⟨a', b', rfl, h1, h2⟩ := h
    simp only [VR] at hv ⊢
    obtain ⟨p, q, e, h3, h4⟩ := hv
    exact ⟨p, q, e, VRs.rn a a' p h1 h3, VRs.rn b b' q h2 h4⟩
  | .agg l, v, c, h, hv => by
    simp only [RN] at h
    obtain ⟨l', rfl, h1⟩ := h
    simp only [VR] at hv ⊢
    obtain ⟨p, e, h3⟩ := hv
    exact ⟨p, e, VRs.rn l l' p h1 h3⟩
  | .tuple l, v, c, h, hv => by
    simp only [RN] at h
    obtain ⟨l', rfl, h1⟩ := h
    simp only [VR] at hv ⊢
    obtain ⟨p, e, h3⟩ := hv
    exact ⟨p, e, VRs.rn l l' p h1 h3⟩
theorem VRs.rn {x : Bool} {σ : Ren} {ρ : Rho} : ∀ (l v : List AV) (c : List Value), RNs x σ l v → VRs ρ v c → VRs (comp ρ σ) l c
  | [], v, c, h, hv => by simp only [RNs] at h; subst h; simpa [VRs] using hv
  | a :: as, v, c, h, hv => by
    simp only [RNs] at h
    obtain ⟨d, ds, rfl, h1, h2⟩ := h
    simp only [VRs] at hv ⊢
    obtain ⟨e, es, rfl, h3, h4⟩ := hv
    exact ⟨e, es, rfl, VR.rn a d e h1 h3, VRs.rn as ds es h2 h4⟩
end

/-- a value under its own names, told under the old ones -/
def Back (ρ0 ρ' : Rho) (b b' : BId) (s : Nat) : Prop := ∀ c, ρ0 b = some c → ∃ c', ρ' b' = some c' ∧ c'.blk = c.blk ∧ c'.sh + s = c.sh ∧ c'.sz = c.sz

mutual
theorem VR.nr {σ : Ren} {ρ0 ρ' : Rho} (hb : ∀ b b' s, σ b = some (b', s) → Back ρ0 ρ' b b' s) : ∀ (a v : AV) (c : Value), RN true σ a v → VR ρ0 a c → VR ρ' v c
  | .top, v, c, h, _ => by simp [RN] at h; rw [h]; simp [VR]
  | .bool b, v, c, h, hv => by simp only [RN] at h; subst h; simpa [VR] using hv
  | .int k n, v, c, h, hv => by simp only [RN] at h; subst h; simpa [VR] using hv
  | .str s, v, c, h, hv => by simp only [RN] at h; subst h; simpa [VR] using hv
  | .nilptr, v, c, h, hv => by simp only [RN] at h; subst h; simpa [VR] using hv
  | .nilsl, v, c, h, hv => by simp only [RN] at h; subst h; simpa [VR] using hv
  | .nilfunc, v, c, h, hv => by simp only [RN] at h; subst h; simpa [VR] using hv
  | .ptr b off, v, c, h, hv => by
    simp only [RN] at h
    obtain ⟨b', s, h1, rfl⟩ := h
    simp only [VR] at hv ⊢
    obtain ⟨cb, h2, rfl⟩ := hv
    obtain ⟨c', h3, h4, h5, h6⟩ := hb _ _ _ h1 cb h2
    exact ⟨c', h3, by rw [h4, ← h5, Nat.add_assoc]⟩
  | .sl b off n z f, v, c, h, hv => by
    simp only [RN] at h
    obtain ⟨b', s, f', h1, rfl, _, hf⟩ := h
    have hf := hf trivial
    subst hf
    simp only [VR] at hv ⊢
    rcases hv with ⟨cb, y, cap, h2, rfl, k4, k5, k6, k7⟩ | hv
    case inr => exact .inr hv
    obtain ⟨c', h3, h4, h5, h6⟩ := hb _ _ _ h1 cb h2
    exact .inl ⟨c', y, cap, h3, by rw [h4], fun hn => by rw [k4 hn, ← h5, Nat.add_assoc], k5, k6, by rw [h6]; exact k7⟩
  | .func k a b, v, c, h, hv => by
    simp only [RN] at h
    obtain ⟨a', b', rfl, h1, h2⟩ := h
    simp only [VR] at hv ⊢
    obtain ⟨p, q, e, h3, h4⟩ := hv
    exact ⟨p, q, e, VRs.nr hb a a' p h1 h3, VRs.nr hb b b' q h2 h4⟩
  | .agg l, v, c, h, hv => by
    simp only [RN] at h
    obtain ⟨l', rfl, h1⟩ := h
    simp only [VR] at hv ⊢
    obtain ⟨p, e, h3⟩ := hv
    exact ⟨p, e, VRs.nr hb l l' p h1 h3⟩
  | .tuple l, v, c, h, hv => by
    simp only [RN] at h
    obtain ⟨l', rfl, h1⟩ := h
    simp only [VR] at hv ⊢
    obtain ⟨p, e, h3⟩ := hv
    exact ⟨p, e, VRs.nr hb l l' p h1 h3⟩
theorem VRs.nr {σ : Ren} {ρ0 ρ' : Rho} (hb : ∀ b b' s, σ b = some (b', s) → Back ρ0 ρ' b b' s) : ∀ (l v : List AV) (c : List Value), RNs true σ l v → VRs ρ0 l c → VRs ρ' v c
  | [], v, c, h, hv => by simp only [RNs] at h; subst h; simpa [VRs] using hv
  | a :: as, v, c, h, hv => by
    simp only [RNs] at h
    obtain ⟨d, ds, rfl, h1, h2⟩ := h
    simp only [VRs] at hv ⊢
    obtain ⟨e, es, rfl, h3, h4⟩ := hv
    exact ⟨e, es, rfl, VR.nr hb a d e h1 h3, VRs.nr hb as ds es h2 h4⟩
end

/-- a heap written out: rows that are read, rows of one's own (none: over) -/
structure H where
  ro : List (List AV) := []
  ow : List (Option (List AV)) := []

def H.get (h : H) : Gh
  | .r n => h.ro[n]?
  | .o n => (h.ow[n]?).getD none

/-- what a call gives: its value, cells of its own rows written, rows over, new rows -/
structure Res where
  val : AV
  wr : List (Nat × Nat × List AV) := []
  kill : List Nat := []
  newo : List (List AV) := []
  newr : List (List AV) := []

def num {α : Type} : Nat → List α → List (Nat × α)
  | _, [] => []
  | n, a :: l => (n, a) :: num (n + 1) l

def Res.eff (r : Res) (h : H) : Eff := { wr := r.wr, kill := r.kill, newo := num h.ow.length r.newo, newr := num h.ro.length r.newr }

abbrev Oracle := FuncId → List AV → H → Option Res

/-- what a call sees: which rows it reads, which are its own -/
structure CS where
  rs : List (BId × Nat) := []
  rc : List (List AV) := []
  os : List Nat := []
  oc : List (List AV) := []

def AV.flat : AV → Bool
  | .ptr .. | .sl .. | .func .. | .agg _ | .tuple _ => false
  | _ => true

def idx (m : Nat) : List Nat → Option Nat
  | [] => none
  | a :: l => if a = m then some 0 else (idx m l).map (· + 1)

def window (l : List AV) (off n : Nat) : List AV := if off = 0 ∧ n = l.length then l else (l.drop off).take n

theorem window_eq (l : List AV) (off n : Nat) : window l off n = (l.drop off).take n := by
  unfold window; split
  · rename_i h; rw [h.1, h.2]; simp
  · rfl

def canVs (cv : CS → AV → Option (AV × CS)) : CS → List AV → Option (List AV × CS)
  | S, [] => some ([], S)
  | S, v :: vs =>
    match cv S v with
    | none => none
    | some (v', S1) =>
      match canVs cv S1 vs with
      | none => none
      | some (vs', S2) => some (v' :: vs', S2)

def canL (cv : CS → AV → Option (AV × CS)) (S : CS) (l : List AV) : Option (List AV × CS) := if l.all AV.flat then some (l, S) else canVs cv S l

/-- a row of one's own, under its name in the call -/
def canO (cl : CS → List AV → Option (List AV × CS)) (g : Gh) (S : CS) (m : Nat) : Option (Nat × CS) :=
  match idx m S.os with
  | some j => some (j, S)
  | none =>
    match g (.o m) with
    | none => none
    | some l =>
      match cl { S with os := S.os ++ [m], oc := S.oc ++ [[]] } l with
      | none => none
      | some (l', S2) => some (S.os.length, { S2 with oc := S2.oc.set S.os.length l' })

def ownIf (c : Bool) : BId → Option Nat
  | .o m => if c then some m else none
  | .r _ => none

theorem ownIf_some {c : Bool} {b : BId} {m : Nat} (h : ownIf c b = some m) : b = .o m := by
  cases b with
  | r n => simp [ownIf] at h
  | o n => simp [ownIf] at h; rw [h.2]

def canV : Nat → Gh → Bool → CS → AV → Option (AV × CS)
  | 0, _, _, _, _ => none
  | f + 1, g, deep, S, v =>
    match v with
    | .ptr (.o m) off => (canO (canL (canV f g true)) g S m).map fun p => (.ptr (.o p.1) off, p.2)
    | .ptr (.r m) off =>
      match g (.r m) with
      | none => none
      | some l => (canL (canV f g false) S l).map fun p => (.ptr (.r p.2.rs.length) off, { p.2 with rs := p.2.rs ++ [(.r m, 0)], rc := p.2.rc ++ [p.1] })
    | .sl b off n z full =>
      match ownIf (deep && !full) b with
      | some m => (canO (canL (canV f g true)) g S m).map fun p => (.sl (.o p.1) off n z full, p.2)
      | none =>
        match g b with
        | none => none
        | some l =>
          if off + n * z ≤ l.length then
            (canL (canV f g false) S (window l off (n * z))).map fun p => (.sl (.r p.2.rs.length) 0 n z full, { p.2 with rs := p.2.rs ++ [(b, off)], rc := p.2.rc ++ [p.1] })
          else none
    | .func k a b =>
      match canL (canV f g deep) S a with
      | none => none
      | some (a', S1) => (canL (canV f g deep) S1 b).map fun p => (.func k a' p.1, p.2)
    | .agg l => (canL (canV f g deep) S l).map fun p => (.agg p.1, p.2)
    | .tuple l => (canL (canV f g deep) S l).map fun p => (.tuple p.1, p.2)
    | v => some (v, S)

def CS.ren (S : CS) : Ren
  | .r j => S.rs[j]?
  | .o j => (S.os[j]?).map fun m => (.o m, 0)

def CS.le (S S' : CS) : Prop := (∃ x, S'.rs = S.rs ++ x) ∧ (∃ x, S'.os = S.os ++ x) ∧ (∃ x, S'.rc = S.rc ++ x)

theorem CS.le_refl (S : CS) : S.le S := ⟨⟨[], by simp⟩, ⟨[], by simp⟩, ⟨[], by simp⟩⟩
theorem CS.le_trans {S S' S'' : CS} (h : S.le S') (k : S'.le S'') : S.le S'' := by
  obtain ⟨⟨x, hx⟩, ⟨y, hy⟩, ⟨z, hz⟩⟩ := h
  obtain ⟨⟨x', hx'⟩, ⟨y', hy'⟩, ⟨z', hz'⟩⟩ := k
  exact ⟨⟨x ++ x', by rw [hx', hx, List.append_assoc]⟩, ⟨y ++ y', by rw [hy', hy, List.append_assoc]⟩, ⟨z ++ z', by rw [hz', hz, List.append_assoc]⟩⟩

theorem getElem?_app {α : Type} {l x : List α} {i : Nat} {a : α} (h : l[i]? = some a) : (l ++ x)[i]? = some a := by
  rw [List.getElem?_append_left (List.getElem?_eq_some_iff.mp h).1]; exact h

theorem CS.le_ren {S S' : CS} (h : S.le S') : S.ren.le S'.ren := by
  obtain ⟨⟨x, hx⟩, ⟨y, hy⟩, _⟩ := h
  intro b p hp
  cases b with
  | r j => simp only [CS.ren] at hp ⊢; rw [hx]; exact getElem?_app hp
  | o j =>
    simp only [CS.ren, Option.map_eq_some_iff] at hp ⊢
    obtain ⟨m, hm, rfl⟩ := hp
    exact ⟨m, by rw [hy]; exact getElem?_app hm, rfl⟩

structure CSOK (g : Gh) (S : CS) : Prop where
  rlen : S.rs.length = S.rc.length
  olen : S.os.length = S.oc.length
  rok : ∀ (j : Nat) (b : BId) (s : Nat) (c : List AV), S.rs[j]? = some (b, s) → S.rc[j]? = some c → ∃ l, g b = some l ∧ s + c.length ≤ l.length ∧ ∀ (i : Nat) v', c[i]? = some v' → ∃ v, l[s + i]? = some v ∧ RN true S.ren v' v
  ook : ∀ (j m : Nat) (c : List AV), S.os[j]? = some m → S.oc[j]? = some c → ∃ l, g (.o m) = some l ∧ c.length ≤ l.length ∧ ∀ (i : Nat) v', c[i]? = some v' → ∃ v, l[i]? = some v ∧ RN true S.ren v' v
  nodup : S.os.Nodup

theorem idx_some : ∀ {l : List Nat} {m j : Nat}, idx m l = some j → l[j]? = some m
  | [], m, j, h => by simp [idx] at h
  | a :: l, m, j, h => by
    simp only [idx] at h
    split at h
    · rename_i e; cases h; simp [e]
    · simp only [Option.map_eq_some_iff] at h
      obtain ⟨i, hi, rfl⟩ := h
      simpa using idx_some hi

theorem idx_none : ∀ {l : List Nat} {m : Nat}, idx m l = none → m ∉ l
  | [], m, _ => by simp
  | a :: l, m, h => by
    simp only [idx] at h
    split at h
    · cases h
    · rename_i e
      simp only [Option.map_eq_none_iff] at h
      simp only [List.mem_cons, not_or]
      exact ⟨fun e' => e e'.symm, idx_none h⟩

theorem RN.flat {σ : Ren} {x : Bool} : ∀ {a : AV}, a.flat = true → RN x σ a a := by
  intro a h
  cases a <;> simp [AV.flat] at h <;> simp [RN]

theorem RNs.of_get {x : Bool} {σ : Ren} : ∀ {l l' : List AV}, l'.length = l.length → (∀ (i : Nat) (v : AV), l[i]? = some v → ∃ cv, l'[i]? = some cv ∧ RN x σ v cv) → RNs x σ l l'
  | [], l', hl, _ => by simp only [RNs]; simpa using hl
  | a :: as, [], hl, _ => by simp at hl
  | a :: as, c :: cs, hl, h => by
    simp only [RNs]
    refine ⟨c, cs, rfl, ?_, RNs.of_get (by simpa using hl) fun i v hi => by simpa using h (i + 1) v (by simpa using hi)⟩
    obtain ⟨cv, hcv, hv⟩ := h 0 a rfl
    simp at hcv; subst hcv; exact hv

theorem RNs.length {x : Bool} {σ : Ren} : ∀ {l l' : List AV}, RNs x σ l l' → l'.length = l.length
  | [], l', h => by simp only [RNs] at h; simp [h]
  | a :: as, l', h => by
    simp only [RNs] at h
    obtain ⟨c, cs, rfl, _, h2⟩ := h
    simp [RNs.length h2]

theorem RNs.get {x : Bool} {σ : Ren} : ∀ {l l' : List AV} (_ : RNs x σ l l') (i : Nat) (v : AV), l[i]? = some v → ∃ cv, l'[i]? = some cv ∧ RN x σ v cv
  | [], l', h, i, v, hi => by simp at hi
  | a :: as, l', h, i, v, hi => by
    simp only [RNs] at h
    obtain ⟨c, cs, rfl, h1, h2⟩ := h
    cases i with
    | zero => simp at hi; subst hi; exact ⟨c, rfl, h1⟩
    | succ i => simp at hi; simpa using RNs.get h2 i v hi

theorem RNs.flat {x : Bool} {σ : Ren} {l : List AV} (h : l.all AV.flat = true) : RNs x σ l l := by
  refine RNs.of_get rfl fun i v hi => ⟨v, hi, RN.flat ?_⟩
  exact List.all_eq_true.mp h v (List.mem_of_getElem? hi)

/-- how a step of the canonical walk is right -/
def CanOK (g : Gh) (S S' : CS) : Prop := CSOK g S → CSOK g S' ∧ S.le S'

theorem canVs_ok {g : Gh} {cv : CS → AV → Option (AV × CS)} (hcv : ∀ S v v' S', cv S v = some (v', S') → CSOK g S → CSOK g S' ∧ S.le S' ∧ RN true S'.ren v' v) :
    ∀ (l : List AV) (S S' : CS) (l' : List AV), canVs cv S l = some (l', S') → CSOK g S → CSOK g S' ∧ S.le S' ∧ RNs true S'.ren l' l
  | [], S, S', l', h, hS => by
    simp only [canVs, Option.some.injEq, Prod.mk.injEq] at h
    obtain ⟨rfl, rfl⟩ := h
    exact ⟨hS, CS.le_refl _, by simp [RNs]⟩
  | v :: l, S, S', l', h, hS => by
    simp only [canVs] at h
    split at h
    · cases h
    · rename_i v' S1 h1
      split at h
      · cases h
      · rename_i vs' S2 h2
        cases h
        obtain ⟨k1, k2, k3⟩ := hcv _ _ _ _ h1 hS
        obtain ⟨k4, k5, k6⟩ := canVs_ok hcv l S1 S' vs' h2 k1
        exact ⟨k4, CS.le_trans k2 k5, by simp only [RNs]; exact ⟨v, l, rfl, RN.ext (CS.le_ren k5) _ _ k3, k6⟩⟩

theorem canL_ok {g : Gh} {cv : CS → AV → Option (AV × CS)} (hcv : ∀ S v v' S', cv S v = some (v', S') → CSOK g S → CSOK g S' ∧ S.le S' ∧ RN true S'.ren v' v)
    {l : List AV} {S S' : CS} {l' : List AV} (h : canL cv S l = some (l', S')) (hS : CSOK g S) : CSOK g S' ∧ S.le S' ∧ RNs true S'.ren l' l := by
  unfold canL at h
  split at h
  · rename_i hf
    cases h
    exact ⟨hS, CS.le_refl _, RNs.flat hf⟩
  · exact canVs_ok hcv l S S' l' h hS

theorem CSOK.read {g : Gh} {S : CS} (h : CSOK g S) {b : BId} {s : Nat} {c l : List AV} (hb : g b = some l) (hl : s + c.length ≤ l.length) (hc : ∀ (i : Nat) v', c[i]? = some v' → ∃ v, l[s + i]? = some v ∧ RN true S.ren v' v) :
    CSOK g { S with rs := S.rs ++ [(b, s)], rc := S.rc ++ [c] } ∧ S.le { S with rs := S.rs ++ [(b, s)], rc := S.rc ++ [c] } := by
  have hle : S.le { S with rs := S.rs ++ [(b, s)], rc := S.rc ++ [c] } := ⟨⟨_, rfl⟩, ⟨[], by simp⟩, ⟨_, rfl⟩⟩
  refine ⟨⟨by simp [h.rlen], h.olen, fun j b' s' c' h1 h2 => ?_, fun j m c' h1 h2 => ?_, h.nodup⟩, hle⟩
  · simp only at h1 h2
    by_cases hj : j < S.rs.length
    · rw [List.getElem?_append_left hj] at h1
      rw [List.getElem?_append_left (by rw [← h.rlen]; exact hj)] at h2
      obtain ⟨l', k1, k0, k2⟩ := h.rok j b' s' c' h1 h2
      exact ⟨l', k1, k0, fun i v' hi => by
        obtain ⟨v, k3, k4⟩ := k2 i v' hi
        exact ⟨v, k3, RN.ext (CS.le_ren hle) _ _ k4⟩⟩
    · rw [List.getElem?_append_right (by omega)] at h1
      rw [List.getElem?_append_right (by rw [← h.rlen]; omega), ← h.rlen] at h2
      by_cases e : j - S.rs.length = 0
      · rw [e] at h1 h2
        simp only [List.getElem?_cons_zero, Option.some.injEq, Prod.mk.injEq] at h1 h2
        obtain ⟨rfl, rfl⟩ := h1
        subst h2
        exact ⟨l, hb, hl, fun i v' hi => by
          obtain ⟨v, k3, k4⟩ := hc i v' hi
          exact ⟨v, k3, RN.ext (CS.le_ren hle) _ _ k4⟩⟩
      · rw [List.getElem?_eq_none (by simp; omega)] at h1
        cases h1
  · obtain ⟨l', k1, k0, k2⟩ := h.ook j m c' h1 h2
    exact ⟨l', k1, k0, fun i v' hi => by
      obtain ⟨v, k3, k4⟩ := k2 i v' hi
      exact ⟨v, k3, RN.ext (CS.le_ren hle) _ _ k4⟩⟩

theorem canO_ok {g : Gh} {cl : CS → List AV → Option (List AV × CS)} (hcl : ∀ S l l' S', cl S l = some (l', S') → CSOK g S → CSOK g S' ∧ S.le S' ∧ RNs true S'.ren l' l)
    {S S' : CS} {m j : Nat} (h : canO cl g S m = some (j, S')) (hS : CSOK g S) : CSOK g S' ∧ S.le S' ∧ S'.ren (.o j) = some (.o m, 0) := by
  unfold canO at h
  split at h
  · rename_i j' hj
    cases h
    exact ⟨hS, CS.le_refl _, by simp [CS.ren, idx_some hj]⟩
  · rename_i hj
    split at h
    · cases h
    · rename_i l hl
      split at h
      · cases h
      · rename_i l' S2 h2
        cases h
        have hle1 : S.le { S with os := S.os ++ [m], oc := S.oc ++ [[]] } := ⟨⟨[], by simp⟩, ⟨_, rfl⟩, ⟨[], by simp⟩⟩
        have hS1 : CSOK g { S with os := S.os ++ [m], oc := S.oc ++ [[]] } := by
          refine ⟨hS.rlen, by simp [hS.olen], fun j b s c h1 h2 => ?_, fun j m' c h1 h2 => ?_, ?_⟩
          · obtain ⟨l', k1, k0, k2⟩ := hS.rok j b s c h1 h2
            exact ⟨l', k1, k0, fun i v' hi => by
              obtain ⟨v, k3, k4⟩ := k2 i v' hi
              exact ⟨v, k3, RN.ext (CS.le_ren hle1) _ _ k4⟩⟩
          · simp only at h1 h2
            by_cases hj : j < S.os.length
            · rw [List.getElem?_append_left hj] at h1
              rw [List.getElem?_append_left (by rw [← hS.olen]; exact hj)] at h2
              obtain ⟨l', k1, k0, k2⟩ := hS.ook j m' c h1 h2
              exact ⟨l', k1, k0, fun i v' hi => by
                obtain ⟨v, k3, k4⟩ := k2 i v' hi
                exact ⟨v, k3, RN.ext (CS.le_ren hle1) _ _ k4⟩⟩
            · rw [List.getElem?_append_right (by omega)] at h1
              rw [List.getElem?_append_right (by rw [← hS.olen]; omega), ← hS.olen] at h2
              by_cases e : j - S.os.length = 0
              · rw [e] at h1 h2
                simp only [List.getElem?_cons_zero, Option.some.injEq] at h1 h2
                subst h1; subst h2
                exact ⟨l, hl, by simp, fun i v' hi => by simp at hi⟩
              · rw [List.getElem?_eq_none (by simp; omega)] at h1
                cases h1
          · rw [List.nodup_append]
            refine ⟨hS.nodup, by simp, fun a ha b hb e => ?_⟩
            simp only [List.mem_singleton] at hb
            subst hb; subst e
            exact idx_none hj ha
        obtain ⟨k1, k2, k3⟩ := hcl _ _ _ _ h2 hS1
        have hren : ({ S2 with oc := S2.oc.set S.os.length l' } : CS).ren = S2.ren := by
          funext b; cases b <;> rfl
        have hosj : S2.os[S.os.length]? = some m := by
          obtain ⟨_, ⟨x, hx⟩, _⟩ := k2
          rw [hx]
          exact getElem?_app (by simp)
        refine ⟨⟨k1.rlen, by simpa using k1.olen, fun j b s c h1 h2' => ?_, fun j m' c h1 h2' => ?_, k1.nodup⟩, CS.le_trans hle1 k2, by rw [hren]; simp [CS.ren, hosj]⟩
        · rw [hren]; exact k1.rok j b s c h1 h2'
        · rw [hren]
          simp only at h1 h2'
          rw [List.getElem?_set] at h2'
          split at h2'
          · rename_i e
            split at h2'
            · cases h2'
              subst e
              rw [hosj] at h1
              cases h1
              exact ⟨l, hl, by rw [k3.length]; exact Nat.le_refl _, fun i v' hi => k3.get i v' hi⟩
            · cases h2'
          · exact k1.ook j m' c h1 h2'

theorem canV_ok {g : Gh} : ∀ (f : Nat) (deep : Bool) (S : CS) (v v' : AV) (S' : CS), canV f g deep S v = some (v', S') → CSOK g S → CSOK g S' ∧ S.le S' ∧ RN true S'.ren v' v
  | 0, deep, S, v, v', S', h, _ => by simp [canV] at h
  | f + 1, deep, S, v, v', S', h, hS => by
    have ihL : ∀ (deep : Bool) (S : CS) (l l' : List AV) (S' : CS), canL (canV f g deep) S l = some (l', S') → CSOK g S → CSOK g S' ∧ S.le S' ∧ RNs true S'.ren l' l :=
      fun deep S l l' S' h hS => canL_ok (fun S v v' S' => canV_ok f deep S v v' S') h hS
    have done : ∀ u : AV, u.flat = true → some (u, S) = some (v', S') → CSOK g S' ∧ S.le S' ∧ RN true S'.ren v' u := fun u hu e => by
      cases e; exact ⟨hS, CS.le_refl _, RN.flat hu⟩
    cases v with
    | top => exact done _ rfl h
    | bool b => exact done _ rfl h
    | int k n => exact done _ rfl h
    | str s => exact done _ rfl h
    | nilptr => exact done _ rfl h
    | nilsl => exact done _ rfl h
    | nilfunc => exact done _ rfl h
    | ptr b off =>
      cases b with
      | o m =>
        simp only [canV, Option.map_eq_some_iff, Prod.mk.injEq] at h
        obtain ⟨⟨j, S2⟩, h1, rfl, rfl⟩ := h
        obtain ⟨k1, k2, k3⟩ := canO_ok (fun S l l' S' => ihL true S l l' S') h1 hS
        exact ⟨k1, k2, by simp only [RN]; exact ⟨_, _, k3, by simp⟩⟩
      | r m =>
        simp only [canV] at h
        split at h
        · cases h
        · rename_i l hl
          simp only [Option.map_eq_some_iff, Prod.mk.injEq] at h
          obtain ⟨⟨l', S2⟩, h1, rfl, rfl⟩ := h
          obtain ⟨k1, k2, k3⟩ := ihL false _ _ _ _ h1 hS
          obtain ⟨k4, k5⟩ := k1.read (b := .r m) (s := 0) (c := l') hl (by rw [← k3.length]; omega) (fun i v' hi => by rw [Nat.zero_add]; exact k3.get i v' hi)
          exact ⟨k4, CS.le_trans k2 k5, by simp only [RN, CS.ren]; exact ⟨.r m, 0, by simp, by simp⟩⟩
    | sl b off n z full =>
      simp only [canV] at h
      split at h
      · rename_i m hm
        have hb := ownIf_some hm
        subst hb
        simp only [Option.map_eq_some_iff, Prod.mk.injEq] at h
        obtain ⟨⟨j, S2⟩, h1, rfl, rfl⟩ := h
        obtain ⟨k1, k2, k3⟩ := canO_ok (fun S l l' S' => ihL true S l l' S') h1 hS
        exact ⟨k1, k2, by simp only [RN]; exact ⟨_, _, full, k3, by simp, id, fun _ => rfl⟩⟩
      · split at h
        · cases h
        · rename_i l hl
          split at h
          · rename_i hoff
            simp only [Option.map_eq_some_iff, Prod.mk.injEq] at h
            obtain ⟨⟨l', S2⟩, h1, rfl, rfl⟩ := h
            obtain ⟨k1, k2, k3⟩ := ihL false _ _ _ _ h1 hS
            rw [window_eq] at k3
            have hlen := k3.length
            have hlen' : ((l.drop off).take (n * z)).length = n * z := by simp; omega
            obtain ⟨k4, k5⟩ := k1.read (b := b) (s := off) (c := l') hl (by omega) (fun i v' hi => by
              obtain ⟨v, k6, k7⟩ := k3.get i v' hi
              rw [List.getElem?_take] at k6
              split at k6
              · rw [List.getElem?_drop] at k6; exact ⟨v, k6, k7⟩
              · cases k6)
            exact ⟨k4, CS.le_trans k2 k5, by simp only [RN, CS.ren]; exact ⟨b, off, full, by simp, by simp, id, fun _ => rfl⟩⟩
          · cases h
    | func k a b =>
      simp only [canV] at h
      split at h
      · cases h
      · rename_i a' S1 h1
        simp only [Option.map_eq_some_iff, Prod.mk.injEq] at h
        obtain ⟨⟨b', S2⟩, h2, rfl, rfl⟩ := h
        obtain ⟨k1, k2, k3⟩ := ihL deep _ _ _ _ h1 hS
        obtain ⟨k4, k5, k6⟩ := ihL deep _ _ _ _ h2 k1
        exact ⟨k4, CS.le_trans k2 k5, by simp only [RN]; exact ⟨a, b, rfl, RNs.ext (CS.le_ren k5) _ _ k3, k6⟩⟩
    | agg l =>
      simp only [canV, Option.map_eq_some_iff, Prod.mk.injEq] at h
      obtain ⟨⟨l', S2⟩, h1, rfl, rfl⟩ := h
      obtain ⟨k1, k2, k3⟩ := ihL deep _ _ _ _ h1 hS
      exact ⟨k1, k2, by simp only [RN]; exact ⟨l, rfl, k3⟩⟩
    | tuple l =>
      simp only [canV, Option.map_eq_some_iff, Prod.mk.injEq] at h
      obtain ⟨⟨l', S2⟩, h1, rfl, rfl⟩ := h
      obtain ⟨k1, k2, k3⟩ := ihL deep _ _ _ _ h1 hS
      exact ⟨k1, k2, by simp only [RN]; exact ⟨l, rfl, k3⟩⟩

end Go.Sym
