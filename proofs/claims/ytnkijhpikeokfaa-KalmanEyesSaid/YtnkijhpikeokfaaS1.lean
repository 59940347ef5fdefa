/- Abstract values and heaps, and how they stand to the model's values and worlds: whoever follows them through allocations, stores and draws keeps that standing. -/
import Derived.Calls
import Derived.Below
import Derived.Laws.AppendOwn
set_option linter.unusedSimpArgs false
set_option linter.unusedVariables false
namespace Go.Sym
open Go

inductive BId where
  | r (n : Nat)
  | o (n : Nat)
  deriving DecidableEq, Repr

inductive AV where
  | top
  | bool (b : Bool)
  | int (k : IntKind) (n : Int)
  | str (s : ByteArray)
  | nilptr
  | ptr (b : BId) (off : Nat)
  | nilsl
  | sl (b : BId) (off len esz : Nat) (full : Bool)
  | nilfunc
  | func (f : FuncId) (first cap : List AV)
  | agg (cs : List AV)
  | tuple (vs : List AV)
  deriving Inhabited

structure CB where
  blk : Nat
  sh : Nat
  sz : Nat

abbrev Rho := BId → Option CB
abbrev Gh := BId → Option (List AV)

def BId.own : BId → Bool
  | .o _ => true
  | .r _ => false

mutual
def VR (ρ : Rho) : AV → Value → Prop
  | .top, _ => True
  | .bool b, v => v = .bool b
  | .int k n, v => v = .int k n
  | .str s, v => v = .string s
  | .nilptr, v => v = .pointer none
  | .ptr b off, v => ∃ cb, ρ b = some cb ∧ v = .pointer (some ⟨cb.blk, cb.sh + off, none⟩)
  | .nilsl, v => v = .slice none 0 0
  | .sl b off len esz full, v => (∃ cb x cap, ρ b = some cb ∧ v = .slice (some ⟨cb.blk, x, none⟩) len cap ∧ (len ≠ 0 → x = cb.sh + off) ∧ len ≤ cap ∧ (full = true → cap = len) ∧
      x + cap * esz ≤ cb.sz) ∨ (len = 0 ∧ v = .slice none 0 0)
  | .nilfunc, v => v = .nilFunc
  | .func f fs cap, v => ∃ a b, v = .func (.func f) (List.toArray a) (List.toArray b) ∧ VRs ρ fs a ∧ VRs ρ cap b
  | .agg l, v => ∃ l', v = .agg (List.toArray l') ∧ VRs ρ l l'
  | .tuple l, v => ∃ l', v = .tuple (List.toArray l') ∧ VRs ρ l l'
def VRs (ρ : Rho) : List AV → List Value → Prop
  | [], l => l = []
  | a :: as, l => ∃ c cs, l = c :: cs ∧ VR ρ a c ∧ VRs ρ as cs
end

def Rho.le (ρ ρ' : Rho) : Prop := ∀ b cb, ρ b = some cb → ρ' b = some cb

theorem Rho.le_refl (ρ : Rho) : ρ.le ρ := fun _ _ h => h
theorem Rho.le_trans {ρ ρ' ρ'' : Rho} (h : ρ.le ρ') (h' : ρ'.le ρ'') : ρ.le ρ'' := fun b cb hb => h' b cb (h b cb hb)

mutual
theorem VR.ext {ρ ρ' : Rho} (h : ρ.le ρ') : ∀ (a : AV) (v : Value), VR ρ a v → VR ρ' a v
  | .top, _, _ => by simp [VR]
  | .bool b, v, hv => by simpa [VR] using hv
  | .int k n, v, hv => by simpa [VR] using hv
  | .str s, v, hv => by simpa [VR] using hv
  | .nilptr, v, hv => by simpa [VR] using hv
  | .ptr b off, v, hv => by
    simp only [VR] at hv ⊢
    obtain ⟨cb, hb, e⟩ := hv
    exact ⟨cb, h _ _ hb, e⟩
  | .nilsl, v, hv => by simpa [VR] using hv
  | .sl b off len esz full, v, hv => by
    simp only [VR] at hv ⊢
    rcases hv with ⟨cb, x, cap, hb, e⟩ | hv
    · exact .inl ⟨cb, x, cap, h _ _ hb, e⟩
    · exact .inr hv
  | .nilfunc, v, hv => by simpa [VR] using hv
  | .func f fs cap, v, hv => by
    simp only [VR] at hv ⊢
    obtain ⟨a, b, e, h1, h2⟩ := hv
    exact ⟨a, b, e, VRs.ext h fs a h1, VRs.ext h cap b h2⟩
  | .agg l, v, hv => by
    simp only [VR] at hv ⊢
    obtain ⟨l', e, h1⟩ := hv
    exact ⟨l', e, VRs.ext h l l' h1⟩
  | .tuple l, v, hv => by
    simp only [VR] at hv ⊢
    obtain ⟨l', e, h1⟩ := hv
    exact ⟨l', e, VRs.ext h l l' h1⟩
theorem VRs.ext {ρ ρ' : Rho} (h : ρ.le ρ') : ∀ (l : List AV) (l' : List Value), VRs ρ l l' → VRs ρ' l l'
  | [], l', hv => by simpa [VRs] using hv
  | a :: as, l', hv => by
    simp only [VRs] at hv ⊢
    obtain ⟨c, cs, e, h1, h2⟩ := hv
    exact ⟨c, cs, e, VR.ext h a c h1, VRs.ext h as cs h2⟩
end

theorem VRs.length {ρ : Rho} : ∀ {l : List AV} {l' : List Value}, VRs ρ l l' → l'.length = l.length
  | [], l', h => by simp only [VRs] at h; simp [h]
  | a :: as, l', h => by
    simp only [VRs] at h
    obtain ⟨c, cs, rfl, _, h2⟩ := h
    simp [VRs.length h2]

theorem VRs.get {ρ : Rho} : ∀ {l : List AV} {l' : List Value} (_ : VRs ρ l l') (i : Nat) (v : AV), l[i]? = some v → ∃ cv, l'[i]? = some cv ∧ VR ρ v cv
  | [], l', h, i, v, hi => by simp at hi
  | a :: as, l', h, i, v, hi => by
    simp only [VRs] at h
    obtain ⟨c, cs, rfl, h1, h2⟩ := h
    cases i with
    | zero => simp at hi; subst hi; exact ⟨c, rfl, h1⟩
    | succ i => simp at hi; simpa using VRs.get h2 i v hi

theorem VRs.of_get {ρ : Rho} : ∀ {l : List AV} {l' : List Value}, l'.length = l.length → (∀ (i : Nat) (v : AV), l[i]? = some v → ∃ cv, l'[i]? = some cv ∧ VR ρ v cv) → VRs ρ l l'
  | [], l', hl, _ => by simp only [VRs]; simpa using hl
  | a :: as, [], hl, _ => by simp at hl
  | a :: as, c :: cs, hl, h => by
    simp only [VRs]
    refine ⟨c, cs, rfl, ?_, VRs.of_get (by simpa using hl) fun i v hi => by simpa using h (i + 1) v (by simpa using hi)⟩
    obtain ⟨cv, hcv, hv⟩ := h 0 a rfl
    simp at hcv; subst hcv; exact hv

theorem VRs.append {ρ : Rho} {a b : List AV} {a' b' : List Value} (h : VRs ρ a a') (h' : VRs ρ b b') : VRs ρ (a ++ b) (a' ++ b') := by
  refine VRs.of_get (by simp [h.length, h'.length]) fun i v hi => ?_
  by_cases hlt : i < a.length
  · rw [List.getElem?_append_left hlt] at hi
    rw [List.getElem?_append_left (by rw [h.length]; exact hlt)]
    exact h.get i v hi
  · rw [List.getElem?_append_right (by omega)] at hi
    rw [List.getElem?_append_right (by rw [h.length]; omega), h.length]
    exact h'.get _ v hi

theorem VRs.take {ρ : Rho} {a : List AV} {a' : List Value} (h : VRs ρ a a') (n : Nat) : VRs ρ (a.take n) (a'.take n) := by
  refine VRs.of_get (by simp [h.length]) fun i v hi => ?_
  rw [List.getElem?_take] at hi ⊢
  split at hi
  · rename_i hlt; simp only [hlt, if_true]; exact h.get i v hi
  · cases hi

theorem VRs.drop {ρ : Rho} {a : List AV} {a' : List Value} (h : VRs ρ a a') (n : Nat) : VRs ρ (a.drop n) (a'.drop n) := by
  refine VRs.of_get (by simp [h.length]) fun i v hi => ?_
  rw [List.getElem?_drop] at hi ⊢
  exact h.get _ v hi

theorem VRs.set {ρ : Rho} {a : List AV} {a' : List Value} (h : VRs ρ a a') (n : Nat) {v : AV} {cv : Value} (hv : VR ρ v cv) : VRs ρ (a.set n v) (a'.set n cv) := by
  refine VRs.of_get (by simp [h.length]) fun i u hi => ?_
  rw [List.getElem?_set] at hi ⊢
  by_cases hn : n = i
  · subst hn
    simp only [if_true] at hi ⊢
    split at hi
    · rename_i hlt
      rw [if_pos (by rw [h.length]; exact hlt)]
      cases hi; exact ⟨cv, rfl, hv⟩
    · cases hi
  · simp only [hn, if_false] at hi ⊢
    exact h.get i u hi

theorem VRs.one {ρ : Rho} {v : AV} {cv : Value} (h : VR ρ v cv) : VRs ρ [v] [cv] := by simp only [VRs]; exact ⟨cv, [], rfl, h, rfl⟩
theorem VRs.nil {ρ : Rho} : VRs ρ [] [] := by simp only [VRs]
theorem VRs.cons {ρ : Rho} {v : AV} {cv : Value} {l : List AV} {l' : List Value} (h : VR ρ v cv) (h' : VRs ρ l l') : VRs ρ (v :: l) (cv :: l') := by
  simp only [VRs]; exact ⟨cv, l', rfl, h, h'⟩
theorem VRs.none {ρ : Rho} {l : List AV} {l' : List Value} (h : VRs ρ l l') (i : Nat) (hi : l[i]? = none) : l'[i]? = none := by
  simp only [List.getElem?_eq_none_iff] at hi ⊢; rw [h.length]; exact hi

/-- an abstract heap, and a world: of each block that the heap knows -/
structure SR (ρ : Rho) (g : Gh) (w : World) : Prop where
  cells : ∀ b l, g b = some l → (l = [] → b.own = true) → ∃ cb cs ty fz, ρ b = some cb ∧ w.heap[cb.blk]? = some (.cells cs ty fz) ∧ (∀ (j : Nat) v, l[j]? = some v → ∃ cv, cs[cb.sh + j]? = some cv ∧ VR ρ v cv) ∧
    (cb.sh + l.length ≤ cb.sz) ∧ (b.own = true → cs.size = cb.sz ∧ fz = (0, 0))
  sep : ∀ n b l l', g (.o n) = some l → g b = some l' → (l' = [] → b.own = true) → b ≠ .o n → ∀ cb cb', ρ (.o n) = some cb → ρ b = some cb' → cb.blk ≠ cb'.blk
  bound : ∀ n cb, ρ (.o n) = some cb → cb.blk < w.heap.size
  has : ∀ {b l}, g b = some l → ∃ cb, ρ b = some cb

/-- from one world to another one: what is not one's own stays -/
structure Tr (ρ ρ' : Rho) (w w' : World) : Prop where
  ext : ρ.le ρ'
  own : ∀ n cb, ρ' (.o n) = some cb → (∃ m cb', ρ (.o m) = some cb' ∧ cb'.blk = cb.blk) ∨ w.heap.size ≤ cb.blk
  ro : ∀ n cb, ρ' (.r n) = some cb → ρ (.r n) = some cb ∨ (∃ m cb', ρ (.o m) = some cb' ∧ cb'.blk = cb.blk) ∨ w.heap.size ≤ cb.blk
  os : w'.os = w.os
  tape : w'.tape = w.tape
  output : w'.output = w.output
  size : w.heap.size ≤ w'.heap.size
  frame : ∀ i, i < w.heap.size → (∀ n cb, ρ (.o n) = some cb → cb.blk ≠ i) → w'.heap[i]? = w.heap[i]?

theorem Tr.refl (ρ : Rho) (w : World) : Tr ρ ρ w w :=
  ⟨Rho.le_refl ρ, fun n cb h => .inl ⟨n, cb, h, rfl⟩, fun _ _ h => .inl h, rfl, rfl, rfl, Nat.le_refl _, fun _ _ _ => rfl⟩

theorem Tr.trans {ρ ρ' ρ'' : Rho} {w w' w'' : World} (h : Tr ρ ρ' w w') (k : Tr ρ' ρ'' w' w'') : Tr ρ ρ'' w w'' where
  ext := Rho.le_trans h.ext k.ext
  own := fun n cb hn => by
    rcases k.own n cb hn with ⟨m, cb', hm, e⟩ | hb
    · rcases h.own m cb' hm with ⟨m', cb'', hm', e'⟩ | hb
      · exact .inl ⟨m', cb'', hm', e'.trans e⟩
      · exact .inr (e ▸ hb)
    · exact .inr (Nat.le_trans h.size hb)
  ro := fun n cb hn => by
    rcases k.ro n cb hn with hn | ⟨m, cb', hm, e⟩ | hb
    · exact h.ro n cb hn
    · rcases h.own m cb' hm with ⟨m', cb'', hm', e'⟩ | hb
      · exact .inr (.inl ⟨m', cb'', hm', e'.trans e⟩)
      · exact .inr (.inr (e ▸ hb))
    · exact .inr (.inr (Nat.le_trans h.size hb))
  os := k.os.trans h.os
  tape := k.tape.trans h.tape
  output := k.output.trans h.output
  size := Nat.le_trans h.size k.size
  frame := fun i hi hn => by
    refine (k.frame i (Nat.lt_of_lt_of_le hi h.size) fun n cb hb e => ?_).trans (h.frame i hi hn)
    rcases h.own n cb hb with ⟨m, cb', hm, e'⟩ | hb'
    · exact hn m cb' hm (e'.trans e)
    · omega

theorem Tr.drew (ρ : Rho) (w : World) : Tr ρ ρ w w.drew :=
  ⟨Rho.le_refl ρ, fun n cb h => .inl ⟨n, cb, h, rfl⟩, fun _ _ h => .inl h, rfl, rfl, rfl, Nat.le_refl _, fun _ _ _ => rfl⟩

theorem SR.drew {ρ : Rho} {g : Gh} {w : World} (h : SR ρ g w) : SR ρ g w.drew := ⟨h.cells, h.sep, h.bound, fun hb => h.has hb⟩

/-- a heap that knows less -/
theorem SR.less {ρ : Rho} {g g' : Gh} {w : World} (h : SR ρ g w) (hg : ∀ b l, g' b = some l → g b = some l) : SR ρ g' w :=
  ⟨fun b l hb hz => h.cells b l (hg b l hb) hz, fun n b l l' hn hb => h.sep n b l l' (hg _ _ hn) (hg _ _ hb), h.bound, fun hb => h.has (hg _ _ hb)⟩

theorem SR.live {ρ : Rho} {g : Gh} {w : World} (h : SR ρ g w) {b : BId} {l : List AV} (hb : g b = some l) (hz : l = [] → b.own = true) {cb : CB} (hc : ρ b = some cb) : cb.blk < w.heap.size := by
  obtain ⟨cb', cs, ty, fz, h1, h2, _⟩ := h.cells b l hb hz
  rw [hc] at h1; cases h1
  exact (Array.getElem?_eq_some_iff.mp h2).1

def Gh.upd (g : Gh) (b : BId) (x : Option (List AV)) : Gh := fun b' => if b' = b then x else g b'
def Rho.upd (ρ : Rho) (b : BId) (cb : CB) : Rho := fun b' => if b' = b then some cb else ρ b'

theorem Rho.le_upd {ρ : Rho} {b : BId} (h : ρ b = none) (cb : CB) : ρ.le (ρ.upd b cb) := fun b' cb' hb => by
  unfold Rho.upd
  split
  · rename_i e; subst e; rw [h] at hb; cases hb
  · exact hb

theorem heap_alloc_lt (w : World) (o : Obj) (i : Nat) (h : i < w.heap.size) : (w.alloc o).heap[i]? = w.heap[i]? := heap_alloc_old w o i h

/-- a new block of one's own -/
theorem SR.alloc {ρ : Rho} {g : Gh} {w : World} (h : SR ρ g w) {n : Nat} (hn : ρ (.o n) = none) {l : List AV} {cs : Array Value} (sz : Nat) (hsz : cs.size = sz)
    (hl : ∀ (j : Nat) v, l[j]? = some v → ∃ cv, cs[j]? = some cv ∧ VR ρ v cv) (ty : TypeId) :
    SR (ρ.upd (.o n) ⟨w.heap.size, 0, sz⟩) (g.upd (.o n) (some l)) (w.alloc (.cells cs ty)) ∧
    Tr ρ (ρ.upd (.o n) ⟨w.heap.size, 0, sz⟩) w (w.alloc (.cells cs ty)) := by
  have hle := Rho.le_upd (b := .o n) hn ⟨w.heap.size, 0, sz⟩
  refine ⟨⟨fun b l' hb hz => ?_, fun m b l1 l2 hm hb hz hne cb cb' hc hc' => ?_, fun m cb hb => ?_, fun {b l'} hb => ?_⟩, ⟨hle, fun m cb hm => ?_, fun m cb hm => .inl (by simpa [Rho.upd] using hm), rfl, rfl, rfl, by simp, fun i hi _ => heap_alloc_lt _ _ _ hi⟩⟩
  · unfold Gh.upd at hb
    split at hb
    · rename_i e; subst e; cases hb
      refine ⟨⟨w.heap.size, 0, sz⟩, cs, ty, (0, 0), by simp [Rho.upd], heap_alloc_new _ _, fun j v hj => ?_, ?_, fun _ => ⟨hsz, rfl⟩⟩
      · obtain ⟨cv, h1, h2⟩ := hl j v hj
        exact ⟨cv, by simpa using h1, VR.ext hle _ _ h2⟩
      · by_cases h0 : l.length = 0
        · simp [h0]
        · obtain ⟨cv, h1, _⟩ := hl (l.length - 1) (l[l.length - 1]'(by omega)) (by simp)
          have := (Array.getElem?_eq_some_iff.mp h1).1
          simp only
          omega
    · obtain ⟨cb, cs', ty', fz, h1, h2, h3, h4⟩ := h.cells b l' hb hz
      refine ⟨cb, cs', ty', fz, hle _ _ h1, ?_, fun j v hj => ?_, h4⟩
      · rw [heap_alloc_lt _ _ _ (h.live hb hz h1)]; exact h2
      · obtain ⟨cv, h5, h6⟩ := h3 j v hj
        exact ⟨cv, h5, VR.ext hle _ _ h6⟩
  · unfold Gh.upd at hm hb
    unfold Rho.upd at hc hc'
    by_cases e1 : BId.o m = .o n
    · have e2 : b ≠ .o n := fun e => hne (by rw [e, e1])
      rw [if_neg e2] at hb hc'
      rw [if_pos e1] at hc
      cases hc
      have := h.live hb hz hc'
      simp; omega
    · rw [if_neg e1] at hm hc
      by_cases e2 : b = .o n
      · rw [if_pos e2] at hc'
        cases hc'
        have := h.bound _ _ hc
        simp; omega
      · rw [if_neg e2] at hb hc'
        exact h.sep m b l1 l2 hm hb hz hne cb cb' hc hc'
  · unfold Rho.upd at hb
    split at hb
    · cases hb; simp
    · have := h.bound _ _ hb; simp; omega
  · unfold Gh.upd at hb
    split at hb
    · rename_i e; subst e; exact ⟨⟨w.heap.size, 0, sz⟩, by simp [Rho.upd]⟩
    · obtain ⟨cb, hc⟩ := h.has hb
      exact ⟨cb, hle _ _ hc⟩
  · unfold Rho.upd at hm
    split at hm
    · cases hm; exact .inr (Nat.le_refl _)
    · exact .inl ⟨m, cb, hm, rfl⟩

def AV.scalar : AV → Bool
  | .top | .agg _ | .tuple _ => false
  | _ => true

theorem VR.oneCell {ρ : Rho} {a : AV} {v : Value} (h : VR ρ a v) (hs : a.scalar = true) : v.oneCell' = true := by
  cases a <;> simp only [AV.scalar, Bool.false_eq_true] at hs <;> simp only [VR] at h
  · subst h; rfl
  · subst h; rfl
  · subst h; rfl
  · subst h; rfl
  · obtain ⟨cb, _, rfl⟩ := h; rfl
  · subst h; rfl
  · rcases h with ⟨cb, x, cap, _, rfl, _⟩ | ⟨_, rfl⟩ <;> rfl
  · subst h; rfl
  · obtain ⟨x, y, rfl, _⟩ := h; rfl

theorem SR.cell {ρ : Rho} {g : Gh} {w : World} (h : SR ρ g w) {b : BId} {l : List AV} (hb : g b = some l) {cb : CB} (hc : ρ b = some cb) {j : Nat} {v : AV} (hj : l[j]? = some v) :
    ∃ cv, w.cell? ⟨cb.blk, cb.sh + j, none⟩ = some cv ∧ VR ρ v cv := by
  obtain ⟨cb', cs, ty, fz, h1, h2, h3, _⟩ := h.cells b l hb (fun e => by subst e; simp at hj)
  rw [hc] at h1; cases h1
  obtain ⟨cv, h4, h5⟩ := h3 j v hj
  exact ⟨cv, by rw [cell_of_row w _ _ _ _ _ h2]; exact h4, h5⟩

/-- a cell of one's own is stored into -/
theorem SR.setCell {ρ : Rho} {g : Gh} {w : World} (h : SR ρ g w) {n : Nat} {l : List AV} (hb : g (.o n) = some l) {cb : CB} (hc : ρ (.o n) = some cb) {j : Nat} (hj : j < l.length) {v : AV} {cv : Value} (hv : VR ρ v cv) :
    SR ρ (g.upd (.o n) (some (l.set j v))) (w.setCell ⟨cb.blk, cb.sh + j, none⟩ cv) ∧ Tr ρ ρ w (w.setCell ⟨cb.blk, cb.sh + j, none⟩ cv) ∧
      (∃ u, w.cell? ⟨cb.blk, cb.sh + j, none⟩ = some u) ∧ w.frozen? ⟨cb.blk, cb.sh + j, none⟩ = false := by
  obtain ⟨cb', cs, ty, fz, h1, h2, h3, h4⟩ := h.cells _ l hb (fun _ => rfl)
  rw [hc] at h1; cases h1
  obtain ⟨h8, h4⟩ := h4
  obtain ⟨h5, rfl⟩ := h4 rfl
  have hother : ∀ k, k ≠ cb.blk → (w.setCell ⟨cb.blk, cb.sh + j, none⟩ cv).heap[k]? = w.heap[k]? := fun k hk => heap_setCell_other w _ k cv hk
  refine ⟨⟨fun b l' hb' hz => ?_, fun m b l1 l2 hm hb' hz hne => ?_, fun m cb' hb' => by simpa using h.bound m cb' hb', fun {b l'} hb' => ?_⟩,
    ⟨Rho.le_refl ρ, fun m cb' hm => .inl ⟨m, cb', hm, rfl⟩, fun _ _ h => .inl h, rfl, rfl, rfl, by simp, fun i hi hn => hother i (hn n cb hc).symm⟩, ?_, ?_⟩
  · unfold Gh.upd at hb'
    split at hb'
    · rename_i e; subst e; cases hb'
      refine ⟨cb, cs.setIfInBounds (cb.sh + j) cv, ty, (0, 0), hc, heap_setCell_same w _ _ cs ty cv h2, fun i u hi => ?_, by simpa using h8, fun _ => ⟨by simpa using h5, rfl⟩⟩
      rw [List.getElem?_set] at hi
      by_cases e : j = i
      · subst e
        simp only [if_true, hj] at hi
        cases hi
        refine ⟨cv, ?_, hv⟩
        obtain ⟨u', hu', _⟩ := h3 j l[j] (by simp [hj])
        have hlt : cb.sh + j < cs.size := by
          by_cases hh : cb.sh + j < cs.size
          · exact hh
          · rw [Array.getElem?_eq_none (by omega)] at hu'; cases hu'
        rw [Array.getElem?_setIfInBounds_self_of_lt hlt]
      · simp only [e, if_false] at hi
        obtain ⟨cu, h6, h7⟩ := h3 i u hi
        exact ⟨cu, by rw [Array.getElem?_setIfInBounds_ne (by omega)]; exact h6, h7⟩
    · rename_i e
      obtain ⟨cb', cs', ty', fz, k1, k2, k3, k4⟩ := h.cells b l' hb' hz
      refine ⟨cb', cs', ty', fz, k1, ?_, k3, k4⟩
      rw [hother _ fun e' => h.sep n b l l' hb hb' hz e cb cb' hc k1 e'.symm]; exact k2
  · unfold Gh.upd at hm hb'
    have hm' : ∃ l1', g (.o m) = some l1' := by
      split at hm
      · rename_i e; rw [e]; exact ⟨l, hb⟩
      · exact ⟨l1, hm⟩
    have hb2 : ∃ l2', g b = some l2' ∧ (l2' = [] → b.own = true) := by
      split at hb'
      · rename_i e; rw [e]; exact ⟨l, hb, fun _ => rfl⟩
      · exact ⟨l2, hb', hz⟩
    obtain ⟨l1', hm'⟩ := hm'
    obtain ⟨l2', hb2, hz2⟩ := hb2
    exact h.sep m b l1' l2' hm' hb2 hz2 hne
  · unfold Gh.upd at hb'
    split at hb'
    · rename_i e; rw [e]; exact ⟨cb, hc⟩
    · exact h.has hb'
  · obtain ⟨u, hu, _⟩ := SR.cell h hb hc (j := j) (v := l[j]) (by simp [hj])
    exact ⟨u, hu⟩
  · exact frozen_of_row w _ _ cs ty h2

theorem SR.kill {ρ : Rho} {g : Gh} {w : World} (h : SR ρ g w) (b : BId) : SR ρ (g.upd b none) w :=
  h.less fun b' l hb => by unfold Gh.upd at hb; split at hb <;> first | cases hb | exact hb

end Go.Sym
