/- The texts S1, S2, S3, S4, S5, S6, S7, S8, S9, S10, S11, S12. -/
import Derived.Calls
import Derived.Below
import Derived.Laws.AppendOwn
import Derived.Laws.Entries
import Derived.Laws.StructEq
import Derived.Laws.Small
import Derived.Laws.Append
import Derived.ChangeKeysEq
import Derived.IntWalk
set_option linter.unusedSimpArgs false
set_option linter.unusedVariables false
/- Abstract values and heaps, and how they stand to the model's values and worlds: whoever follows them through allocations, stores and draws keeps that standing. -/
namespace Go.Sym
open Go

inductive BId where
  | r (n : Nat)
  | o (n : Nat)
  deriving DecidableEq, Repr

inductive AV where
  | top
  | bool (b : Bool)
  | int (k : IntKind) (n : Int)
  | str (s : ByteArray)
  | nilptr
  | ptr (b : BId) (off : Nat)
  | nilsl
  | sl (b : BId) (off len esz : Nat) (full : Bool)
  | nilfunc
  | yl (l : Nat)
  | func (f : FuncId) (first cap : List AV)
  | agg (cs : List AV)
  | tuple (vs : List AV)
  deriving Inhabited

structure CB where
  blk : Nat
  sh : Nat
  sz : Nat

abbrev Rho := BId → Option CB
abbrev Gh := BId → Option (List AV)

def BId.own : BId → Bool
  | .o _ => true
  | .r _ => false

mutual
def VR (ρ : Rho) : AV → Value → Prop
  | .top, _ => True
  | .bool b, v => v = .bool b
  | .int k n, v => v = .int k n
  | .str s, v => v = .string s
  | .nilptr, v => v = .pointer none
  | .ptr b off, v => ∃ cb, ρ b = some cb ∧ v = .pointer (some ⟨cb.blk, cb.sh + off, none⟩)
  | .nilsl, v => v = .slice none 0 0
  | .sl b off len esz full, v => (∃ cb x cap, ρ b = some cb ∧ v = .slice (some ⟨cb.blk, x, none⟩) len cap ∧ (len ≠ 0 → x = cb.sh + off) ∧ len ≤ cap ∧ (full = true → cap = len) ∧
      x + cap * esz ≤ cb.sz) ∨ (len = 0 ∧ v = .slice none 0 0)
  | .nilfunc, v => v = .nilFunc
  | .yl l, v => v = .func (.yield l) #[] #[]
  | .func f fs cap, v => ∃ a b, v = .func (.func f) (List.toArray a) (List.toArray b) ∧ VRs ρ fs a ∧ VRs ρ cap b
  | .agg l, v => ∃ l', v = .agg (List.toArray l') ∧ VRs ρ l l'
  | .tuple l, v => ∃ l', v = .tuple (List.toArray l') ∧ VRs ρ l l'
def VRs (ρ : Rho) : List AV → List Value → Prop
  | [], l => l = []
  | a :: as, l => ∃ c cs, l = c :: cs ∧ VR ρ a c ∧ VRs ρ as cs
end

def Rho.le (ρ ρ' : Rho) : Prop := ∀ b cb, ρ b = some cb → ρ' b = some cb

theorem Rho.le_refl (ρ : Rho) : ρ.le ρ := fun _ _ h => h
theorem Rho.le_trans {ρ ρ' ρ'' : Rho} (h : ρ.le ρ') (h' : ρ'.le ρ'') : ρ.le ρ'' := fun b cb hb => h' b cb (h b cb hb)

mutual
theorem VR.ext {ρ ρ' : Rho} (h : ρ.le ρ') : ∀ (a : AV) (v : Value), VR ρ a v → VR ρ' a v
  | .top, _, _ => by simp [VR]
  | .bool b, v, hv => by simpa [VR] using hv
  | .int k n, v, hv => by simpa [VR] using hv
  | .str s, v, hv => by simpa [VR] using hv
  | .nilptr, v, hv => by simpa [VR] using hv
  | .ptr b off, v, hv => by
    simp only [VR] at hv ⊢
    obtain ⟨cb, hb, e⟩ := hv
    exact ⟨cb, h _ _ hb, e⟩
  | .nilsl, v, hv => by simpa [VR] using hv
  | .sl b off len esz full, v, hv => by
    simp only [VR] at hv ⊢
    rcases hv with ⟨cb, x, cap, hb, e⟩ | hv
    · exact .inl ⟨cb, x, cap, h _ _ hb, e⟩
    · exact .inr hv
  | .nilfunc, v, hv => by simpa [VR] using hv
  | .yl l, v, hv => by simpa [VR] using hv
  | .func f fs cap, v, hv => by
    simp only [VR] at hv ⊢
    obtain ⟨a, b, e, h1, h2⟩ := hv
    exact ⟨a, b, e, VRs.ext h fs a h1, VRs.ext h cap b h2⟩
  | .agg l, v, hv => by
    simp only [VR] at hv ⊢
    obtain ⟨l', e, h1⟩ := hv
    exact ⟨l', e, VRs.ext h l l' h1⟩
  | .tuple l, v, hv => by
    simp only [VR] at hv ⊢
    obtain ⟨l', e, h1⟩ := hv
    exact ⟨l', e, VRs.ext h l l' h1⟩
theorem VRs.ext {ρ ρ' : Rho} (h : ρ.le ρ') : ∀ (l : List AV) (l' : List Value), VRs ρ l l' → VRs ρ' l l'
  | [], l', hv => by simpa [VRs] using hv
  | a :: as, l', hv => by
    simp only [VRs] at hv ⊢
    obtain ⟨c, cs, e, h1, h2⟩ := hv
    exact ⟨c, cs, e, VR.ext h a c h1, VRs.ext h as cs h2⟩
end

theorem VRs.length {ρ : Rho} : ∀ {l : List AV} {l' : List Value}, VRs ρ l l' → l'.length = l.length
  | [], l', h => by simp only [VRs] at h; simp [h]
  | a :: as, l', h => by
    simp only [VRs] at h
    obtain ⟨c, cs, rfl, _, h2⟩ := h
    simp [VRs.length h2]

theorem VRs.get {ρ : Rho} : ∀ {l : List AV} {l' : List Value} (_ : VRs ρ l l') (i : Nat) (v : AV), l[i]? = some v → ∃ cv, l'[i]? = some cv ∧ VR ρ v cv
  | [], l', h, i, v, hi => by simp at hi
  | a :: as, l', h, i, v, hi => by
    simp only [VRs] at h
    obtain ⟨c, cs, rfl, h1, h2⟩ := h
    cases i with
    | zero => simp at hi; subst hi; exact ⟨c, rfl, h1⟩
    | succ i => simp at hi; simpa using VRs.get h2 i v hi

theorem VRs.of_get {ρ : Rho} : ∀ {l : List AV} {l' : List Value}, l'.length = l.length → (∀ (i : Nat) (v : AV), l[i]? = some v → ∃ cv, l'[i]? = some cv ∧ VR ρ v cv) → VRs ρ l l'
  | [], l', hl, _ => by simp only [VRs]; simpa using hl
  | a :: as, [], hl, _ => by simp at hl
  | a :: as, c :: cs, hl, h => by
    simp only [VRs]
    refine ⟨c, cs, rfl, ?_, VRs.of_get (by simpa using hl) fun i v hi => by simpa using h (i + 1) v (by simpa using hi)⟩
    obtain ⟨cv, hcv, hv⟩ := h 0 a rfl
    simp at hcv; subst hcv; exact hv

theorem VRs.append {ρ : Rho} {a b : List AV} {a' b' : List Value} (h : VRs ρ a a') (h' : VRs ρ b b') : VRs ρ (a ++ b) (a' ++ b') := by
  refine VRs.of_get (by simp [h.length, h'.length]) fun i v hi => ?_
  by_cases hlt : i < a.length
  · rw [List.getElem?_append_left hlt] at hi
    rw [List.getElem?_append_left (by rw [h.length]; exact hlt)]
    exact h.get i v hi
  · rw [List.getElem?_append_right (by omega)] at hi
    rw [List.getElem?_append_right (by rw [h.length]; omega), h.length]
    exact h'.get _ v hi

theorem VRs.take {ρ : Rho} {a : List AV} {a' : List Value} (h : VRs ρ a a') (n : Nat) : VRs ρ (a.take n) (a'.take n) := by
  refine VRs.of_get (by simp [h.length]) fun i v hi => ?_
  rw [List.getElem?_take] at hi ⊢
  split at hi
  · rename_i hlt; simp only [hlt, if_true]; exact h.get i v hi
  · cases hi

theorem VRs.drop {ρ : Rho} {a : List AV} {a' : List Value} (h : VRs ρ a a') (n : Nat) : VRs ρ (a.drop n) (a'.drop n) := by
  refine VRs.of_get (by simp [h.length]) fun i v hi => ?_
  rw [List.getElem?_drop] at hi ⊢
  exact h.get _ v hi

theorem VRs.set {ρ : Rho} {a : List AV} {a' : List Value} (h : VRs ρ a a') (n : Nat) {v : AV} {cv : Value} (hv : VR ρ v cv) : VRs ρ (a.set n v) (a'.set n cv) := by
  refine VRs.of_get (by simp [h.length]) fun i u hi => ?_
  rw [List.getElem?_set] at hi ⊢
  by_cases hn : n = i
  · subst hn
    simp only [if_true] at hi ⊢
    split at hi
    · rename_i hlt
      rw [if_pos (by rw [h.length]; exact hlt)]
      cases hi; exact ⟨cv, rfl, hv⟩
    · cases hi
  · simp only [hn, if_false] at hi ⊢
    exact h.get i u hi

theorem VRs.one {ρ : Rho} {v : AV} {cv : Value} (h : VR ρ v cv) : VRs ρ [v] [cv] := by simp only [VRs]; exact ⟨cv, [], rfl, h, rfl⟩
theorem VRs.nil {ρ : Rho} : VRs ρ [] [] := by simp only [VRs]
theorem VRs.cons {ρ : Rho} {v : AV} {cv : Value} {l : List AV} {l' : List Value} (h : VR ρ v cv) (h' : VRs ρ l l') : VRs ρ (v :: l) (cv :: l') := by
  simp only [VRs]; exact ⟨cv, l', rfl, h, h'⟩
theorem VRs.none {ρ : Rho} {l : List AV} {l' : List Value} (h : VRs ρ l l') (i : Nat) (hi : l[i]? = none) : l'[i]? = none := by
  simp only [List.getElem?_eq_none_iff] at hi ⊢; rw [h.length]; exact hi

/-- an abstract heap, and a world: of each block that the heap knows -/
structure SR (ρ : Rho) (g : Gh) (w : World) : Prop where
  cells : ∀ b l, g b = some l → (l = [] → b.own = true) → ∃ cb cs ty fz, ρ b = some cb ∧ w.heap[cb.blk]? = some (.cells cs ty fz) ∧ (∀ (j : Nat) v, l[j]? = some v → ∃ cv, cs[cb.sh + j]? = some cv ∧ VR ρ v cv) ∧
    (cb.sh + l.length ≤ cb.sz) ∧ (b.own = true → cs.size = cb.sz ∧ fz = (0, 0))
  sep : ∀ n b l l', g (.o n) = some l → g b = some l' → (l' = [] → b.own = true) → b ≠ .o n → ∀ cb cb', ρ (.o n) = some cb → ρ b = some cb' → cb.blk ≠ cb'.blk
  bound : ∀ n cb, ρ (.o n) = some cb → cb.blk < w.heap.size
  has : ∀ {b l}, g b = some l → ∃ cb, ρ b = some cb

/-- from one world to another one: what is not one's own stays -/
structure Tr (ρ ρ' : Rho) (w w' : World) : Prop where
  ext : ρ.le ρ'
  own : ∀ n cb, ρ' (.o n) = some cb → (∃ m cb', ρ (.o m) = some cb' ∧ cb'.blk = cb.blk) ∨ w.heap.size ≤ cb.blk
  ro : ∀ n cb, ρ' (.r n) = some cb → ρ (.r n) = some cb ∨ (∃ m cb', ρ (.o m) = some cb' ∧ cb'.blk = cb.blk) ∨ w.heap.size ≤ cb.blk
  os : w'.os = w.os
  tape : w'.tape = w.tape
  output : w'.output = w.output
  size : w.heap.size ≤ w'.heap.size
  frame : ∀ i, i < w.heap.size → (∀ n cb, ρ (.o n) = some cb → cb.blk ≠ i) → w'.heap[i]? = w.heap[i]?

theorem Tr.refl (ρ : Rho) (w : World) : Tr ρ ρ w w :=
  ⟨Rho.le_refl ρ, fun n cb h => .inl ⟨n, cb, h, rfl⟩, fun _ _ h => .inl h, rfl, rfl, rfl, Nat.le_refl _, fun _ _ _ => rfl⟩

theorem Tr.trans {ρ ρ' ρ'' : Rho} {w w' w'' : World} (h : Tr ρ ρ' w w') (k : Tr ρ' ρ'' w' w'') : Tr ρ ρ'' w w'' where
  ext := Rho.le_trans h.ext k.ext
  own := fun n cb hn => by
    rcases k.own n cb hn with ⟨m, cb', hm, e⟩ | hb
    · rcases h.own m cb' hm with ⟨m', cb'', hm', e'⟩ | hb
      · exact .inl ⟨m', cb'', hm', e'.trans e⟩
      · exact .inr (e ▸ hb)
    · exact .inr (Nat.le_trans h.size hb)
  ro := fun n cb hn => by
    rcases k.ro n cb hn with hn | ⟨m, cb', hm, e⟩ | hb
    · exact h.ro n cb hn
    · rcases h.own m cb' hm with ⟨m', cb'', hm', e'⟩ | hb
      · exact .inr (.inl ⟨m', cb'', hm', e'.trans e⟩)
      · exact .inr (.inr (e ▸ hb))
    · exact .inr (.inr (Nat.le_trans h.size hb))
  os := k.os.trans h.os
  tape := k.tape.trans h.tape
  output := k.output.trans h.output
  size := Nat.le_trans h.size k.size
  frame := fun i hi hn => by
    refine (k.frame i (Nat.lt_of_lt_of_le hi h.size) fun n cb hb e => ?_).trans (h.frame i hi hn)
    rcases h.own n cb hb with ⟨m, cb', hm, e'⟩ | hb'
    · exact hn m cb' hm (e'.trans e)
    · omega

theorem Tr.drew (ρ : Rho) (w : World) : Tr ρ ρ w w.drew :=
  ⟨Rho.le_refl ρ, fun n cb h => .inl ⟨n, cb, h, rfl⟩, fun _ _ h => .inl h, rfl, rfl, rfl, Nat.le_refl _, fun _ _ _ => rfl⟩

theorem SR.drew {ρ : Rho} {g : Gh} {w : World} (h : SR ρ g w) : SR ρ g w.drew := ⟨h.cells, h.sep, h.bound, fun hb => h.has hb⟩

/-- a heap that knows less -/
theorem SR.less {ρ : Rho} {g g' : Gh} {w : World} (h : SR ρ g w) (hg : ∀ b l, g' b = some l → g b = some l) : SR ρ g' w :=
  ⟨fun b l hb hz => h.cells b l (hg b l hb) hz, fun n b l l' hn hb => h.sep n b l l' (hg _ _ hn) (hg _ _ hb), h.bound, fun hb => h.has (hg _ _ hb)⟩

theorem SR.live {ρ : Rho} {g : Gh} {w : World} (h : SR ρ g w) {b : BId} {l : List AV} (hb : g b = some l) (hz : l = [] → b.own = true) {cb : CB} (hc : ρ b = some cb) : cb.blk < w.heap.size := by
  obtain ⟨cb', cs, ty, fz, h1, h2, _⟩ := h.cells b l hb hz
  rw [hc] at h1; cases h1
  exact (Array.getElem?_eq_some_iff.mp h2).1

def Gh.upd (g : Gh) (b : BId) (x : Option (List AV)) : Gh := fun b' => if b' = b then x else g b'
def Rho.upd (ρ : Rho) (b : BId) (cb : CB) : Rho := fun b' => if b' = b then some cb else ρ b'

theorem Rho.le_upd {ρ : Rho} {b : BId} (h : ρ b = none) (cb : CB) : ρ.le (ρ.upd b cb) := fun b' cb' hb => by
  unfold Rho.upd
  split
  · rename_i e; subst e; rw [h] at hb; cases hb
  · exact hb

theorem heap_alloc_lt (w : World) (o : Obj) (i : Nat) (h : i < w.heap.size) : (w.alloc o).heap[i]? = w.heap[i]? := heap_alloc_old w o i h

/-- a new block of one's own -/
theorem SR.alloc {ρ : Rho} {g : Gh} {w : World} (h : SR ρ g w) {n : Nat} (hn : ρ (.o n) = none) {l : List AV} {cs : Array Value} (sz : Nat) (hsz : cs.size = sz)
    (hl : ∀ (j : Nat) v, l[j]? = some v → ∃ cv, cs[j]? = some cv ∧ VR ρ v cv) (ty : TypeId) :
    SR (ρ.upd (.o n) ⟨w.heap.size, 0, sz⟩) (g.upd (.o n) (some l)) (w.alloc (.cells cs ty)) ∧
    Tr ρ (ρ.upd (.o n) ⟨w.heap.size, 0, sz⟩) w (w.alloc (.cells cs ty)) := by
  have hle := Rho.le_upd (b := .o n) hn ⟨w.heap.size, 0, sz⟩
  refine ⟨⟨fun b l' hb hz => ?_, fun m b l1 l2 hm hb hz hne cb cb' hc hc' => ?_, fun m cb hb => ?_, fun {b l'} hb => ?_⟩, ⟨hle, fun m cb hm => ?_, fun m cb hm => .inl (by simpa [Rho.upd] using hm), rfl, rfl, rfl, by simp, fun i hi _ => heap_alloc_lt _ _ _ hi⟩⟩
  · unfold Gh.upd at hb
    split at hb
    · rename_i e; subst e; cases hb
      refine ⟨⟨w.heap.size, 0, sz⟩, cs, ty, (0, 0), by simp [Rho.upd], heap_alloc_new _ _, fun j v hj => ?_, ?_, fun _ => ⟨hsz, rfl⟩⟩
      · obtain ⟨cv, h1, h2⟩ := hl j v hj
        exact ⟨cv, by simpa using h1, VR.ext hle _ _ h2⟩
      · by_cases h0 : l.length = 0
        · simp [h0]
        · obtain ⟨cv, h1, _⟩ := hl (l.length - 1) (l[l.length - 1]'(by omega)) (by simp)
          have := (Array.getElem?_eq_some_iff.mp h1).1
          simp only
          omega
    · obtain ⟨cb, cs', ty', fz, h1, h2, h3, h4⟩ := h.cells b l' hb hz
      refine ⟨cb, cs', ty', fz, hle _ _ h1, ?_, fun j v hj => ?_, h4⟩
      · rw [heap_alloc_lt _ _ _ (h.live hb hz h1)]; exact h2
      · obtain ⟨cv, h5, h6⟩ := h3 j v hj
        exact ⟨cv, h5, VR.ext hle _ _ h6⟩
  · unfold Gh.upd at hm hb
    unfold Rho.upd at hc hc'
    by_cases e1 : BId.o m = .o n
    · have e2 : b ≠ .o n := fun e => hne (by rw [e, e1])
      rw [if_neg e2] at hb hc'
      rw [if_pos e1] at hc
      cases hc
      have := h.live hb hz hc'
      simp; omega
    · rw [if_neg e1] at hm hc
      by_cases e2 : b = .o n
      · rw [if_pos e2] at hc'
        cases hc'
        have := h.bound _ _ hc
        simp; omega
      · rw [if_neg e2] at hb hc'
        exact h.sep m b l1 l2 hm hb hz hne cb cb' hc hc'
  · unfold Rho.upd at hb
    split at hb
    · cases hb; simp
    · have := h.bound _ _ hb; simp; omega
  · unfold Gh.upd at hb
    split at hb
    · rename_i e; subst e; exact ⟨⟨w.heap.size, 0, sz⟩, by simp [Rho.upd]⟩
    · obtain ⟨cb, hc⟩ := h.has hb
      exact ⟨cb, hle _ _ hc⟩
  · unfold Rho.upd at hm
    split at hm
    · cases hm; exact .inr (Nat.le_refl _)
    · exact .inl ⟨m, cb, hm, rfl⟩

def AV.scalar : AV → Bool
  | .top | .agg _ | .tuple _ => false
  | _ => true

theorem VR.oneCell {ρ : Rho} {a : AV} {v : Value} (h : VR ρ a v) (hs : a.scalar = true) : v.oneCell' = true := by
  cases a <;> simp only [AV.scalar, Bool.false_eq_true] at hs <;> simp only [VR] at h
  · subst h; rfl
  · subst h; rfl
  · subst h; rfl
  · subst h; rfl
  · obtain ⟨cb, _, rfl⟩ := h; rfl
  · subst h; rfl
  · rcases h with ⟨cb, x, cap, _, rfl, _⟩ | ⟨_, rfl⟩ <;> rfl
  · subst h; rfl
  · subst h; rfl
  · obtain ⟨x, y, rfl, _⟩ := h; rfl

theorem SR.cell {ρ : Rho} {g : Gh} {w : World} (h : SR ρ g w) {b : BId} {l : List AV} (hb : g b = some l) {cb : CB} (hc : ρ b = some cb) {j : Nat} {v : AV} (hj : l[j]? = some v) :
    ∃ cv, w.cell? ⟨cb.blk, cb.sh + j, none⟩ = some cv ∧ VR ρ v cv := by
  obtain ⟨cb', cs, ty, fz, h1, h2, h3, _⟩ := h.cells b l hb (fun e => by subst e; simp at hj)
  rw [hc] at h1; cases h1
  obtain ⟨cv, h4, h5⟩ := h3 j v hj
  exact ⟨cv, by rw [cell_of_row w _ _ _ _ _ h2]; exact h4, h5⟩

/-- a cell of one's own is stored into -/
theorem SR.setCell {ρ : Rho} {g : Gh} {w : World} (h : SR ρ g w) {n : Nat} {l : List AV} (hb : g (.o n) = some l) {cb : CB} (hc : ρ (.o n) = some cb) {j : Nat} (hj : j < l.length) {v : AV} {cv : Value} (hv : VR ρ v cv) :
    SR ρ (g.upd (.o n) (some (l.set j v))) (w.setCell ⟨cb.blk, cb.sh + j, none⟩ cv) ∧ Tr ρ ρ w (w.setCell ⟨cb.blk, cb.sh + j, none⟩ cv) ∧
      (∃ u, w.cell? ⟨cb.blk, cb.sh + j, none⟩ = some u) ∧ w.frozen? ⟨cb.blk, cb.sh + j, none⟩ = false := by
  obtain ⟨cb', cs, ty, fz, h1, h2, h3, h4⟩ := h.cells _ l hb (fun _ => rfl)
  rw [hc] at h1; cases h1
  obtain ⟨h8, h4⟩ := h4
  obtain ⟨h5, rfl⟩ := h4 rfl
  have hother : ∀ k, k ≠ cb.blk → (w.setCell ⟨cb.blk, cb.sh + j, none⟩ cv).heap[k]? = w.heap[k]? := fun k hk => heap_setCell_other w _ k cv hk
  refine ⟨⟨fun b l' hb' hz => ?_, fun m b l1 l2 hm hb' hz hne => ?_, fun m cb' hb' => by simpa using h.bound m cb' hb', fun {b l'} hb' => ?_⟩,
    ⟨Rho.le_refl ρ, fun m cb' hm => .inl ⟨m, cb', hm, rfl⟩, fun _ _ h => .inl h, rfl, rfl, rfl, by simp, fun i hi hn => hother i (hn n cb hc).symm⟩, ?_, ?_⟩
  · unfold Gh.upd at hb'
    split at hb'
    · rename_i e; subst e; cases hb'
      refine ⟨cb, cs.setIfInBounds (cb.sh + j) cv, ty, (0, 0), hc, heap_setCell_same w _ _ cs ty cv h2, fun i u hi => ?_, by simpa using h8, fun _ => ⟨by simpa using h5, rfl⟩⟩
      rw [List.getElem?_set] at hi
      by_cases e : j = i
      · subst e
        simp only [if_true, hj] at hi
        cases hi
        refine ⟨cv, ?_, hv⟩
        obtain ⟨u', hu', _⟩ := h3 j l[j] (by simp [hj])
        have hlt : cb.sh + j < cs.size := by
          by_cases hh : cb.sh + j < cs.size
          · exact hh
          · rw [Array.getElem?_eq_none (by omega)] at hu'; cases hu'
        rw [Array.getElem?_setIfInBounds_self_of_lt hlt]
      · simp only [e, if_false] at hi
        obtain ⟨cu, h6, h7⟩ := h3 i u hi
        exact ⟨cu, by rw [Array.getElem?_setIfInBounds_ne (by omega)]; exact h6, h7⟩
    · rename_i e
      obtain ⟨cb', cs', ty', fz, k1, k2, k3, k4⟩ := h.cells b l' hb' hz
      refine ⟨cb', cs', ty', fz, k1, ?_, k3, k4⟩
      rw [hother _ fun e' => h.sep n b l l' hb hb' hz e cb cb' hc k1 e'.symm]; exact k2
  · unfold Gh.upd at hm hb'
    have hm' : ∃ l1', g (.o m) = some l1' := by
      split at hm
      · rename_i e; rw [e]; exact ⟨l, hb⟩
      · exact ⟨l1, hm⟩
    have hb2 : ∃ l2', g b = some l2' ∧ (l2' = [] → b.own = true) := by
      split at hb'
      · rename_i e; rw [e]; exact ⟨l, hb, fun _ => rfl⟩
      · exact ⟨l2, hb', hz⟩
    obtain ⟨l1', hm'⟩ := hm'
    obtain ⟨l2', hb2, hz2⟩ := hb2
    exact h.sep m b l1' l2' hm' hb2 hz2 hne
  · unfold Gh.upd at hb'
    split at hb'
    · rename_i e; rw [e]; exact ⟨cb, hc⟩
    · exact h.has hb'
  · obtain ⟨u, hu, _⟩ := SR.cell h hb hc (j := j) (v := l[j]) (by simp [hj])
    exact ⟨u, hu⟩
  · exact frozen_of_row w _ _ cs ty h2

theorem SR.kill {ρ : Rho} {g : Gh} {w : World} (h : SR ρ g w) (b : BId) : SR ρ (g.upd b none) w :=
  h.less fun b' l hb => by unfold Gh.upd at hb; split at hb <;> first | cases hb | exact hb

end Go.Sym

/- The operations on abstract values: what each one gives, which cells it reads, which it writes, which blocks it makes. -/
namespace Go.Sym
open Go

/-- what an operation does to the heap: cells read, cells of one's own written, blocks that are over, new blocks -/
structure Eff where
  rd : List (BId × Nat × Nat) := []
  wr : List (Nat × Nat × List AV) := []
  kill : List Nat := []
  newo : List (Nat × List AV) := []
  newr : List (Nat × List AV) := []

def lk (n : Nat) : List (Nat × List AV) → Option (List AV)
  | [] => none
  | (m, l) :: r => if m = n then some l else lk n r

def patch (l : List AV) (off : Nat) : List AV → List AV
  | [] => l
  | c :: cs => patch (l.set off c) (off + 1) cs

def patchAll (n : Nat) : List (Nat × Nat × List AV) → List AV → List AV
  | [], l => l
  | (m, off, cs) :: r, l => patchAll n r (if m = n then patch l off cs else l)

def Eff.app (e : Eff) (g : Gh) : Gh
  | .r n => match lk n e.newr with
    | some l => some l
    | none => g (.r n)
  | .o n => match lk n e.newo with
    | some l => some l
    | none => if e.kill.contains n then none else (g (.o n)).map (patchAll n e.wr)

def Eff.news (e : Eff) : BId → Bool
  | .r n => (lk n e.newr).isSome
  | .o n => (lk n e.newo).isSome

inductive TK where
  | int (k : IntKind)
  | bool
  | str
  | ptr (e : TypeId)
  | sl (e : TypeId)
  | arr (n : Nat) (e : TypeId)
  | st (fs : List (Nat × TypeId))
  | other

def tk (P : Program) (t : TypeId) : Option TK :=
  match P.underlying t with
  | none => none
  | some (.int k) => some (.int k)
  | some .bool => some .bool
  | some .string => some .str
  | some (.pointer e) => some (.ptr e)
  | some (.slice e) => some (.sl e)
  | some (.array n e) => some (.arr n e)
  | some (.struct fs) => some (.st (fs.toList.map fun f => (f.offset, f.type)))
  | some _ => some .other

def TK.agg : TK → Bool
  | .arr .. | .st .. => true
  | _ => false

def tsize (P : Program) (t : TypeId) : Option Nat := (P.info? t).map (·.size)
def tbytes (P : Program) (t : TypeId) : Option Nat := (P.info? t).map (·.bytes)

/-- a constant -/
def constA : Value → AV
  | .bool b => .bool b
  | .int k n => .int k n
  | .string s => .str s
  | .pointer none => .nilptr
  | .slice none 0 0 => .nilsl
  | .nilFunc => .nilfunc
  | _ => .top

theorem VR.const (ρ : Rho) (v : Value) : VR ρ (constA v) v := by
  unfold constA; split <;> simp [VR]

def tzero (P : Program) (t : TypeId) : Option (List AV) := ((P.info? t).bind (·.zero)).map fun v => v.cells.toList.map constA

theorem VRs.const (ρ : Rho) : ∀ l : List Value, VRs ρ (l.map constA) l
  | [] => .nil
  | v :: l => .cons (VR.const ρ v) (VRs.const ρ l)

/-- the cells of a value whose make is known -/
def AV.cells? : AV → Option (List AV)
  | .agg l => some l
  | .top | .tuple _ => none
  | v => some [v]

theorem VR.cells {ρ : Rho} {a : AV} {v : Value} {l : List AV} (h : VR ρ a v) (hl : a.cells? = some l) : VRs ρ l v.cells.toList := by
  cases a <;> simp only [AV.cells?, Option.some.injEq, reduceCtorEq] at hl <;> subst hl
  case agg cs =>
    simp only [VR] at h
    obtain ⟨l', rfl, h'⟩ := h
    simpa [Value.cells] using h'
  all_goals
    have h2 := h
    simp only [VR] at h2
    first
    | (subst h2; exact VRs.one h)
    | (obtain ⟨cb, _, rfl⟩ := h2; exact VRs.one h)
    | (rcases h2 with ⟨cb, x, cap, _, rfl, _⟩ | ⟨_, rfl⟩ <;> exact VRs.one h)
    | (obtain ⟨x, y, rfl, _⟩ := h2; exact VRs.one h)

/-- a part of a row of cells -/
def part? (P : Program) (t : TypeId) (l : List AV) (off : Nat) : Option AV :=
  match tk P t, tsize P t with
  | some k, some n => if k.agg then some (.agg ((l.drop off).take n)) else l[off]?
  | _, _ => none

/-- parts laid into cells, at places -/
def fillA (place : Nat → Option (Nat × Nat)) (l : List AV) : List (Nat × AV) → Option (List AV)
  | [] => some l
  | (i, v) :: r =>
    match place i, v.cells? with
    | some (off, n), some cs => if cs.length = n ∧ off + cs.length ≤ l.length then fillA place (patch l off cs) r else none
    | _, _ => none

/-- where the fields of a struct lie, and how many cells each one has -/
def places (P : Program) : List (Nat × TypeId) → Option (List (Nat × Nat))
  | [] => some []
  | (o, t) :: r =>
    match tsize P t, places P r with
    | some s, some l => some ((o, s) :: l)
    | _, _ => none

def zeros (z : List AV) (n : Nat) : List AV :=
  match z with
  | [v] => List.replicate n v
  | z => (List.range n).map fun i => z.getD (i % z.length) .top

/-- are two rows of whole numbers and bools the same? -/
def eqCells : List AV → List AV → Option Bool
  | [], [] => some true
  | .int k a :: l, .int k' b :: l' => if k = k' then (eqCells l l').map fun t => (a == b) && t else none
  | .bool a :: l, .bool b :: l' => (eqCells l l').map fun t => (a == b) && t
  | _, _ => none

def kindsOf (P : Program) : (depth : Nat) → TypeId → Option (List TK)
  | 0, _ => none
  | d + 1, t =>
    match P.underlying t, tsize P t with
    | some (.int k), some 1 => some [.int k]
    | some .bool, some 1 => some [.bool]
    | some (.array n e), some s => (kindsOf P d e).bind fun l => if s = n * l.length ∧ tsize P e = some l.length ∧ 0 < l.length then some (List.replicate n l).flatten else none
    | some (.struct fs), some s =>
      if P.stoodInHeld t then none
      else fs.toList.foldl (fun acc f => acc.bind fun l => if f.name = "_" ∨ f.offset ≠ l.length then none else (kindsOf P d f.type).bind fun l' => if tsize P f.type = some l'.length ∧ 0 < l'.length then some (l ++ l') else none) (some []) |>.bind fun l => if l.length = s then some l else none
    | _, _ => none

def fits : List TK → List AV → Bool
  | [], [] => true
  | .int k :: r, .int k' _ :: l => (k == k') && fits r l
  | .bool :: r, .bool _ :: l => fits r l
  | _, _ => false

def binA (P : Program) (op : BinOp) (t : TypeId) (x y : AV) : Option AV :=
  match op, x, y with
  | .shl, .int k a, .int _ b => if b < 0 then none else some (.int k (k.wrap (a * 2 ^ (min b.toNat k.bits))))
  | .shr, .int k a, .int _ b => if b < 0 then none else some (.int k (a.fdiv (2 ^ (min b.toNat k.bits))))
  | .add, .int k a, .int k' b => if k = k' then some (.int k (k.wrap (a + b))) else none
  | .sub, .int k a, .int k' b => if k = k' then some (.int k (k.wrap (a - b))) else none
  | .mul, .int k a, .int k' b => if k = k' then some (.int k (k.wrap (a * b))) else none
  | .quo, .int k a, .int k' b => if k = k' ∧ b ≠ 0 then some (.int k (k.wrap (a.tdiv b))) else none
  | .rem, .int k a, .int k' b => if k = k' ∧ b ≠ 0 then some (.int k (a.tmod b)) else none
  | .and, .int k a, .int k' b => if k = k' then some (.int k (k.wrap (BitVec.ofInt k.bits a &&& BitVec.ofInt k.bits b).toNat)) else none
  | .or, .int k a, .int k' b => if k = k' then some (.int k (k.wrap (BitVec.ofInt k.bits a ||| BitVec.ofInt k.bits b).toNat)) else none
  | .xor, .int k a, .int k' b => if k = k' then some (.int k (k.wrap (BitVec.ofInt k.bits a ^^^ BitVec.ofInt k.bits b).toNat)) else none
  | .eql, .int k a, .int k' b => if k = k' then some (.bool (a == b)) else none
  | .neq, .int k a, .int k' b => if k = k' then some (.bool (a != b)) else none
  | .lss, .int k a, .int k' b => if k = k' then some (.bool (decide (a < b))) else none
  | .leq, .int k a, .int k' b => if k = k' then some (.bool (decide (a ≤ b))) else none
  | .gtr, .int k a, .int k' b => if k = k' then some (.bool (decide (a > b))) else none
  | .geq, .int k a, .int k' b => if k = k' then some (.bool (decide (a ≥ b))) else none
  | .eql, .bool a, .bool b => match tk P t with | some .bool => some (.bool (a == b)) | _ => none
  | .neq, .bool a, .bool b => match tk P t with | some .bool => some (.bool (a != b)) | _ => none
  | .eql, .sl _ _ n _ _, .nilsl => match tk P t with | some (.sl _) => if n = 0 then none else some (.bool false) | _ => none
  | .neq, .sl _ _ n _ _, .nilsl => match tk P t with | some (.sl _) => if n = 0 then none else some (.bool true) | _ => none
  | .eql, .nilsl, .nilsl => match tk P t with | some (.sl _) => some (.bool true) | _ => none
  | .neq, .nilsl, .nilsl => match tk P t with | some (.sl _) => some (.bool false) | _ => none
  | .eql, .agg l, .agg l' => match tk P t, kindsOf P 20 t with
    | some k, some r => if k.agg && !P.eqGuardType P.depth t && fits r l && fits r l' then (eqCells l l').map .bool else none
    | _, _ => none
  | .neq, .agg l, .agg l' => match tk P t, kindsOf P 20 t with
    | some k, some r => if k.agg && !P.eqGuardType P.depth t && fits r l && fits r l' then (eqCells l l').map fun b => .bool (!b) else none
    | _, _ => none
  | _, _, _ => none

def unA (op : UnOp) (x : AV) : Option AV :=
  match op, x with
  | .neg, .int k n => some (.int k (k.wrap (0 - n)))
  | .not, .bool b => some (.bool (!b))
  | _, _ => none

/-- a whole number, or nothing -/
def AV.int? : AV → Option Int
  | .int _ n => some n
  | _ => none

end Go.Sym

/- The operations (no calls of Go functions): where the abstract operation gives something, the model's operation gives what stands to it so. -/
namespace Go.Sym
open Go

def AV.isSl : AV → Bool
  | .nilsl | .sl .. => true
  | _ => false

def bopA (P : Program) (g : Gh) (nm : Nat) (b : Builtin) (ts : List TypeId) (xs : List AV) : Option (AV × Eff) :=
  match b, ts, xs with
  | .len, t :: _, x :: _ =>
    match tk P t, x with
    | some (.sl _), .sl _ _ n _ _ => some (.int .i64 n, {})
    | some (.sl _), .nilsl => some (.int .i64 0, {})
    | some .str, .str s => some (.int .i64 s.size, {})
    | some (.arr n _), _ => some (.int .i64 n, {})
    | _, _ => none
  | .max, _, [.int k a, .int _ b] => some (.int k (if b > a then b else a), {})
  | .min, _, [.int k a, .int _ b] => some (.int k (if b < a then b else a), {})
  | .append, [t, u], [s, x] =>
    match tk P t, tk P u with
    | some (.sl e), some (.sl _) =>
      match tsize P e, tbytes P e, tzero P e with
      | some z, some by_, some z0 =>
        if z0.length ≠ z then none else
        match x with
        | .nilsl => if s.isSl then some (s, {}) else none
        | .sl b off n _ _ =>
          if n = 0 then (if s.isSl then some (s, {}) else none) else
          match g b with
          | none => none
          | some l =>
            if l.length < off + n * z ∨ ((l.drop off).take (n * z)).all AV.scalar = false then none else
            match s with
            | .nilsl => if n * by_ ≤ 2 ^ 46 ∧ n ≤ 2 ^ 46 then some (.sl (.o nm) 0 n z false, { rd := [(b, off, n * z)], newo := [(nm, (l.drop off).take (n * z))] }) else none
            | .sl b' off' m z' full =>
              match g b' with
              | none => none
              | some l' =>
                if l'.length < off' + m * z ∨ z' ≠ z ∨ 2 ^ 46 < (m + n) * by_ ∨ 2 ^ 46 < m + n then none else
                if full then
                  some (.sl (.o nm) 0 (m + n) z false, { rd := [(b, off, n * z), (b', off', m * z)], newo := [(nm, (l'.drop off').take (m * z) ++ (l.drop off).take (n * z))] })
                else match b' with
                  | .o k => some (.sl (.o nm) 0 (m + n) z false, { rd := [(b, off, n * z), (b', off', m * z)], kill := [k], newo := [(nm, (l'.drop off').take (m * z) ++ (l.drop off).take (n * z))] })
                  | .r _ => none
            | _ => none
        | _ => none
      | _, _, _ => none
    | _, _ => none
  | .copy, t :: _, [d, x] =>
    match tk P t with
    | some (.sl e) =>
      match tsize P e, d, x with
      | some z, .sl (.o k) off m z' _, .sl b off' n z'' _ =>
        if z' ≠ z ∨ z'' ≠ z then none else
        if min n m = 0 then some (.int .i64 0, {}) else
        match g (.o k), g b with
        | some l, some l' =>
          if l.length < off + min n m * z ∨ l'.length < off' + min n m * z ∨ ((l'.drop off').take (min n m * z)).all AV.scalar = false then none
          else some (.int .i64 (min n m : Nat), { rd := [(b, off', min n m * z)], wr := [(k, off, (l'.drop off').take (min n m * z))] })
        | _, _ => none
      | _, _, _ => none
    | _ => none
  | _, _, _ => none

def aop (P : Program) (ev : Operand → AV) (g : Gh) (nm : Nat) : Op → Option (AV × Eff)
  | .move x | .assign x => some (ev x, {})
  | .pick c a b =>
    match ev c with
    | .bool t => some (if t then ev a else ev b, {})
    | _ => none
  | .alloc t => (tzero P t).map fun l => (.ptr (.o nm) 0, { newo := [(nm, l)] })
  | .box _ x => (ev x).cells?.map fun l => (.ptr (.o nm) 0, { newo := [(nm, l)] })
  | .build t parts =>
    match tk P t, tzero P t with
    | some (.st fs), some z =>
      match places P fs with
      | some pl => (fillA (fun i => pl[i]?) z (parts.toList.map fun p => (p.1, ev p.2))).map fun l => (.agg l, {})
      | none => none
    | some (.arr _ e), some z =>
      match tsize P e with
      | some s => (fillA (fun i => some (i * s, s)) z (parts.toList.map fun p => (p.1, ev p.2))).map fun l => (.agg l, {})
      | none => none
    | _, _ => none
  | .buildSlice t n parts =>
    match tk P t with
    | some (.sl e) =>
      match tsize P e, tzero P e with
      | some s, some z =>
        if n * s ≤ 2 ^ 24 ∧ 0 < z.length then (fillA (fun i => some (i * s, s)) (zeros z (n * s)) (parts.toList.map fun p => (p.1, ev p.2))).map fun l => (.sl (.o nm) 0 n s true, { newo := [(nm, l)] }) else none
      | _, _ => none
    | _ => none
  | .load t a =>
    match ev a, tk P t, tsize P t with
    | .ptr b off, some k, some n =>
      match g b with
      | some l =>
        if k.agg then (if off + n ≤ l.length then some (.agg ((l.drop off).take n), { rd := [(b, off, n)] }) else none)
        else (l[off]?).map fun v => (v, { rd := [(b, off, 1)] })
      | none => none
    | _, _, _ => none
  | .store t a x =>
    match ev a, (ev x).cells?, tsize P t with
    | .ptr (.o n) off, some cs, some s =>
      match g (.o n) with
      | some l => if cs.length = s ∧ off + cs.length ≤ l.length ∧ cs.all AV.scalar = true then some (.tuple [], { wr := [(n, off, cs)] }) else none
      | none => none
    | _, _, _ => none
  | .nilCheck x =>
    match ev x with
    | .ptr b o => some (.ptr b o, {})
    | .func f a b => some (.func f a b, {})
    | _ => none
  | .binOp op t x y _ => (binA P op t (ev x) (ev y)).map fun v => (v, {})
  | .unOp op _ x => (unA op (ev x)).map fun v => (v, {})
  | .convert src dst x =>
    match tk P src, tk P dst, ev x with
    | some _, some (.int k), .int _ n => some (.int k (k.wrap n), {})
    | _, _, _ => none
  | .makeFunc (.func f) first cap => some (.func f (first.toList.map ev) (cap.toList.map ev), {})
  | .makeSlice t n c =>
    match tk P t, ev n, ev c with
    | some (.sl e), .int _ l, .int _ c =>
      match tsize P e, tbytes P e, tzero P e with
      | some s, some by_, some z =>
        if 0 ≤ l ∧ l ≤ c ∧ by_ * c ≤ 2 ^ 46 ∧ c ≤ 2 ^ 46 ∧ z.length = s ∧ 0 < s then some (.sl (.o nm) 0 l.toNat s (l == c), { newo := [(nm, zeros z (c.toNat * s))] }) else none
      | _, _, _ => none
    | _, _, _ => none
  | .slice t x lo hi mx =>
    match tk P t, ev x with
    | some (.arr n e), .ptr b off =>
      match tsize P e, g b, (lo.map ev).elim (some 0) AV.int?, (hi.map ev).elim (some (n : Int)) AV.int?, (mx.map ev).elim (some (n : Int)) AV.int? with
      | some s, some l, some i, some j, some m =>
        if 0 ≤ i ∧ i ≤ j ∧ j ≤ m ∧ m ≤ n ∧ off + n * s ≤ l.length ∧ 0 < n * s ∧ (mx.isSome = true → hi.isSome = true) then some (.sl b (off + i.toNat * s) (j - i).toNat s (j == m), { rd := [(b, off, n * s)] }) else none
      | _, _, _, _, _ => none
    | some (.sl e), .sl b off n s full =>
      match tsize P e, (lo.map ev).elim (some 0) AV.int?, (hi.map ev).elim (some (n : Int)) AV.int?, (mx.map ev).elim (some (n : Int)) AV.int? with
      | some s', some i, some j, some m =>
        if 0 ≤ i ∧ i ≤ j ∧ j ≤ m ∧ m ≤ n ∧ s = s' ∧ (mx.isSome = true → hi.isSome = true) then some (.sl b (off + i.toNat * s) (j - i).toNat s (if mx.isSome then j == m else full && j == n), {}) else none
      | _, _, _, _ => none
    | some (.sl e), .nilsl =>
      match tsize P e, (lo.map ev).elim (some 0) AV.int?, (hi.map ev).elim (some 0) AV.int?, (mx.map ev).elim (some 0) AV.int? with
      | some _, some i, some j, some m => if i = 0 ∧ j = 0 ∧ m = 0 ∧ (mx.isSome = true → hi.isSome = true) then some (.nilsl, {}) else none
      | _, _, _, _ => none
    | _, _ => none
  | .fieldAddr t x f =>
    match ev x, tk P t with
    | .ptr b off, some (.st fs) =>
      match fs[f]? with
      | some (o, ft) =>
        match tsize P ft with
        | some s => if s = 0 then none else some (.ptr b (off + o), {})
        | none => none
      | none => none
    | _, _ => none
  | .field t x f =>
    match ev x, tk P t with
    | .agg l, some (.st fs) =>
      match fs[f]? with
      | some (o, ft) => (part? P ft l o).map fun v => (v, {})
      | none => none
    | _, _ => none
  | .indexAddr t x i =>
    match tk P t, ev x, ev i with
    | some (.sl e), .sl b off n _ _, .int _ i =>
      match tsize P e with
      | some s => if 0 ≤ i ∧ i < n then some (.ptr b (off + i.toNat * s), {}) else none
      | none => none
    | some (.arr n e), .ptr b off, .int _ i =>
      match tsize P e with
      | some s => if 0 ≤ i ∧ i < n then some (.ptr b (off + i.toNat * s), {}) else none
      | none => none
    | _, _, _ => none
  | .index t x i =>
    match tk P t, ev x, ev i with
    | some (.arr n e), .agg l, .int _ i =>
      match tsize P e with
      | some s => if 0 ≤ i ∧ i < n then (part? P e l (i.toNat * s)).map fun v => (v, {}) else none
      | none => none
    | _, _, _ => none
  | .extract x i =>
    match ev x with
    | .tuple l => (l[i]?).map fun v => (v, {})
    | _ => none
  | .call c =>
    match c.callee with
    | .builtin b => bopA P g nm b c.argTypes.toList (c.args.toList.map ev)
    | _ => none
  | _ => none

def Gives (ρ : Rho) (v : AV) (nx : Next) : Prop := (∃ cv, nx = .value cv ∧ VR ρ v cv) ∨ (nx = .skip ∧ v = .tuple [])

/-- what an operation's run comes to -/
def Comes (P : Program) (ρ : Rho) (g : Gh) (w : World) (s : Sem Next) (v : AV) (e : Eff) : Prop :=
  ∃ nx w' ρ', s.run P w = .ok nx w' ∧ Gives ρ' v nx ∧ SR ρ' (e.app g) w' ∧ Tr ρ ρ' w w' ∧ (∀ b, ρ b = none → e.news b = false → ρ' b = none)

theorem Eff.app_rd (e : Eff) (g : Gh) (h1 : e.wr = []) (h2 : e.kill = []) (h3 : e.newo = []) (h4 : e.newr = []) : e.app g = g := by
  funext b
  cases b with
  | r n => simp [Eff.app, h4, lk]
  | o n => simp [Eff.app, h1, h2, h3, lk, patchAll]

theorem Comes.pure {P : Program} {ρ : Rho} {g : Gh} {w : World} {s : Sem Next} {v : AV} {e : Eff} (h : SR ρ g w) {cv : Value} (hr : s.run P w = .ok (.value cv) w) (hv : VR ρ v cv)
    (h1 : e.wr = []) (h2 : e.kill = []) (h3 : e.newo = []) (h4 : e.newr = []) : Comes P ρ g w s v e :=
  ⟨_, w, ρ, hr, .inl ⟨cv, rfl, hv⟩, by rw [Eff.app_rd e g h1 h2 h3 h4]; exact h, Tr.refl _ _, fun b hb _ => hb⟩

theorem Eff.app_new (g : Gh) (rd : List (BId × Nat × Nat)) (n : Nat) (l : List AV) : ({ rd := rd, newo := [(n, l)] } : Eff).app g = g.upd (.o n) (some l) := by
  funext b
  cases b with
  | r m => simp [Eff.app, lk, Gh.upd]
  | o m =>
    simp only [Eff.app, lk, Gh.upd]
    by_cases e : n = m
    · subst e; simp
    · have e' : ¬ (BId.o m = BId.o n) := fun h => e (by cases h; rfl)
      simp only [e, if_false, e']
      cases g (BId.o m) <;> simp [patchAll]

/-- a new block of one's own comes -/
theorem Comes.new {P : Program} {ρ : Rho} {g : Gh} {w : World} {s : Sem Next} {v : AV} {rd : List (BId × Nat × Nat)} {n : Nat} {l : List AV} (hn : ρ (.o n) = none)
    {cs : Array Value} {ty : TypeId} {cv : Value} {w1 : World} (hw1 : SR ρ g w1 ∧ Tr ρ ρ w w1) (hr : s.run P w = .ok (.value cv) (w1.alloc (.cells cs ty)))
    (hl : ∀ (j : Nat) v, l[j]? = some v → ∃ cv, cs[j]? = some cv ∧ VR ρ v cv)
    (hv : VR (ρ.upd (.o n) ⟨w1.heap.size, 0, cs.size⟩) v cv) : Comes P ρ g w s v { rd := rd, newo := [(n, l)] } := by
  obtain ⟨h1, h2⟩ := SR.alloc hw1.1 hn cs.size rfl hl ty
  refine ⟨_, _, _, hr, .inl ⟨cv, rfl, hv⟩, by rw [Eff.app_new]; exact h1, hw1.2.trans h2, fun b hb he => ?_⟩
  unfold Rho.upd
  split
  · rename_i e; subst e; simp [Eff.news, lk] at he
  · exact hb

theorem tk_int {P : Program} {t : TypeId} {k : IntKind} (h : tk P t = some (.int k)) : P.underlying t = some (.int k) := by
  unfold tk at h; split at h <;> simp_all
theorem tk_bool {P : Program} {t : TypeId} (h : tk P t = some .bool) : P.underlying t = some .bool := by
  unfold tk at h; split at h <;> simp_all
theorem tk_str {P : Program} {t : TypeId} (h : tk P t = some .str) : P.underlying t = some .string := by
  unfold tk at h; split at h <;> simp_all
theorem tk_sl {P : Program} {t e : TypeId} (h : tk P t = some (.sl e)) : P.underlying t = some (.slice e) := by
  unfold tk at h; split at h <;> simp_all
theorem tk_ptr {P : Program} {t e : TypeId} (h : tk P t = some (.ptr e)) : P.underlying t = some (.pointer e) := by
  unfold tk at h; split at h <;> simp_all
theorem tk_arr {P : Program} {t e : TypeId} {n : Nat} (h : tk P t = some (.arr n e)) : P.underlying t = some (.array n e) := by
  unfold tk at h; split at h <;> simp_all
theorem tk_st {P : Program} {t : TypeId} {fs : List (Nat × TypeId)} (h : tk P t = some (.st fs)) : ∃ fs', P.underlying t = some (.struct fs') ∧ fs = fs'.toList.map fun f => (f.offset, f.type) := by
  unfold tk at h; split at h <;> simp_all
theorem tk_some {P : Program} {t : TypeId} {k : TK} (h : tk P t = some k) : ∃ d, P.underlying t = some d ∧ (k.agg = true ↔ (∃ fs, d = .struct fs) ∨ ∃ n e, d = .array n e) := by
  unfold tk at h
  split at h
  · cases h
  all_goals
    rename_i h'
    cases h
    refine ⟨_, h', ?_⟩
    first
    | (simp [TK.agg]; done)
    | (simp only [TK.agg, Bool.false_eq_true, false_iff]
       rintro (⟨fs, rfl⟩ | ⟨n, e, rfl⟩) <;> simp_all)

theorem run_sizeOf {P : Program} {t : TypeId} {n : Nat} (h : tsize P t = some n) (w : World) : (sizeOf t).run P w = .ok n w := by
  unfold tsize at h
  cases hi : P.info? t with
  | none => simp [hi] at h
  | some i => simp [hi] at h; simp [sizeOf, typeInfo, hi, h]

theorem run_isAgg {P : Program} {t : TypeId} {k : TK} (h : tk P t = some k) (w : World) : (isAgg t).run P w = .ok k.agg w := by
  obtain ⟨d, hd, hk⟩ := tk_some h
  simp only [isAgg, Sem.run_bind, run_underlying hd, Result.andThen_ok]
  cases hka : k.agg with
  | true =>
    rcases hk.1 hka with ⟨fs, rfl⟩ | ⟨n, e, rfl⟩ <;> rfl
  | false =>
    have : ¬ ((∃ fs, d = .struct fs) ∨ ∃ n e, d = .array n e) := fun h => by rw [hk.2 h] at hka; cases hka
    cases d <;> first | rfl | (exact absurd (Or.inl ⟨_, rfl⟩) this) | (exact absurd (Or.inr ⟨_, _, rfl⟩) this)

theorem tzero_some {P : Program} {t : TypeId} {l : List AV} (h : tzero P t = some l) : ∃ i v, P.info? t = some i ∧ i.zero = some v ∧ l = v.cells.toList.map constA := by
  unfold tzero at h
  cases hi : P.info? t with
  | none => simp [hi] at h
  | some i =>
    cases hz : i.zero with
    | none => simp [hi, hz] at h
    | some v => simp [hi, hz] at h; exact ⟨i, v, rfl, hz, by simp [h]⟩

theorem run_zeroValue {P : Program} {t : TypeId} {i : TypeInfo} {v : Value} (h : P.info? t = some i) (hz : i.zero = some v) (w : World) : (zeroValue t).run P w = .ok v w := by
  simp [zeroValue, typeInfo, h, hz]

theorem VRs.consts (ρ : Rho) (v : Value) : VRs ρ (v.cells.toList.map constA) v.cells.toList := VRs.const ρ _

theorem Addr.add_none (b o n : Nat) : (⟨b, o, none⟩ : Addr).add n = ⟨b, o + n, none⟩ := by
  unfold Addr.add; split
  · rename_i h; subst h; rfl
  · rfl

section
variable {P : Program} {ρ : Rho} {g : Gh} {w : World}

theorem run_part (h : SR ρ g w) {t : TypeId} {l : List AV} {cs : List Value} (hl : VRs ρ l cs) {off : Nat} {v : AV} (hp : part? P t l off = some v) :
    ∃ cv, (part t cs.toArray off).run P w = .ok cv w ∧ VR ρ v cv := by
  have := h
  unfold part? at hp
  split at hp
  · rename_i k n hk hn
    split at hp
    · rename_i ha
      cases hp
      refine ⟨.agg (cs.toArray.extract off (off + n)), by simp [part, run_isAgg hk, ha, run_sizeOf hn], ?_⟩
      simp only [VR]
      exact ⟨(cs.drop off).take n, by simp [List.extract_eq_take_drop], (hl.drop off).take n⟩
    · rename_i ha
      obtain ⟨cv, h1, h2⟩ := hl.get off v hp
      refine ⟨cv, ?_, h2⟩
      simp only [Bool.not_eq_true] at ha
      simp [part, run_isAgg hk, ha, h1]
  · cases hp

end
end Go.Sym

/- Each operation is sound (first part): moves, new blocks, loads, stores, fields, indexes, numbers. -/
namespace Go.Sym
open Go

section
variable {P : Program} {ρ : Rho} {g : Gh} {w : World} (h : SR ρ g w) {ev : Operand → AV} {cev : Operand → Value} (hev : ∀ x, VR ρ (ev x) (cev x))
include h hev

theorem s_move (x : Operand) {o : Oper} (ho : o.op = .move x ∨ o.op = .assign x) : Comes P ρ g w (execOp cev o) (ev x) {} := by
  refine Comes.pure h (cv := cev x) ?_ (hev x) rfl rfl rfl rfl
  rcases ho with ho | ho <;> simp [execOp, ho]

theorem s_pick (c a b : Operand) {o : Oper} (ho : o.op = .pick c a b) {t : Bool} (hc : ev c = .bool t) : Comes P ρ g w (execOp cev o) (if t then ev a else ev b) {} := by
  have h1 := hev c
  rw [hc] at h1
  simp only [VR] at h1
  refine Comes.pure h (cv := if t then cev a else cev b) ?_ (by cases t <;> simp [hev]) rfl rfl rfl rfl
  cases t <;> simp [execOp, ho, h1, asBool]

theorem s_alloc (t : TypeId) {o : Oper} (ho : o.op = .alloc t) {nm : Nat} (hn : ρ (.o nm) = none) {l : List AV} (hl : tzero P t = some l) :
    Comes P ρ g w (execOp cev o) (.ptr (.o nm) 0) { newo := [(nm, l)] } := by
  have := hev (.tmp 0)
  obtain ⟨i, v, hi, hz, rfl⟩ := tzero_some hl
  refine Comes.new hn (cs := v.cells) (ty := t) (cv := .pointer (some ⟨w.heap.size, 0, none⟩)) ⟨h, Tr.refl _ _⟩ ?_ (fun j u hj => ?_) ?_
  · simp [execOp, ho, Instr.alloc, run_zeroValue hi hz, newVar, newRow]
  · have := (VRs.consts ρ v).get j u hj
    simpa using this
  · simp [VR, Rho.upd]

theorem s_box (t : TypeId) (x : Operand) {o : Oper} (ho : o.op = .box t x) {nm : Nat} (hn : ρ (.o nm) = none) {l : List AV} (hl : (ev x).cells? = some l) :
    Comes P ρ g w (execOp cev o) (.ptr (.o nm) 0) { newo := [(nm, l)] } := by
  have hc := VR.cells (hev x) hl
  refine Comes.new hn (cs := (cev x).cells) (ty := t) (cv := .pointer (some ⟨w.heap.size, 0, none⟩)) ⟨h, Tr.refl _ _⟩ ?_ (fun j u hj => ?_) ?_
  · simp [execOp, ho, Instr.box, newVar, newRow]
  · have := hc.get j u hj
    simpa using this
  · simp [VR, Rho.upd]

omit h hev in
theorem patch_length : ∀ (cs l : List AV) (off : Nat), (patch l off cs).length = l.length
  | [], l, off => rfl
  | c :: cs, l, off => by simp [patch, patch_length cs]

/-- the model's way of laying a value's cells into a row -/
def laid (cs : Array Value) (off : Nat) (v : List Value) : Array Value := (v.zipIdx.foldl (fun cs (c, j) => cs.setIfInBounds (off + j) c) cs)

omit h hev in
theorem laid_patch {ρ : Rho} : ∀ (v : List Value) (a : List AV) (_ : VRs ρ a v) (l : List AV) (cs : Array Value) (off : Nat) (_ : VRs ρ l cs.toList) (k : Nat),
    VRs ρ (patch l (off + k) a) ((v.zipIdx k).foldl (fun cs (c, j) => cs.setIfInBounds (off + j) c) cs).toList
  | [], a, ha, l, cs, off, hl, k => by
    cases a with
    | nil => simpa [patch] using hl
    | cons a as => simp [VRs] at ha
  | v :: vs, [], ha, l, cs, off, hl, k => by simp [VRs] at ha
  | v :: vs, a :: as, ha, l, cs, off, hl, k => by
    simp only [VRs] at ha
    obtain ⟨c, cs', e, h1, h2⟩ := ha
    cases e
    simp only [patch, List.zipIdx_cons, List.foldl_cons]
    exact laid_patch vs as h2 (l.set (off + k) a) (cs.setIfInBounds (off + k) v) off (by simpa using hl.set (off + k) h1) (k + 1)

omit h hev in
theorem s_fill {ρ : Rho} {place : Nat → Option (Nat × Nat)} : ∀ (parts : List (Nat × AV)) (cparts : List (Nat × Value)) (_ : parts.map (·.1) = cparts.map (·.1)) (_ : VRs ρ (parts.map (·.2)) (cparts.map (·.2)))
    (l l' : List AV) (cs : Array Value) (_ : VRs ρ l cs.toList) (_ : fillA place l parts = some l'), ∃ cs', Instr.fill place cs cparts = some cs' ∧ VRs ρ l' cs'.toList
  | [], [], _, _, l, l', cs, hl, hf => by
    simp only [fillA, Option.some.injEq] at hf
    subst hf
    exact ⟨cs, rfl, hl⟩
  | [], _ :: _, h1, _, _, _, _, _, _ => by simp at h1
  | _ :: _, [], h1, _, _, _, _, _, _ => by simp at h1
  | (i, v) :: r, (j, cv) :: cr, h1, h2, l, l', cs, hl, hf => by
    simp only [List.map_cons, List.cons.injEq] at h1
    obtain ⟨rfl, h1⟩ := h1
    simp only [List.map_cons, VRs] at h2
    obtain ⟨c, cs', e, hv, h2⟩ := h2
    cases e
    simp only [fillA] at hf
    split at hf
    · rename_i off n vs hp hvs
      split at hf
      · rename_i hc
        have hcells := VR.cells hv hvs
        have hlen := hcells.length
        have hll := hl.length
        simp only [Array.length_toList] at hlen hll
        have hlaid := laid_patch cv.cells.toList vs hcells l cs off hl 0
        obtain ⟨cs'', h5, h6⟩ := s_fill r cr h1 h2 _ _ _ hlaid hf
        refine ⟨cs'', ?_, h6⟩
        simp only [Instr.fill, hp]
        rw [if_neg]
        · rw [← h5]
          congr 1
          rw [← Array.foldl_toList, Array.toList_zipIdx]
        · simp only [Bool.or_eq_true, decide_eq_true_eq, ne_eq, not_or]
          omega
      · cases hf
    · cases hf

omit h hev in
theorem run_places {w : World} : ∀ (L : List Field) (pl : List (Nat × Nat)), places P (L.map fun f => (f.offset, f.type)) = some pl →
    (L.mapM (m := Sem) fun f => do pure (f.offset, ← sizeOf f.type)).run P w = .ok pl w
  | [], pl, hp => by simp only [List.map_nil, places, Option.some.injEq] at hp; subst hp; rfl
  | f :: L, pl, hp => by
    simp only [List.map_cons, places] at hp
    split at hp
    · rename_i s l hs hl
      cases hp
      simp only [List.mapM_cons, Sem.run_bind, run_sizeOf hs, Result.andThen_ok, Sem.run_pure, run_places L l hl]
    · cases hp

omit h in
theorem s_parts (parts : Array (Nat × Operand)) : (parts.toList.map fun p => (p.1, ev p.2)).map (·.1) = (parts.map fun p => (p.1, cev p.2)).toList.map (·.1) ∧
    VRs ρ ((parts.toList.map fun p => (p.1, ev p.2)).map (·.2)) ((parts.map fun p => (p.1, cev p.2)).toList.map (·.2)) := by
  refine ⟨by simp, ?_⟩
  simp only [List.map_map, Array.toList_map]
  refine VRs.of_get (by simp) fun i v hi => ?_
  simp only [List.getElem?_map, Option.map_eq_some_iff, Function.comp] at hi ⊢
  obtain ⟨a, ha, rfl⟩ := hi
  exact ⟨_, ⟨a, ha, rfl⟩, hev _⟩

theorem s_build_struct (t : TypeId) (parts : Array (Nat × Operand)) {o : Oper} (ho : o.op = .build t parts) {fs : List (Nat × TypeId)} (ht : tk P t = some (.st fs)) {z l : List AV} (hz : tzero P t = some z)
    {pl : List (Nat × Nat)} (hpl : places P fs = some pl) (hf : fillA (fun i => pl[i]?) z (parts.toList.map fun p => (p.1, ev p.2)) = some l) : Comes P ρ g w (execOp cev o) (.agg l) {} := by
  obtain ⟨fs', hu, rfl⟩ := tk_st ht
  obtain ⟨i, v, hi, hzv, rfl⟩ := tzero_some hz
  obtain ⟨p1, p2⟩ := s_parts hev (ρ := ρ) parts
  obtain ⟨cs', h1, h2⟩ := s_fill (ρ := ρ) _ _ p1 p2 _ _ v.cells (VRs.consts ρ v) hf
  refine Comes.pure h (cv := .agg cs') ?_ (by simp only [VR]; exact ⟨cs'.toList, by simp, h2⟩) rfl rfl rfl rfl
  have hm' : (fs'.mapM (m := Sem) fun f => do pure (f.offset, ← sizeOf f.type)).run P w = .ok pl.toArray w := by
    rw [Array.mapM_eq_mapM_toList]
    simp only [Sem.run_map, run_places _ _ hpl, Result.andThen_ok]
  simp only [execOp, ho, Instr.build, Sem.run_bind, run_zeroValue hi hzv, Result.andThen_ok, run_underlying hu, hm', List.getElem?_toArray]
  simp only [h1, Sem.run_pure, Result.andThen_ok]

theorem s_build_array (t : TypeId) (parts : Array (Nat × Operand)) {o : Oper} (ho : o.op = .build t parts) {n : Nat} {e : TypeId} (ht : tk P t = some (.arr n e)) {z l : List AV} (hz : tzero P t = some z)
    {s : Nat} (hs : tsize P e = some s) (hf : fillA (fun i => some (i * s, s)) z (parts.toList.map fun p => (p.1, ev p.2)) = some l) : Comes P ρ g w (execOp cev o) (.agg l) {} := by
  have hu := tk_arr ht
  obtain ⟨i, v, hi, hzv, rfl⟩ := tzero_some hz
  obtain ⟨p1, p2⟩ := s_parts hev (ρ := ρ) parts
  obtain ⟨cs', h1, h2⟩ := s_fill (ρ := ρ) _ _ p1 p2 _ _ v.cells (VRs.consts ρ v) hf
  refine Comes.pure h (cv := .agg cs') ?_ (by simp only [VR]; exact ⟨cs'.toList, by simp, h2⟩) rfl rfl rfl rfl
  simp only [execOp, ho, Instr.build, Sem.run_bind, run_zeroValue hi hzv, Result.andThen_ok, run_underlying hu, run_sizeOf hs]
  simp only [h1, Sem.run_pure, Result.andThen_ok]

omit h hev in
theorem zeros_VRs {ρ : Rho} (v : Value) (n : Nat) (hv : 0 < v.cells.size ∨ n = 0) : VRs ρ (zeros (v.cells.toList.map constA) n) (((Array.range n).map fun i => v.cells[i % v.cells.size]!).toList) := by
  have key : VRs ρ ((List.range n).map fun i => (v.cells.toList.map constA).getD (i % (v.cells.toList.map constA).length) .top) (((Array.range n).map fun i => v.cells[i % v.cells.size]!).toList) := by
    refine VRs.of_get (by simp) fun i a hi => ?_
    simp only [List.getElem?_map, Option.map_eq_some_iff] at hi
    obtain ⟨j, hj, rfl⟩ := hi
    obtain ⟨hj1, hj2⟩ := List.getElem?_eq_some_iff.mp hj
    simp only [List.length_range] at hj1
    simp only [List.getElem_range] at hj2
    subst hj2
    refine ⟨v.cells[i % v.cells.size]!, by simp [hj1], ?_⟩
    have hpos : 0 < v.cells.size := by omega
    have hlt : i % v.cells.size < v.cells.size := Nat.mod_lt _ hpos
    have hg := (VRs.consts ρ v).get (i % v.cells.size) (constA v.cells[i % v.cells.size]) (by simp [hlt])
    obtain ⟨cv, h1, h2⟩ := hg
    simp only [Array.getElem?_toList, hlt, Array.getElem?_eq_getElem, Option.some.injEq] at h1
    subst h1
    simpa [hlt] using h2
  unfold zeros
  split
  · rename_i u hu
    have : (List.replicate n u) = (List.range n).map fun i => (v.cells.toList.map constA).getD (i % (v.cells.toList.map constA).length) .top := by
      rw [hu]
      refine List.ext_getElem (by simp) fun i h1 h2 => ?_
      simp [Nat.mod_one]
    rw [this]; exact key
  · exact key

theorem s_buildSlice (t : TypeId) (n : Nat) (parts : Array (Nat × Operand)) {o : Oper} (ho : o.op = .buildSlice t n parts) {nm : Nat} (hn : ρ (.o nm) = none) {e : TypeId} (ht : tk P t = some (.sl e)) {s : Nat} (hs : tsize P e = some s)
    {z l : List AV} (hz : tzero P e = some z) (hzl : 0 < z.length ∨ n * s = 0) (hb : n * s ≤ 2 ^ 24) (hf : fillA (fun i => some (i * s, s)) (zeros z (n * s)) (parts.toList.map fun p => (p.1, ev p.2)) = some l) :
    Comes P ρ g w (execOp cev o) (.sl (.o nm) 0 n s true) { newo := [(nm, l)] } := by
  have hu := tk_sl ht
  obtain ⟨i, v, hi, hzv, rfl⟩ := tzero_some hz
  obtain ⟨p1, p2⟩ := s_parts hev (ρ := ρ) parts
  have hz0 := zeros_VRs (ρ := ρ) v (n * s) (by simpa using hzl)
  obtain ⟨cs', h1, h2⟩ := s_fill (ρ := ρ) _ _ p1 p2 _ _ _ hz0 hf
  have hsize : cs'.size = n * s := by
    have hfl : ∀ (parts : List (Nat × AV)) (l l' : List AV), fillA (fun i => some (i * s, s)) l parts = some l' → l'.length = l.length := by
      intro parts
      induction parts with
      | nil => intro l l' hh; simp only [fillA, Option.some.injEq] at hh; rw [hh]
      | cons p ps ih =>
        intro l l' hh
        obtain ⟨i, v⟩ := p
        simp only [fillA] at hh
        split at hh
        · split at hh
          · rw [ih _ _ hh, patch_length]
          · cases hh
        · cases hh
    have e1 := h2.length
    have e2 := hfl _ _ _ hf
    have e3 := hz0.length
    simp only [Array.length_toList] at e1 e3
    simp at e3
    omega
  refine Comes.new hn (cs := cs') (ty := e) (cv := .slice (some ⟨w.heap.size, 0, none⟩) n n) ⟨h, Tr.refl _ _⟩ ?_ (fun j u hj => by simpa using h2.get j u hj) ?_
  · simp only [execOp, ho, Instr.buildSlice, Sem.run_bind, run_underlying hu, Result.andThen_ok, run_sizeOf hs]
    rw [if_neg (by omega)]
    by_cases h0 : n * s = 0
    · simp only [h0, if_true, Sem.run_bind, Sem.run_pure, Result.andThen_ok]
      have harr : ((Array.range 0).map fun x => (#[] : Array Value)[x % (#[] : Array Value).size]!) = ((Array.range (n * s)).map fun x => v.cells[x % v.cells.size]!) := by simp [h0]
      rw [harr]
      simp only [h1]
      simp [newRow]
    · simp only [h0, if_false, Sem.run_bind, Sem.run_pure, Result.andThen_ok, run_zeroValue hi hzv]
      simp only [h1]
      simp [newRow]
  · simp only [VR, Rho.upd, if_true, Option.some.injEq]
    exact .inl ⟨_, 0, n, rfl, rfl, fun _ => rfl, Nat.le_refl _, fun _ => rfl, by simp [hsize]⟩

end
end Go.Sym

/- Each operation is sound (second part): loads, stores, fields, indexes, numbers, slices. -/
namespace Go.Sym
open Go

section
variable {P : Program} {ρ : Rho} {g : Gh} {w : World} (h : SR ρ g w) {ev : Operand → AV} {cev : Operand → Value} (hev : ∀ x, VR ρ (ev x) (cev x))

include h in
theorem run_loadCells_SR {b : BId} {l : List AV} (hb : g b = some l) {cb : CB} (hc : ρ b = some cb) {off n : Nat} (hn : off + n ≤ l.length) :
    ∃ cs, (loadCells ⟨cb.blk, cb.sh + off, none⟩ n).run P w = .ok cs.toArray w ∧ VRs ρ ((l.drop off).take n) cs := by
  have hex : ∀ j, j < n → ∃ cv, w.cell? ⟨cb.blk, cb.sh + off + j, none⟩ = some cv ∧ ∀ v, l[off + j]? = some v → VR ρ v cv := by
    intro j hj
    obtain ⟨cv, h1, h2⟩ := SR.cell h hb hc (j := off + j) (v := l[off + j]'(by omega)) (by simp)
    refine ⟨cv, by rw [← h1]; congr 2; omega, fun v hv => ?_⟩
    rw [List.getElem?_eq_getElem (by omega)] at hv; cases hv; exact h2
  refine ⟨(List.range n).map fun j => (w.cell? ⟨cb.blk, cb.sh + off + j, none⟩).getD undef, ?_, ?_⟩
  · have := run_loadCells_list (P := P) w ⟨cb.blk, cb.sh + off, none⟩ ((List.range n).map fun j => (w.cell? ⟨cb.blk, cb.sh + off + j, none⟩).getD undef) (fun j v hj => by
      simp only [List.getElem?_map, Option.map_eq_some_iff] at hj
      obtain ⟨i, hi, rfl⟩ := hj
      obtain ⟨h1, h2⟩ := List.getElem?_eq_some_iff.mp hi
      simp only [List.length_range] at h1
      simp only [List.getElem_range] at h2
      subst h2
      obtain ⟨cv, h3, _⟩ := hex j h1
      rw [Addr.add_none, h3]; rfl)
    simpa using this
  · refine VRs.of_get (by simp; omega) fun j v hj => ?_
    rw [List.getElem?_take] at hj
    split at hj
    · rename_i hlt
      rw [List.getElem?_drop] at hj
      obtain ⟨cv, h3, h4⟩ := hex j hlt
      exact ⟨cv, by simp [hlt, h3], h4 v hj⟩
    · cases hj

include h hev in
theorem s_load_agg (t : TypeId) (a : Operand) {o : Oper} (ho : o.op = .load t a) {b : BId} {off : Nat} (ha : ev a = .ptr b off) {l : List AV} (hb : g b = some l) {k : TK} (hk : tk P t = some k) {n : Nat} (hn : tsize P t = some n)
    (hka : k.agg = true) (hl : off + n ≤ l.length) : Comes P ρ g w (execOp cev o) (.agg ((l.drop off).take n)) { rd := [(b, off, n)] } := by
  have h1 := hev a
  rw [ha] at h1
  simp only [VR] at h1
  obtain ⟨cb, hc, e⟩ := h1
  obtain ⟨cs, h2, h3⟩ := run_loadCells_SR h (P := P) hb hc hl
  refine Comes.pure h (cv := .agg cs.toArray) ?_ (by simp only [VR]; exact ⟨cs, rfl, h3⟩) rfl rfl rfl rfl
  simp [execOp, ho, Instr.loadAt, e, Instr.sureAddr, loadVar, run_isAgg hk, hka, run_sizeOf hn, h2]

include h hev in
theorem s_load (t : TypeId) (a : Operand) {o : Oper} (ho : o.op = .load t a) {b : BId} {off : Nat} (ha : ev a = .ptr b off) {l : List AV} (hb : g b = some l) {k : TK} (hk : tk P t = some k)
    (hka : k.agg = false) {v : AV} (hl : l[off]? = some v) : Comes P ρ g w (execOp cev o) v { rd := [(b, off, 1)] } := by
  have h1 := hev a
  rw [ha] at h1
  simp only [VR] at h1
  obtain ⟨cb, hc, e⟩ := h1
  obtain ⟨cv, h2, h3⟩ := SR.cell h hb hc hl
  refine Comes.pure h (cv := cv) ?_ h3 rfl rfl rfl rfl
  simp [execOp, ho, Instr.loadAt, e, Instr.sureAddr, loadVar, run_isAgg hk, hka, h2]

theorem run_storeCells_SR {n : Nat} {cb : CB} (hc : ρ (.o n) = some cb) : ∀ (cs : List AV) (vs : List Value) (_ : VRs ρ cs vs) (_ : cs.all AV.scalar = true) (off i : Nat) (g : Gh) (w : World) (_ : SR ρ g w) (l : List AV) (_ : g (.o n) = some l)
    (_ : off + i + cs.length ≤ l.length), ∃ w', (storeCells ⟨cb.blk, cb.sh + off, none⟩ vs i).run P w = .ok () w' ∧ SR ρ (g.upd (.o n) (some (patch l (off + i) cs))) w' ∧ Tr ρ ρ w w'
  | [], vs, hvs, _, off, i, g, w, h, l, hl, _ => by
    simp only [VRs] at hvs; subst hvs
    refine ⟨w, rfl, ?_, Tr.refl _ _⟩
    have : g.upd (.o n) (some (patch l (off + i) [])) = g := by
      funext b; unfold Gh.upd; split
      · rename_i e; subst e; exact hl.symm
      · rfl
    rw [this]; exact h
  | c :: cs, vs, hvs, hs, off, i, g, w, h, l, hl, hlen => by
    simp only [VRs] at hvs
    obtain ⟨v, vs', rfl, hv, hvs⟩ := hvs
    simp only [List.all_cons, Bool.and_eq_true] at hs
    simp only [List.length_cons] at hlen
    obtain ⟨h1, h2, ⟨u, h3⟩, h4⟩ := SR.setCell h hl hc (j := off + i) (by omega) hv
    obtain ⟨w', h5, h6, h7⟩ := run_storeCells_SR hc cs vs' hvs hs.2 off (i + 1) _ _ h1 (l.set (off + i) c) (by simp [Gh.upd]) (by simp; omega)
    refine ⟨w', ?_, ?_, h2.trans h7⟩
    · simp only [storeCells, Sem.run_bind, Addr.add_none, run_store P w _ v _ (hv.oneCell hs.1)]
      have e : cb.sh + off + i = cb.sh + (off + i) := by omega
      rw [e, h3]
      simp only [h4, Bool.false_eq_true, if_false, Result.andThen_ok]
      exact h5
    · have e : (g.upd (.o n) (some (l.set (off + i) c))).upd (.o n) (some (patch (l.set (off + i) c) (off + (i + 1)) cs)) = g.upd (.o n) (some (patch l (off + i) (c :: cs))) := by
        funext b; unfold Gh.upd; split <;> rfl
      rw [← e]; exact h6

theorem Eff.app_wr (g : Gh) (rd : List (BId × Nat × Nat)) (n off : Nat) (cs l : List AV) (hl : g (.o n) = some l) : ({ rd := rd, wr := [(n, off, cs)] } : Eff).app g = g.upd (.o n) (some (patch l off cs)) := by
  funext b
  cases b with
  | r m => simp [Eff.app, lk, Gh.upd]
  | o m =>
    simp only [Eff.app, lk, Gh.upd]
    by_cases e : n = m
    · subst e; simp [hl, patchAll]
    · have e' : ¬ (BId.o m = BId.o n) := fun h => e (by cases h; rfl)
      simp only [e', if_false]
      cases g (BId.o m) <;> simp [patchAll, e]

include h hev in
theorem s_store (t : TypeId) (a x : Operand) {o : Oper} (ho : o.op = .store t a x) {n off : Nat} (ha : ev a = .ptr (.o n) off) {cs : List AV} (hcs : (ev x).cells? = some cs) {l : List AV} (hb : g (.o n) = some l)
    (hsz : tsize P t = some cs.length) (hl : off + cs.length ≤ l.length) (hs : cs.all AV.scalar = true) : Comes P ρ g w (execOp cev o) (.tuple []) { wr := [(n, off, cs)] } := by
  have h1 := hev a
  rw [ha] at h1
  simp only [VR] at h1
  obtain ⟨cb, hc, e⟩ := h1
  have h2 := VR.cells (hev x) hcs
  obtain ⟨w', h3, h4, h5⟩ := run_storeCells_SR (P := P) hc cs _ h2 hs off 0 g w h l hb (by omega)
  refine ⟨.skip, w', ρ, ?_, .inr ⟨rfl, rfl⟩, by rw [Eff.app_wr g [] n off cs l hb]; simpa using h4, h5, fun b hb _ => hb⟩
  have hlen := h2.length
  simp only [Array.length_toList] at hlen
  simp [execOp, ho, Instr.storeAt, e, Instr.sureAddr, storeVar, run_sizeOf hsz, hlen, h3]

include h hev

theorem s_nilCheck (x : Operand) {o : Oper} (ho : o.op = .nilCheck x) (hx : (∃ b off, ev x = .ptr b off) ∨ ∃ f a b, ev x = .func f a b) : Comes P ρ g w (execOp cev o) (ev x) {} := by
  refine Comes.pure h (cv := cev x) ?_ (hev x) rfl rfl rfl rfl
  have h1 := hev x
  rcases hx with ⟨b, off, e⟩ | ⟨f, a, b, e⟩
  · rw [e] at h1; simp only [VR] at h1
    obtain ⟨cb, _, e⟩ := h1
    simp [execOp, ho, e]
  · rw [e] at h1; simp only [VR] at h1
    obtain ⟨a', b', e, _⟩ := h1
    simp [execOp, ho, e]

theorem s_fieldAddr (t : TypeId) (x : Operand) (f : Nat) {o : Oper} (ho : o.op = .fieldAddr t x f) {b : BId} {off : Nat} (hx : ev x = .ptr b off) {fs : List (Nat × TypeId)} (ht : tk P t = some (.st fs)) {oo : Nat} {ft : TypeId}
    (hf : fs[f]? = some (oo, ft)) {s : Nat} (hs : tsize P ft = some s) (hs0 : s ≠ 0) : Comes P ρ g w (execOp cev o) (.ptr b (off + oo)) {} := by
  obtain ⟨fs', hu, rfl⟩ := tk_st ht
  simp only [List.getElem?_map, Option.map_eq_some_iff, Prod.mk.injEq, Array.getElem?_toList] at hf
  obtain ⟨fd, hfd, rfl, rfl⟩ := hf
  have h1 := hev x
  rw [hx] at h1
  simp only [VR] at h1
  obtain ⟨cb, hc, e⟩ := h1
  refine Comes.pure h (cv := .pointer (some ⟨cb.blk, cb.sh + off + fd.offset, none⟩)) ?_ (by simp only [VR]; exact ⟨cb, hc, by rw [Nat.add_assoc]⟩) rfl rfl rfl rfl
  simp [execOp, ho, Instr.fieldAt, run_underlying hu, hfd, e, Instr.sureAddr, fieldPlace, run_sizeOf hs, hs0, Addr.add_none]

theorem s_field (t : TypeId) (x : Operand) (f : Nat) {o : Oper} (ho : o.op = .field t x f) {l : List AV} (hx : ev x = .agg l) {fs : List (Nat × TypeId)} (ht : tk P t = some (.st fs)) {oo : Nat} {ft : TypeId}
    (hf : fs[f]? = some (oo, ft)) {v : AV} (hp : part? P ft l oo = some v) : Comes P ρ g w (execOp cev o) v {} := by
  obtain ⟨fs', hu, rfl⟩ := tk_st ht
  simp only [List.getElem?_map, Option.map_eq_some_iff, Prod.mk.injEq, Array.getElem?_toList] at hf
  obtain ⟨fd, hfd, rfl, rfl⟩ := hf
  have h1 := hev x
  rw [hx] at h1
  simp only [VR] at h1
  obtain ⟨cs, e, hcs⟩ := h1
  obtain ⟨cv, h2, h3⟩ := run_part h hcs hp
  refine Comes.pure h (cv := cv) ?_ h3 rfl rfl rfl rfl
  simp [execOp, ho, Instr.field, run_underlying hu, hfd, e, asAgg, h2]

theorem s_indexAddr_sl (t : TypeId) (x i : Operand) {o : Oper} (ho : o.op = .indexAddr t x i) {e : TypeId} (ht : tk P t = some (.sl e)) {b : BId} {off n z : Nat} {full : Bool} (hx : ev x = .sl b off n z full) {k : IntKind} {j : Int}
    (hi : ev i = .int k j) {s : Nat} (hs : tsize P e = some s) (h0 : 0 ≤ j) (h1 : j < n) : Comes P ρ g w (execOp cev o) (.ptr b (off + j.toNat * s)) {} := by
  have hu := tk_sl ht
  have e1 := hev x
  rw [hx] at e1
  simp only [VR] at e1
  rcases e1 with ⟨cb, y, cap, hc, e1, hy, _⟩ | ⟨e0, _⟩
  case inr => omega
  have e2 := hev i
  rw [hi] at e2
  simp only [VR] at e2
  have hy := hy (by omega)
  subst hy
  refine Comes.pure h (cv := .pointer (some ⟨cb.blk, cb.sh + off + j.toNat * s, none⟩)) ?_ (by simp only [VR]; exact ⟨cb, hc, by rw [Nat.add_assoc]⟩) rfl rfl rfl rfl
  simp [execOp, ho, Instr.indexAt, asIntOf, run_underlying hu, e1, e2, h0, h1, run_sizeOf hs, Addr.add_none]

theorem s_indexAddr_arr (t : TypeId) (x i : Operand) {o : Oper} (ho : o.op = .indexAddr t x i) {e : TypeId} {n : Nat} (ht : tk P t = some (.arr n e)) {b : BId} {off : Nat} (hx : ev x = .ptr b off) {k : IntKind} {j : Int}
    (hi : ev i = .int k j) {s : Nat} (hs : tsize P e = some s) (h0 : 0 ≤ j) (h1 : j < n) : Comes P ρ g w (execOp cev o) (.ptr b (off + j.toNat * s)) {} := by
  have hu := tk_arr ht
  have e1 := hev x
  rw [hx] at e1
  simp only [VR] at e1
  obtain ⟨cb, hc, e1⟩ := e1
  have e2 := hev i
  rw [hi] at e2
  simp only [VR] at e2
  refine Comes.pure h (cv := .pointer (some ⟨cb.blk, cb.sh + off + j.toNat * s, none⟩)) ?_ (by simp only [VR]; exact ⟨cb, hc, by rw [Nat.add_assoc]⟩) rfl rfl rfl rfl
  simp [execOp, ho, Instr.indexAt, asIntOf, run_underlying hu, e1, e2, h0, h1, run_sizeOf hs, Addr.add_none, Instr.sureAddr]

theorem s_index (t : TypeId) (x i : Operand) {o : Oper} (ho : o.op = .index t x i) {e : TypeId} {n : Nat} (ht : tk P t = some (.arr n e)) {l : List AV} (hx : ev x = .agg l) {k : IntKind} {j : Int}
    (hi : ev i = .int k j) {s : Nat} (hs : tsize P e = some s) (h0 : 0 ≤ j) (h1 : j < n) {v : AV} (hp : part? P e l (j.toNat * s) = some v) : Comes P ρ g w (execOp cev o) v {} := by
  have hu := tk_arr ht
  have e1 := hev x
  rw [hx] at e1
  simp only [VR] at e1
  obtain ⟨cs, e1, hcs⟩ := e1
  have e2 := hev i
  rw [hi] at e2
  simp only [VR] at e2
  obtain ⟨cv, h2, h3⟩ := run_part h hcs hp
  refine Comes.pure h (cv := cv) ?_ h3 rfl rfl rfl rfl
  simp [execOp, ho, Instr.index, asIntOf, run_underlying hu, e1, e2, h0, h1, run_sizeOf hs, h2]

theorem s_extract (x : Operand) (i : Nat) {o : Oper} (ho : o.op = .extract x i) {l : List AV} (hx : ev x = .tuple l) {v : AV} (hv : l[i]? = some v) : Comes P ρ g w (execOp cev o) v {} := by
  have e1 := hev x
  rw [hx] at e1
  simp only [VR] at e1
  obtain ⟨cs, e1, hcs⟩ := e1
  obtain ⟨cv, h2, h3⟩ := hcs.get i v hv
  refine Comes.pure h (cv := cv) ?_ h3 rfl rfl rfl rfl
  simp [execOp, ho, Instr.extract, e1, h2]

theorem s_makeFunc (f : FuncId) (first cap : Array Operand) {o : Oper} (ho : o.op = .makeFunc (.func f) first cap) : Comes P ρ g w (execOp cev o) (.func f (first.toList.map ev) (cap.toList.map ev)) {} := by
  have hm : ∀ (xs : Array Operand), VRs ρ (xs.toList.map ev) (xs.toList.map cev) := fun xs =>
    VRs.of_get (by simp) fun i v hi => by
      simp only [List.getElem?_map, Option.map_eq_some_iff] at hi ⊢
      obtain ⟨a, ha, rfl⟩ := hi
      exact ⟨_, ⟨a, ha, rfl⟩, hev a⟩
  refine Comes.pure h (cv := .func (.func f) (first.map cev) (cap.map cev)) ?_ ?_ rfl rfl rfl rfl
  · simp [execOp, ho, Instr.makeFunc]
  · simp only [VR]
    have ha : ∀ xs : Array Operand, xs.map cev = (xs.toList.map cev).toArray := fun xs => by apply Array.ext'; simp
    exact ⟨first.toList.map cev, cap.toList.map cev, by rw [ha, ha], hm first, hm cap⟩

theorem s_convert (src dst : TypeId) (x : Operand) {o : Oper} (ho : o.op = .convert src dst x) {k0 : TK} (hs : tk P src = some k0) {k k' : IntKind} (hd : tk P dst = some (.int k)) {n : Int} (hx : ev x = .int k' n) :
    Comes P ρ g w (execOp cev o) (.int k (k.wrap n)) {} := by
  obtain ⟨d, hd0, _⟩ := tk_some hs
  have hu := tk_int hd
  have e1 := hev x
  rw [hx] at e1
  simp only [VR] at e1
  refine Comes.pure h (cv := .int k (k.wrap n)) ?_ (by simp [VR]) rfl rfl rfl rfl
  simp [execOp, ho, convert, run_underlying hd0, run_underlying hu, e1, Conv.intToInt]

theorem s_unOp (op : UnOp) (t : TypeId) (x : Operand) {o : Oper} (ho : o.op = .unOp op t x) {v : AV} (hv : unA op (ev x) = some v) : Comes P ρ g w (execOp cev o) v {} := by
  have e1 := hev x
  unfold unA at hv
  split at hv
  · rename_i k n hx
    rw [hx] at e1; simp only [VR] at e1
    cases hv
    refine Comes.pure h (cv := .int k (k.wrap (0 - n))) ?_ (by simp [VR]) rfl rfl rfl rfl
    simp [execOp, ho, Op.unary, e1, Op.intArith]
  · rename_i b hx
    rw [hx] at e1; simp only [VR] at e1
    cases hv
    refine Comes.pure h (cv := .bool (!b)) ?_ (by simp [VR]) rfl rfl rfl rfl
    simp [execOp, ho, Op.unary, e1]
  · cases hv

end
end Go.Sym

/- Equality of structs and arrays of whole numbers and bools: the model's equality is that of the cells. -/
namespace Go.Sym
open Go

theorem eqGuard_plain {P : Program} (op : BinOp) (t : TypeId) (x y : Operand) (a b : Value) (w : World) (h1 : ∀ l l', ¬ (a = .agg l ∧ b = .agg l')) (h2 : ¬ (a = .nilIface ∧ b = .nilIface)) : (eqGuard op t x y a b).run P w = .ok () w := by
  cases op
  case eql => cases a <;> cases b <;> first | rfl | (exact absurd ⟨rfl, rfl⟩ (h1 _ _)) | (exact absurd ⟨rfl, rfl⟩ h2)
  case neq => cases a <;> cases b <;> first | rfl | (exact absurd ⟨rfl, rfl⟩ (h1 _ _)) | (exact absurd ⟨rfl, rfl⟩ h2)
  all_goals rfl

def mkV (P : Program) (t : TypeId) (X : List Value) : Value :=
  match tk P t with
  | some k => if k.agg then .agg X.toArray else X.headD undef
  | none => undef

theorem fits_append : ∀ {k rs : List TK} {L : List AV}, fits (k ++ rs) L = true → fits k (L.take k.length) = true ∧ fits rs (L.drop k.length) = true
  | [], rs, L, h => by simpa [fits] using h
  | a :: k, rs, [], h => by cases a <;> simp [fits] at h
  | a :: k, rs, v :: L, h => by
    cases a <;> cases v <;> simp [fits] at h
    all_goals
      first
      | (have := fits_append h.2; simp [fits, h.1, this])
      | (have := fits_append h; simp [fits, this])

theorem fits_length : ∀ {k : List TK} {L : List AV}, fits k L = true → L.length = k.length
  | [], [], _ => rfl
  | [], _ :: _, h => by simp [fits] at h
  | a :: k, [], h => by cases a <;> simp [fits] at h
  | a :: k, v :: L, h => by
    cases a <;> cases v <;> simp [fits] at h
    all_goals
      first
      | (have := fits_length h.2; simp [this])
      | (have := fits_length h; simp [this])

theorem eqCells_append : ∀ {a a' b b' : List AV} {x y : Bool}, eqCells a a' = some x → eqCells b b' = some y → eqCells (a ++ b) (a' ++ b') = some (x && y)
  | [], [], b, b', x, y, h, h' => by simp only [eqCells, Option.some.injEq] at h; subst h; simpa using h'
  | [], v :: _, _, _, _, _, h, _ => by cases v <;> simp [eqCells] at h
  | v :: a, [], _, _, _, _, h, _ => by cases v <;> simp [eqCells] at h
  | u :: a, v :: a', b, b', x, y, h, h' => by
    cases u <;> cases v <;> simp only [eqCells, reduceCtorEq] at h
    · simp only [Option.map_eq_some_iff] at h
      obtain ⟨z, hz, rfl⟩ := h
      simp [eqCells, eqCells_append hz h', Bool.and_assoc]
    · split at h
      · rename_i e
        simp only [Option.map_eq_some_iff] at h
        obtain ⟨z, hz, rfl⟩ := h
        simp [eqCells, eqCells_append hz h', Bool.and_assoc, e]
      · cases h

def eqSegs (d : Nat) (xs ys : Array Value) : List (TypeId × Nat) → Sem Bool
  | [] => pure true
  | (t, o) :: r => do
    let a ← part t xs o
    let b ← part t ys o
    let q ← Op.equalIn d t a b
    if (!q) = true then pure false else eqSegs d xs ys r

section
variable {P : Program} {w : World}

theorem eqItems_segs (d : Nat) (e c : Nat) (xs ys : Array Value) : ∀ is : List Nat, (Op.eqItems d e c xs ys is) = eqSegs d xs ys (is.map fun i => (e, i * c))
  | [] => rfl
  | i :: is => by simp only [Op.eqItems, List.map_cons, eqSegs, eqItems_segs d e c xs ys is]

theorem eqFields_segs (d : Nat) (xs ys : Array Value) : ∀ fs : List Field, (∀ f ∈ fs, f.name ≠ "_") → (Op.eqFields d xs ys fs) = eqSegs d xs ys (fs.map fun f => (f.type, f.offset))
  | [], _ => rfl
  | f :: fs, h => by simp only [Op.eqFields, List.map_cons, eqSegs, eqFields_segs d xs ys fs fun g hg => h g (by simp [hg]), if_pos (h f (by simp))]

inductive SegsOK (P : Program) (d : Nat) : List (TypeId × Nat) → Nat → List TK → Prop
  | nil (o : Nat) : SegsOK P d [] o []
  | cons {t o k r rs} : kindsOf P d t = some k → tsize P t = some k.length → 0 < k.length → SegsOK P d r (o + k.length) rs → SegsOK P d ((t, o) :: r) o (k ++ rs)

theorem kindsOf_tk {d : Nat} {t : TypeId} {k : List TK} (h : kindsOf P d t = some k) : ∃ x, tk P t = some x ∧ (x.agg = false → k.length = 1) := by
  cases d with
  | zero => simp [kindsOf] at h
  | succ d =>
    unfold kindsOf at h
    split at h
    · rename_i k' hu _; cases h; exact ⟨.int k', by simp [tk, hu], by simp⟩
    · rename_i hu _; cases h; exact ⟨.bool, by simp [tk, hu], by simp⟩
    · rename_i n e s hu _; exact ⟨.arr n e, by simp [tk, hu], by simp [TK.agg]⟩
    · rename_i fs s hu _; exact ⟨.st (fs.toList.map fun f => (f.offset, f.type)), by simp only [tk, hu], by simp [TK.agg]⟩
    · cases h

theorem run_part_mk {d : Nat} {t : TypeId} {k : List TK} (hk : kindsOf P d t = some k) (hs : tsize P t = some k.length) (X : List Value) (off : Nat) (hoff : off + k.length ≤ X.length) (w : World) :
    (part t X.toArray off).run P w = .ok (mkV P t ((X.drop off).take k.length)) w := by
  obtain ⟨x, hx, hx1⟩ := kindsOf_tk hk
  unfold mkV
  rw [hx]
  cases ha : x.agg with
  | true => simp [part, run_isAgg hx, ha, run_sizeOf hs, List.extract_eq_take_drop]
  | false =>
    have h1 := hx1 ha
    rw [h1] at hoff
    have : (X.drop off).take k.length = [X[off]'(by omega)] := by
      rw [h1, List.drop_eq_getElem_cons (by omega)]; rfl
    rw [this]
    simp [part, run_isAgg hx, ha, show off < X.length by omega]

theorem segs_fold (d : Nat) : ∀ (fs : List Field) (acc l : List TK),
    fs.foldl (fun acc f => acc.bind fun l => if f.name = "_" ∨ f.offset ≠ l.length then none else (kindsOf P d f.type).bind fun l' => if tsize P f.type = some l'.length ∧ 0 < l'.length then some (l ++ l') else none) (some acc) = some l →
    (∀ f ∈ fs, f.name ≠ "_") ∧ ∃ rs, l = acc ++ rs ∧ SegsOK P d (fs.map fun f => (f.type, f.offset)) acc.length rs
  | [], acc, l, h => by
    simp only [List.foldl_nil, Option.some.injEq] at h
    exact ⟨by simp, [], by simp [h], .nil _⟩
  | f :: fs, acc, l, h => by
    have hnone : ∀ fs : List Field, fs.foldl (fun acc f => acc.bind fun l => if f.name = "_" ∨ f.offset ≠ l.length then none else (kindsOf P d f.type).bind fun l' => if tsize P f.type = some l'.length ∧ 0 < l'.length then some (l ++ l') else none) none = none := by
      intro fs; induction fs with
      | nil => rfl
      | cons f fs ih => simpa using ih
    simp only [List.foldl_cons, Option.bind_some] at h
    split at h
    · rw [hnone] at h; cases h
    · rename_i hc
      simp only [not_or, ne_eq, Decidable.not_not] at hc
      cases hk : kindsOf P d f.type with
      | none => rw [hk] at h; simp only [Option.bind_none] at h; rw [hnone] at h; cases h
      | some k =>
        rw [hk] at h
        simp only [Option.bind_some] at h
        split at h
        · rename_i hs
          obtain ⟨h1, rs, rfl, h2⟩ := segs_fold d fs (acc ++ k) l h
          refine ⟨?_, k ++ rs, by simp, ?_⟩
          · intro g hg
            simp only [List.mem_cons] at hg
            rcases hg with rfl | hg
            · exact hc.1
            · exact h1 g hg
          · simp only [List.map_cons, hc.2]
            exact .cons hk hs.1 hs.2 (by simpa using h2)
        · rw [hnone] at h; cases h

theorem segs_array (d : Nat) {e : TypeId} {k : List TK} (hk : kindsOf P d e = some k) (hs : tsize P e = some k.length) (hp : 0 < k.length) : ∀ (n i : Nat),
    SegsOK P d ((List.range' i n).map fun j => (e, j * k.length)) (i * k.length) (List.replicate n k).flatten
  | 0, i => by simpa using SegsOK.nil _
  | n + 1, i => by
    simp only [List.range'_succ, List.map_cons, List.replicate_succ, List.flatten_cons]
    refine .cons hk hs hp ?_
    have := segs_array d hk hs hp n (i + 1)
    rw [Nat.add_mul, Nat.one_mul] at this
    exact this

theorem VRs_fits {ρ : Rho} {r : List TK} {l : List AV} {X : List Value} (h : VRs ρ l X) (hf : fits r l = true) : X.length = r.length := by rw [h.length, fits_length hf]

theorem segs_equal {ρ : Rho} (d m : Nat) (ih : ∀ (t : TypeId) (k : List TK), kindsOf P d t = some k → ∀ (l l' : List AV) (X Y : List Value), fits k l = true → fits k l' = true → VRs ρ l X → VRs ρ l' Y → ∀ w,
      ∃ b, eqCells l l' = some b ∧ (Op.equalIn (d + m) t (mkV P t X) (mkV P t Y)).run P w = .ok b w) :
    ∀ (segs : List (TypeId × Nat)) (o : Nat) (rs : List TK), SegsOK P d segs o rs → ∀ (l l' : List AV) (X Y : List Value), VRs ρ l X → VRs ρ l' Y → fits rs (l.drop o) = true → fits rs (l'.drop o) = true → ∀ w,
      ∃ b, eqCells (l.drop o) (l'.drop o) = some b ∧ (eqSegs (d + m) X.toArray Y.toArray segs).run P w = .ok b w := by
  intro segs o rs hs
  induction hs with
  | nil o =>
    intro l l' X Y hX hY h1 h2 w
    refine ⟨true, ?_, rfl⟩
    have e1 := fits_length h1
    have e2 := fits_length h2
    rw [List.length_nil, List.length_eq_zero_iff] at e1 e2
    rw [e1, e2]; rfl
  | @cons t o k r rs hk hsz hkl hr ihr =>
    intro l l' X Y hX hY h1 h2 w
    have f1 := fits_append h1
    have f2 := fits_append h2
    have e1 := fits_length h1
    have e2 := fits_length h2
    simp only [List.length_drop, List.length_append] at e1 e2
    have hXl := hX.length
    have hYl := hY.length
    obtain ⟨b1, hb1, hr1⟩ := ih t k hk _ _ _ _ f1.1 f2.1 ((hX.drop o).take k.length) ((hY.drop o).take k.length) w
    obtain ⟨b2, hb2, hr2⟩ := ihr l l' X Y hX hY (by simpa [List.drop_drop] using f1.2) (by simpa [List.drop_drop] using f2.2) w
    refine ⟨b1 && b2, ?_, ?_⟩
    · rw [← List.take_append_drop k.length (l.drop o), ← List.take_append_drop k.length (l'.drop o)]
      refine eqCells_append hb1 ?_
      simpa [List.drop_drop] using hb2
    · simp only [eqSegs, Sem.run_bind, run_part_mk hk hsz X o (by omega) w, run_part_mk hk hsz Y o (by omega) w, Result.andThen_ok, hr1]
      cases b1 with
      | false => simp
      | true => simpa using hr2
end
end Go.Sym

/- Each operation is sound (fourth part): operators, rows made, slices cut. -/
namespace Go.Sym
open Go

section
variable {P : Program}

theorem run_equalIn_nil (w : World) (d : Nat) (t e : TypeId) (a : Option Addr) (l c : Nat) (h : P.underlying t = some (.slice e)) : (Op.equalIn (d + 1) t (.slice a l c) (.slice none 0 0)).run P w = .ok a.isNone w := by
  cases a <;> simp [Op.equalIn, run_underlying h]

theorem run_equal_nil (w : World) (t e : TypeId) (a : Option Addr) (l c : Nat) (h : P.underlying t = some (.slice e)) : (Op.equal t (.slice a l c) (.slice none 0 0)).run P w = .ok a.isNone w :=
  run_equalIn_nil w 9999 t e a l c h

theorem run_eql_nil (w : World) (t e : TypeId) (a : Option Addr) (l c : Nat) (h : P.underlying t = some (.slice e)) : (binOp .eql t (.slice a l c) (.slice none 0 0)).run P w = .ok (.bool a.isNone) w := by
  simp [binOp, run_equal_nil w t e a l c h]

theorem run_neq_nil (w : World) (t e : TypeId) (a : Option Addr) (l c : Nat) (h : P.underlying t = some (.slice e)) : (binOp .neq t (.slice a l c) (.slice none 0 0)).run P w = .ok (.bool (!a.isNone)) w := by
  simp [binOp, run_equal_nil w t e a l c h]

theorem fits_int {k : IntKind} {l : List AV} (h : fits [.int k] l = true) : ∃ n, l = [.int k n] := by
  match l, h with
  | [], h => simp [fits] at h
  | a :: b :: r, h => cases a <;> simp [fits] at h
  | [a], h => cases a <;> simp [fits] at h; subst h; exact ⟨_, rfl⟩

theorem fits_bool {l : List AV} (h : fits [.bool] l = true) : ∃ n, l = [.bool n] := by
  match l, h with
  | [], h => simp [fits] at h
  | a :: b :: r, h => cases a <;> simp [fits] at h
  | [a], h => cases a <;> simp [fits] at h; exact ⟨_, rfl⟩

theorem kindsOf_size : ∀ (d : Nat) (t : TypeId) (k : List TK), kindsOf P d t = some k → tsize P t = some k.length
  | 0, t, k, h => by simp [kindsOf] at h
  | d + 1, t, k, h => by
    unfold kindsOf at h
    split at h
    · rename_i hs; cases h; exact hs
    · rename_i hs; cases h; exact hs
    · rename_i n e s hu hs
      simp only [Option.bind_eq_some_iff] at h
      obtain ⟨l, _, h⟩ := h
      split at h
      · rename_i hc; cases h; rw [hs, hc.1]; simp
      · cases h
    · rename_i fs s hu hs
      split at h
      · cases h
      · simp only [Option.bind_eq_some_iff] at h
        obtain ⟨l, _, h⟩ := h
        split at h
        · rename_i hc; cases h; rw [hs, hc]
        · cases h
    · cases h

theorem equal_flat {ρ : Rho} (m : Nat) : ∀ (d : Nat) (t : TypeId) (k : List TK), kindsOf P d t = some k → ∀ (l l' : List AV) (X Y : List Value), fits k l = true → fits k l' = true → VRs ρ l X → VRs ρ l' Y → ∀ w,
      ∃ b, eqCells l l' = some b ∧ (Op.equalIn (d + m) t (mkV P t X) (mkV P t Y)).run P w = .ok b w
  | 0, t, k, h => by simp [kindsOf] at h
  | d + 1, t, k, h => by
    intro l l' X Y h1 h2 hX hY w
    have hd : d + 1 + m = (d + m) + 1 := by omega
    rw [hd]
    have h0 := h
    unfold kindsOf at h
    split at h
    · rename_i kk hu hs; cases h
      obtain ⟨n1, rfl⟩ := fits_int h1
      obtain ⟨n2, rfl⟩ := fits_int h2
      simp only [VRs, VR] at hX hY
      obtain ⟨_, _, rfl, rfl, rfl⟩ := hX
      obtain ⟨_, _, rfl, rfl, rfl⟩ := hY
      refine ⟨n1 == n2, by simp [eqCells], ?_⟩
      simp [mkV, tk, hu, TK.agg, run_equalIn_int w (d + m) t _ _ n1 n2 hu]
    · rename_i hu hs; cases h
      obtain ⟨n1, rfl⟩ := fits_bool h1
      obtain ⟨n2, rfl⟩ := fits_bool h2
      simp only [VRs, VR] at hX hY
      obtain ⟨_, _, rfl, rfl, rfl⟩ := hX
      obtain ⟨_, _, rfl, rfl, rfl⟩ := hY
      refine ⟨n1 == n2, by simp [eqCells], ?_⟩
      simp [mkV, tk, hu, TK.agg, run_equalIn_bool w (d + m) t n1 n2 hu]
    · rename_i n e s hu hs
      simp only [Option.bind_eq_some_iff] at h
      obtain ⟨kl, hkl, h⟩ := h
      split at h
      · rename_i hc; cases h
        have hi : ∃ i, P.info? e = some i ∧ i.size = kl.length := by
          have := hc.2.1
          unfold tsize at this
          cases hi : P.info? e with
          | none => simp [hi] at this
          | some i => simp [hi] at this; exact ⟨i, rfl, this⟩
        obtain ⟨i, hi, hil⟩ := hi
        have hco : P.cellsOf e = kl.length := by simp [Program.cellsOf, hi, hil]
        obtain ⟨b, hb1, hb2⟩ := segs_equal d m (equal_flat m d) _ 0 _ (by simpa using segs_array d hkl hc.2.1 hc.2.2 n 0) l l' X Y hX hY (by simpa using h1) (by simpa using h2) w
        refine ⟨b, by simpa using hb1, ?_⟩
        rw [← hb2]
        simp only [mkV, tk, hu, TK.agg, if_true]
        rw [run_equalIn_array w (d + m) _ _ hu hi, hco, eqItems_segs, List.range_eq_range']
      · cases h
    · rename_i fs s hu hs
      split at h
      · cases h
      · rename_i hst
        simp only [Bool.not_eq_true] at hst
        simp only [Option.bind_eq_some_iff] at h
        obtain ⟨kl, hkl, h⟩ := h
        split at h
        · cases h
          obtain ⟨hn, rs, rfl, hseg⟩ := segs_fold d _ _ _ hkl
          obtain ⟨b, hb1, hb2⟩ := segs_equal d m (equal_flat m d) _ 0 _ (by simpa using hseg) l l' X Y hX hY (by simpa using h1) (by simpa using h2) w
          refine ⟨b, by simpa using hb1, ?_⟩
          rw [← hb2]
          simp only [mkV, tk, hu, TK.agg, if_true]
          have hfo : P.fieldsOf t = fs := by simp [Program.fieldsOf, hu]
          rw [run_equalIn_struct w (d + m) t _ _ (by rw [hfo]; exact hu) hst, hfo, eqFields_segs _ _ _ _ hn]
        · cases h
    · cases h

variable {ρ : Rho} {g : Gh} {w : World} (h : SR ρ g w) {ev : Operand → AV} {cev : Operand → Value} (hev : ∀ x, VR ρ (ev x) (cev x))
include h hev

theorem s_binOp (op : BinOp) (t u : TypeId) (x y : Operand) {o : Oper} (ho : o.op = .binOp op t x y u) {v : AV} (hv : binA P op t (ev x) (ev y) = some v) : Comes P ρ g w (execOp cev o) v {} := by
  have e1 := hev x
  have e2 := hev y
  have pl : ∀ {a b : Value} (w : World), (∀ l l', ¬ (a = .agg l ∧ b = .agg l')) → ¬ (a = .nilIface ∧ b = .nilIface) → (eqGuard op t x y a b).run P w = .ok () w := fun w => eqGuard_plain op t x y _ _ w
  unfold binA at hv
  split at hv
  case h_1 =>
    rename_i k a k' b hx hy
    rw [hx] at e1; rw [hy] at e2; simp only [VR] at e1 e2
    split at hv
    · cases hv
    · rename_i hb; cases hv
      refine Comes.pure h (cv := .int k (k.wrap (a * 2 ^ (min b.toNat k.bits)))) ?_ (by simp [VR]) rfl rfl rfl rfl
      simp [execOp, ho, pl, binOp, Op.shift, e1, e2, hb]
  case h_2 =>
    rename_i k a k' b hx hy
    rw [hx] at e1; rw [hy] at e2; simp only [VR] at e1 e2
    split at hv
    · cases hv
    · rename_i hb; cases hv
      refine Comes.pure h (cv := .int k (a.fdiv (2 ^ (min b.toNat k.bits)))) ?_ (by simp [VR]) rfl rfl rfl rfl
      simp [execOp, ho, pl, binOp, Op.shift, e1, e2, hb]
  case h_6 =>
    rename_i k a k' b hx hy
    rw [hx] at e1; rw [hy] at e2; simp only [VR] at e1 e2
    split at hv
    · rename_i hk; obtain ⟨rfl, hb⟩ := hk; cases hv
      refine Comes.pure h (cv := .int k (k.wrap (a.tdiv b))) ?_ (by simp [VR]) rfl rfl rfl rfl
      simp [execOp, ho, pl, binOp, Op.intDiv, e1, e2, hb]
    · cases hv
  case h_7 =>
    rename_i k a k' b hx hy
    rw [hx] at e1; rw [hy] at e2; simp only [VR] at e1 e2
    split at hv
    · rename_i hk; obtain ⟨rfl, hb⟩ := hk; cases hv
      refine Comes.pure h (cv := .int k (a.tmod b)) ?_ (by simp [VR]) rfl rfl rfl rfl
      simp [execOp, ho, pl, binOp, Op.intDiv, e1, e2, hb]
    · cases hv
  case h_17 =>
    rename_i a b hx hy
    rw [hx] at e1; rw [hy] at e2; simp only [VR] at e1 e2
    split at hv
    · rename_i ht; cases hv
      refine Comes.pure h (cv := .bool (a == b)) ?_ (by simp [VR]) rfl rfl rfl rfl
      have hu := tk_bool ht
      simp [execOp, ho, pl, e1, e2, run_eql_bool w t a b hu]
    · cases hv
  case h_18 =>
    rename_i a b hx hy
    rw [hx] at e1; rw [hy] at e2; simp only [VR] at e1 e2
    split at hv
    · rename_i ht; cases hv
      refine Comes.pure h (cv := .bool (a != b)) ?_ (by simp [VR]) rfl rfl rfl rfl
      have hu := tk_bool ht
      simp [execOp, ho, pl, e1, e2, run_neq_bool w t a b hu, bne]
    · cases hv
  case h_19 =>
    rename_i hx hy
    rw [hx] at e1; rw [hy] at e2; simp only [VR] at e1 e2
    split at hv
    · rename_i ht
      split at hv
      · cases hv
      rename_i hn0
      rcases e1 with ⟨cb, xx, cap, _, e1, _⟩ | ⟨e0, _⟩
      case inr => exact absurd e0 hn0
      cases hv
      refine Comes.pure h (cv := .bool false) ?_ (by simp [VR]) rfl rfl rfl rfl
      have hu := tk_sl ht
      simp [execOp, ho, e1, e2, pl, run_eql_nil w t _ _ _ _ hu]
    · cases hv
  case h_20 =>
    rename_i hx hy
    rw [hx] at e1; rw [hy] at e2; simp only [VR] at e1 e2
    split at hv
    · rename_i ht
      split at hv
      · cases hv
      rename_i hn0
      rcases e1 with ⟨cb, xx, cap, _, e1, _⟩ | ⟨e0, _⟩
      case inr => exact absurd e0 hn0
      cases hv
      refine Comes.pure h (cv := .bool true) ?_ (by simp [VR]) rfl rfl rfl rfl
      have hu := tk_sl ht
      simp [execOp, ho, e1, e2, pl, run_neq_nil w t _ _ _ _ hu]
    · cases hv
  case h_21 =>
    rename_i hx hy
    rw [hx] at e1; rw [hy] at e2; simp only [VR] at e1 e2
    split at hv
    · rename_i ht; cases hv
      refine Comes.pure h (cv := .bool true) ?_ (by simp [VR]) rfl rfl rfl rfl
      have hu := tk_sl ht
      simp [execOp, ho, e1, e2, pl, run_eql_nil w t _ _ _ _ hu]
    · cases hv
  case h_22 =>
    rename_i hx hy
    rw [hx] at e1; rw [hy] at e2; simp only [VR] at e1 e2
    split at hv
    · rename_i ht; cases hv
      refine Comes.pure h (cv := .bool false) ?_ (by simp [VR]) rfl rfl rfl rfl
      have hu := tk_sl ht
      simp [execOp, ho, e1, e2, pl, run_neq_nil w t _ _ _ _ hu]
    · cases hv
  case h_23 =>
    rename_i l l' hx hy
    rw [hx] at e1; rw [hy] at e2; simp only [VR] at e1 e2
    obtain ⟨X, e1, hX⟩ := e1
    obtain ⟨Y, e2, hY⟩ := e2
    split at hv
    · rename_i k r hk hr
      split at hv
      · rename_i hf
        simp only [Bool.and_eq_true, Bool.not_eq_true'] at hf
        simp only [Option.map_eq_some_iff] at hv
        obtain ⟨b, hb, rfl⟩ := hv
        obtain ⟨b', hb', hr'⟩ := equal_flat (P := P) 9980 20 t r hr _ _ X Y hf.1.2 hf.2 hX hY w
        rw [hb] at hb'; cases hb'
        simp only [mkV, hk, hf.1.1.1, if_true] at hr'
        refine Comes.pure h (cv := .bool b) ?_ (by simp [VR]) rfl rfl rfl rfl
        simp only [execOp, ho, e1, e2, Sem.run_bind, run_eqGuard_agg w .eql t x y X.toArray Y.toArray hf.1.1.2, Result.andThen_ok, run_eql_struct, hr', Sem.run_pure]
      · cases hv
    · cases hv
  case h_24 =>
    rename_i l l' hx hy
    rw [hx] at e1; rw [hy] at e2; simp only [VR] at e1 e2
    obtain ⟨X, e1, hX⟩ := e1
    obtain ⟨Y, e2, hY⟩ := e2
    split at hv
    · rename_i k r hk hr
      split at hv
      · rename_i hf
        simp only [Bool.and_eq_true, Bool.not_eq_true'] at hf
        simp only [Option.map_eq_some_iff] at hv
        obtain ⟨b, hb, rfl⟩ := hv
        obtain ⟨b', hb', hr'⟩ := equal_flat (P := P) 9980 20 t r hr _ _ X Y hf.1.2 hf.2 hX hY w
        rw [hb] at hb'; cases hb'
        simp only [mkV, hk, hf.1.1.1, if_true] at hr'
        refine Comes.pure h (cv := .bool (!b)) ?_ (by simp [VR]) rfl rfl rfl rfl
        simp only [execOp, ho, e1, e2, Sem.run_bind, run_eqGuard_agg w .neq t x y X.toArray Y.toArray hf.1.1.2, Result.andThen_ok, run_neq_struct, hr', Sem.run_pure]
      · cases hv
    · cases hv
  case h_25 => cases hv
  all_goals
    rename_i k a k' b hx hy
    rw [hx] at e1; rw [hy] at e2; simp only [VR] at e1 e2
    split at hv
    · rename_i hk; subst hk; cases hv
      refine Comes.pure h (cv := _) ?_ (by simp only [VR]; rfl) rfl rfl rfl rfl
      simp [execOp, ho, pl, binOp, Op.intArith, Op.intBits, Op.intCmp, e1, e2]
    · cases hv

end
end Go.Sym

/- Each operation is sound (fifth part): rows made, slices cut, len, min, max. -/
namespace Go.Sym
open Go

theorem run_sliceBound_ok {P : Program} (k : IntKind) (i : Int) (y : Nat) (code : BoundsCode) (h0 : 0 ≤ i) (h1 : i ≤ y) (w : World) : (Instr.sliceBound (.int k i) y code).run P w = .ok i.toNat w := by
  simp [Instr.sliceBound, asIntOf, h0, h1]

/-- an optional bound: its value, or else -/
def OptV (v : Option Value) (els : Int) (i : Int) : Prop := (v = none ∧ i = els) ∨ ∃ k, v = some (.int k i)

theorem run_sliceBounds_ok {P : Program} (isS : Bool) (len cap : Nat) {lo hi mx : Option Value} {i j m : Int} (hlo : OptV lo 0 i) (hhi : OptV hi len j) (hmx : OptV mx cap m) (hh : mx.isSome = true → hi.isSome = true)
    (h0 : 0 ≤ i) (h1 : i ≤ j) (h2 : j ≤ m) (h3 : m ≤ cap) (w : World) : (Instr.sliceBounds isS len cap lo hi mx).run P w = .ok (i.toNat, j.toNat, m.toNat) w := by
  rcases hmx with ⟨rfl, rfl⟩ | ⟨km, rfl⟩
  · rcases hhi with ⟨rfl, rfl⟩ | ⟨kh, rfl⟩
    · rcases hlo with ⟨rfl, rfl⟩ | ⟨kl, rfl⟩
      · simp [Instr.sliceBounds]
      · simp [Instr.sliceBounds, run_sliceBound_ok kl i len _ h0 (by omega)]
    · have e1 : ∀ code, (Instr.sliceBound (.int kh j) cap code).run P w = .ok j.toNat w := fun code => run_sliceBound_ok kh j cap code (by omega) (by omega) w
      rcases hlo with ⟨rfl, rfl⟩ | ⟨kl, rfl⟩
      · simp [Instr.sliceBounds, e1]
      · simp [Instr.sliceBounds, e1, run_sliceBound_ok kl i j.toNat _ h0 (by omega)]
  · have e0 : ∀ code, (Instr.sliceBound (.int km m) cap code).run P w = .ok m.toNat w := fun code => run_sliceBound_ok km m cap code (by omega) (by omega) w
    rcases hhi with ⟨rfl, rfl⟩ | ⟨kh, rfl⟩
    · simp at hh
    · have e1 : ∀ code, (Instr.sliceBound (.int kh j) m.toNat code).run P w = .ok j.toNat w := fun code => run_sliceBound_ok kh j m.toNat code (by omega) (by omega) w
      rcases hlo with ⟨rfl, rfl⟩ | ⟨kl, rfl⟩
      · simp [Instr.sliceBounds, e0, e1]
      · simp [Instr.sliceBounds, e0, e1, run_sliceBound_ok kl i j.toNat _ h0 (by omega)]

section
variable {P : Program} {ρ : Rho} {g : Gh} {w : World} (h : SR ρ g w) {ev : Operand → AV} {cev : Operand → Value} (hev : ∀ x, VR ρ (ev x) (cev x))

include hev in
theorem optV {x : Option Operand} {els i : Int} (hi : (x.map ev).elim (some els) AV.int? = some i) : OptV (x.map cev) els i := by
  cases x with
  | none => simp at hi; exact .inl ⟨rfl, hi.symm⟩
  | some x =>
    simp only [Option.map_some, Option.elim_some] at hi
    have e := hev x
    cases hx : ev x <;> rw [hx] at hi e <;> simp [AV.int?] at hi
    simp only [VR] at e
    subst hi
    exact .inr ⟨_, by simp [e]; rfl⟩

include h hev

theorem s_makeSlice (t : TypeId) (n c : Operand) {o : Oper} (ho : o.op = .makeSlice t n c) {nm : Nat} (hn : ρ (.o nm) = none) {e : TypeId} (ht : tk P t = some (.sl e)) {k k' : IntKind} {l c' : Int} (hl : ev n = .int k l) (hc : ev c = .int k' c')
    {s by_ : Nat} {z : List AV} (hs : tsize P e = some s) (hb : tbytes P e = some by_) (hz : tzero P e = some z) (h0 : 0 ≤ l) (h1 : l ≤ c') (h2 : by_ * c' ≤ 2 ^ 46) (h3 : c' ≤ 2 ^ 46) (hzs : z.length = s) (hs0 : 0 < s) :
    Comes P ρ g w (execOp cev o) (.sl (.o nm) 0 l.toNat s (l == c')) { newo := [(nm, zeros z (c'.toNat * s))] } := by
  have hu := tk_sl ht
  have e1 := hev n
  have e2 := hev c
  rw [hl] at e1; rw [hc] at e2
  simp only [VR] at e1 e2
  obtain ⟨i, v, hi, hzv, rfl⟩ := tzero_some hz
  have hby : i.bytes = by_ := by simpa [tbytes, hi] using hb
  have hz0 := zeros_VRs (ρ := ρ) v (c'.toNat * s) (.inl (by simpa [← hzs] using hs0))
  have wl : IntKind.i64.wrap l = l := IntWalk.i64_in _ (by omega)
  have wc : IntKind.i64.wrap c' = c' := IntWalk.i64_in _ (by omega)
  have hneg : ¬ c' < 0 := by omega
  have hbig : ¬ (281474976710656 : Int) < by_ * c' := by omega
  refine Comes.new hn (cs := (Array.range (c'.toNat * s)).map fun i => v.cells[i % v.cells.size]!) (ty := e) (cv := .slice (some ⟨w.heap.size, 0, none⟩) l.toNat c'.toNat) ⟨h, Tr.refl _ _⟩ ?_ (fun j u hj => by rw [← Array.getElem?_toList]; exact hz0.get j u hj) ?_
  · have hty : (typeInfo e).run P w = .ok i w := by simp [typeInfo, hi]
    have hl0 : ¬ l < 0 := by omega
    have hlc : ¬ l > c' := by omega
    simp only [execOp, ho, Instr.makeSlice, e1, e2, Sem.run_bind, run_underlying hu, Result.andThen_ok, asInt, asIntOf, Sem.run_pure, hty, wl, wc, hby]
    have hcond : (decide (c' < 0) || decide ((by_ : Int) * c' > 2 ^ 48) || decide (l < 0) || decide (l > c')) = false := by
      simp [hneg, hl0]
      omega
    simp only [hcond, Bool.false_eq_true, if_false, Sem.run_bind, run_askRoom, Result.andThen_ok, run_sizeOf hs]
    by_cases h0' : c'.toNat * s = 0
    · simp only [h0', if_true, Sem.run_pure, Result.andThen_ok]
      simp [newRow, show Array.range 0 = #[] from rfl]
    · simp only [h0', if_false, Sem.run_bind, run_zeroValue hi hzv, Result.andThen_ok, Sem.run_pure]
      simp [newRow]
  · simp only [VR, Rho.upd, if_true, Option.some.injEq]
    refine .inl ⟨_, 0, c'.toNat, rfl, rfl, fun _ => rfl, by omega, fun hh => ?_, by simp⟩
    have : l = c' := by simpa using hh
    rw [this]

theorem s_slice_arr (t : TypeId) (x : Operand) (lo hi mx : Option Operand) {o : Oper} (ho : o.op = .slice t x lo hi mx) {n : Nat} {e : TypeId} (ht : tk P t = some (.arr n e)) {b : BId} {off : Nat} (hx : ev x = .ptr b off) {s : Nat} (hs : tsize P e = some s)
    {l : List AV} (hb : g b = some l) {i j m : Int} (hlo : (lo.map ev).elim (some 0) AV.int? = some i) (hhi : (hi.map ev).elim (some (n : Int)) AV.int? = some j) (hmx : (mx.map ev).elim (some (n : Int)) AV.int? = some m)
    (h0 : 0 ≤ i) (h1 : i ≤ j) (h2 : j ≤ m) (h3 : m ≤ n) (h4 : off + n * s ≤ l.length) (h6 : 0 < n * s) (h5 : mx.isSome = true → hi.isSome = true) :
    Comes P ρ g w (execOp cev o) (.sl b (off + i.toNat * s) (j - i).toNat s (j == m)) { rd := [(b, off, n * s)] } := by
  have hu := tk_arr ht
  have e1 := hev x
  rw [hx] at e1
  simp only [VR] at e1
  obtain ⟨cb, hc, e1⟩ := e1
  have hbd := run_sliceBounds_ok (P := P) false n n (optV hev hlo) (optV hev hhi) (optV hev hmx) (by simpa using h5) h0 h1 h2 h3 w
  have hnm : i.toNat * s ≤ n * s := Nat.mul_le_mul_right _ (by omega)
  refine Comes.pure h (cv := .slice (some (if m.toNat = i.toNat then ⟨cb.blk, cb.sh + off, none⟩ else ⟨cb.blk, cb.sh + off + i.toNat * s, none⟩)) (j.toNat - i.toNat) (m.toNat - i.toNat)) ?_ ?_ rfl rfl rfl rfl
  · simp only [execOp, ho, Instr.sliceAt, Sem.run_bind, run_underlying hu, Result.andThen_ok, e1, Instr.sureAddr, Sem.run_pure, hbd, run_sizeOf hs, Addr.add_none]
  · have hsz : cb.sh + l.length ≤ cb.sz := by
      obtain ⟨cb', cs, ty, fz, k1, k2, k3, k4, _⟩ := h.cells b l hb (fun e => by subst e; simp at *; omega)
      rw [hc] at k1; cases k1
      exact k4
    simp only [VR]
    have hij : (j - i).toNat = j.toNat - i.toNat := by omega
    by_cases hmi : m.toNat = i.toNat
    · refine .inl ⟨cb, cb.sh + off, 0, hc, ?_, fun hh => by omega, by omega, fun _ => by omega, ?_⟩
      · simp [hmi, hij]
      · simp; omega
    · refine .inl ⟨cb, cb.sh + off + i.toNat * s, m.toNat - i.toNat, hc, ?_, fun _ => by omega, by omega, fun hh => ?_, ?_⟩
      · simp [hmi, hij]
      · have : j = m := by simpa using hh
        omega
      · have e3 : (m.toNat - i.toNat) * s + i.toNat * s = m.toNat * s := by rw [← Nat.add_mul]; congr 1; omega
        have e4 : m.toNat * s ≤ n * s := Nat.mul_le_mul_right _ (by omega)
        omega

theorem s_slice_sl (t : TypeId) (x : Operand) (lo hi mx : Option Operand) {o : Oper} (ho : o.op = .slice t x lo hi mx) {e : TypeId} (ht : tk P t = some (.sl e)) {b : BId} {off n s : Nat} {full : Bool} (hx : ev x = .sl b off n s full) (hs : tsize P e = some s)
    {i j m : Int} (hlo : (lo.map ev).elim (some 0) AV.int? = some i) (hhi : (hi.map ev).elim (some (n : Int)) AV.int? = some j) (hmx : (mx.map ev).elim (some (n : Int)) AV.int? = some m)
    (h0 : 0 ≤ i) (h1 : i ≤ j) (h2 : j ≤ m) (h3 : m ≤ n) (h5 : mx.isSome = true → hi.isSome = true) :
    Comes P ρ g w (execOp cev o) (.sl b (off + i.toNat * s) (j - i).toNat s (if mx.isSome then j == m else full && j == n)) {} := by
  have hu := tk_sl ht
  have e1 := hev x
  rw [hx] at e1
  simp only [VR] at e1
  rcases e1 with ⟨cb, y, cap, hc, e1, hy, hcap, hfull, hown⟩ | ⟨e0, e1⟩
  case inr =>
    subst e0
    obtain rfl : m = 0 := by omega
    obtain rfl : j = 0 := by omega
    obtain rfl : i = 0 := by omega
    have hbd := run_sliceBounds_ok (P := P) true 0 0 (optV hev hlo) (optV hev hhi) (optV hev hmx) (by simpa using h5) (Int.le_refl 0) (Int.le_refl 0) (Int.le_refl 0) (Int.le_refl 0) w
    refine Comes.pure h (cv := .slice none 0 0) ?_ (by simp [VR]) rfl rfl rfl rfl
    simp [execOp, ho, Instr.sliceAt, Instr.slice, run_underlying hu, e1, hbd, run_sizeOf hs]
  obtain ⟨m', hm', hmx'⟩ : ∃ m' : Int, OptV (mx.map cev) cap m' ∧ ((mx.isSome = true ∧ m' = m) ∨ (mx = none ∧ m' = cap)) := by
    cases mx with
    | none => exact ⟨cap, .inl ⟨rfl, rfl⟩, .inr ⟨rfl, rfl⟩⟩
    | some q => 
      rcases optV hev hmx with ⟨hh, _⟩ | hh
      · simp at hh
      · exact ⟨m, .inr hh, .inl ⟨rfl, rfl⟩⟩
  have hjm : j ≤ m' ∧ m' ≤ cap := by rcases hmx' with ⟨_, rfl⟩ | ⟨_, rfl⟩ <;> omega
  have hbd := run_sliceBounds_ok (P := P) true n cap (optV hev hlo) (optV hev hhi) hm' (by simpa using h5) h0 h1 hjm.1 hjm.2 w
  refine Comes.pure h (cv := .slice (if m'.toNat = i.toNat then some ⟨cb.blk, y, none⟩ else some ⟨cb.blk, y + i.toNat * s, none⟩) (j.toNat - i.toNat) (m'.toNat - i.toNat)) ?_ ?_ rfl rfl rfl rfl
  · simp only [execOp, ho, Instr.sliceAt, Instr.slice, Sem.run_bind, run_underlying hu, Result.andThen_ok, e1, hbd, run_sizeOf hs, Sem.run_pure, Option.map_some, Addr.add_none]
  · simp only [VR]
    have hij : (j - i).toNat = j.toNat - i.toNat := by omega
    by_cases hmi : m'.toNat = i.toNat
    · refine .inl ⟨cb, y, 0, hc, ?_, fun hh => by omega, by omega, fun _ => by omega, ?_⟩
      · simp [hmi, hij]
      · simp; omega
    · refine .inl ⟨cb, y + i.toNat * s, m'.toNat - i.toNat, hc, ?_, fun hh => ?_, by omega, fun hh => ?_, ?_⟩
      · simp [hmi, hij]
      · rw [hy (by omega)]; omega
      · rcases hmx' with ⟨e2, rfl⟩ | ⟨e2, rfl⟩
        · rw [e2] at hh
          have : j = m' := by simpa using hh
          omega
        · rw [e2] at hh
          simp at hh
          have := hfull hh.1
          omega
      · have e3 : (m'.toNat - i.toNat) * s + i.toNat * s = m'.toNat * s := by rw [← Nat.add_mul]; congr 1; omega
        have e4 : m'.toNat * s ≤ cap * s := Nat.mul_le_mul_right _ (by omega)
        omega

theorem s_slice_nil (t : TypeId) (x : Operand) (lo hi mx : Option Operand) {o : Oper} (ho : o.op = .slice t x lo hi mx) {e : TypeId} (ht : tk P t = some (.sl e)) (hx : ev x = .nilsl) {s : Nat} (hs : tsize P e = some s)
    (hlo : (lo.map ev).elim (some 0) AV.int? = some 0) (hhi : (hi.map ev).elim (some 0) AV.int? = some 0) (hmx : (mx.map ev).elim (some 0) AV.int? = some 0) (h5 : mx.isSome = true → hi.isSome = true) :
    Comes P ρ g w (execOp cev o) .nilsl {} := by
  have hu := tk_sl ht
  have e1 := hev x
  rw [hx] at e1
  simp only [VR] at e1
  have hbd := run_sliceBounds_ok (P := P) true 0 0 (optV hev hlo) (optV hev hhi) (optV hev hmx) (by simpa using h5) (Int.le_refl 0) (Int.le_refl 0) (Int.le_refl 0) (Int.le_refl 0) w
  refine Comes.pure h (cv := .slice none 0 0) ?_ (by simp [VR]) rfl rfl rfl rfl
  simp [execOp, ho, Instr.sliceAt, Instr.slice, run_underlying hu, e1, hbd, run_sizeOf hs]

end
end Go.Sym

/- Each operation is sound (sixth part): len, min, max, append, copy; then all of them together. -/
namespace Go.Sym
open Go

section
variable {P : Program} {ρ : Rho} {g : Gh} {w : World} (h : SR ρ g w)

theorem len_run {t : TypeId} {ts : List TypeId} {ty : TypeId} {x : AV} {cx : Value} {xs : List Value} (hx : VR ρ x cx) {k : TK} (ht : tk P t = some k) {n : Int}
    (hn : (∃ e b off m z f, k = .sl e ∧ x = .sl b off m z f ∧ n = m) ∨ (∃ e, k = .sl e ∧ x = .nilsl ∧ n = 0) ∨ (∃ s, k = .str ∧ x = .str s ∧ n = s.size) ∨ (∃ m e, k = .arr m e ∧ n = m)) :
    (Builtin.len_ (t :: ts).toArray ty (cx :: xs).toArray).run P w = .ok (.int .i64 n) w := by
  rcases hn with ⟨e, b, off, m, z, f, rfl, rfl, rfl⟩ | ⟨e, rfl, rfl, rfl⟩ | ⟨s, rfl, rfl, rfl⟩ | ⟨m, e, rfl, rfl⟩
  · have hu := tk_sl ht
    simp only [VR] at hx
    rcases hx with ⟨cb, y, cap, _, rfl, _⟩ | ⟨rfl, rfl⟩ <;> simp [Builtin.len_, run_underlying hu, goInt]
  · have hu := tk_sl ht
    simp only [VR] at hx
    subst hx
    simp [Builtin.len_, run_underlying hu, goInt]
  · have hu := tk_str ht
    simp only [VR] at hx
    subst hx
    simp [Builtin.len_, run_underlying hu, goInt]
  · have hu := tk_arr ht
    simp [Builtin.len_, run_underlying hu, goInt]

include h
/-- the cells of a slice that stands to a row of cells, read -/
theorem firstCells_SR {b : BId} {off n m z cap : Nat} {y : Nat} {l : List AV} (hb : g b = some l) {cb : CB} (hc : ρ b = some cb) (hy : m ≠ 0 → y = cb.sh + off) (hm : m ≠ 0 ∨ n * z = 0) (hl : off + n * z ≤ l.length) :
    ∃ cs, (Builtin.firstCells z n (.slice (some ⟨cb.blk, y, none⟩) m cap)).run P w = .ok cs.toArray w ∧ VRs ρ ((l.drop off).take (n * z)) cs := by
  by_cases h0 : n * z = 0
  · refine ⟨[], ?_, by rw [h0]; simp [VRs]⟩
    simp [Builtin.firstCells, h0, loadCells, loadCellsFrom]
  · have := hy (by omega)
    subst this
    exact run_loadCells_SR h hb hc hl

theorem SR.growCells {n : Nat} (hn : ρ (.o n) = none) {l : List AV} {cs : List Value} (hl : VRs ρ l cs) {rest : Array Value} (ty : TypeId) :
    SR (ρ.upd (.o n) ⟨w.drew.heap.size, 0, (cs.toArray ++ rest).size⟩) (g.upd (.o n) (some l)) (w.drew.alloc (.cells (cs.toArray ++ rest) ty)) ∧
    Tr ρ (ρ.upd (.o n) ⟨w.drew.heap.size, 0, (cs.toArray ++ rest).size⟩) w (w.drew.alloc (.cells (cs.toArray ++ rest) ty)) := by
  have h2 := SR.alloc h.drew hn (cs := cs.toArray ++ rest) (l := l) _ rfl (fun j v hj => by
    obtain ⟨cv, h1, h2⟩ := hl.get j v hj
    refine ⟨cv, ?_, h2⟩
    rw [Array.getElem?_append_left (by simpa using (List.getElem?_eq_some_iff.mp h1).1)]
    simpa using h1) ty
  exact ⟨h2.1, (Tr.drew ρ w).trans h2.2⟩

theorem Comes.grow {s : Sem Next} {rd : List (BId × Nat × Nat)} {n : Nat} {l : List AV} (hn : ρ (.o n) = none) {cs : List Value} {rest : Array Value} {ty : TypeId} {len cap z : Nat}
    (hr : s.run P w = .ok (.value (.slice (some ⟨w.heap.size, 0, none⟩) len cap)) (w.drew.alloc (.cells (cs.toArray ++ rest) ty))) (hl : VRs ρ l cs) (hcap : len ≤ cap) (hsz : cap * z ≤ (cs.toArray ++ rest).size) :
    Comes P ρ g w s (.sl (.o n) 0 len z false) { rd := rd, newo := [(n, l)] } := by
  obtain ⟨h1, h2⟩ := SR.growCells h hn hl (rest := rest) ty
  refine ⟨_, _, _, hr, .inl ⟨_, rfl, ?_⟩, by rw [Eff.app_new]; exact h1, h2, fun b hb he => ?_⟩
  · simp only [VR, Rho.upd, if_true, Option.some.injEq]
    exact .inl ⟨_, 0, cap, rfl, rfl, fun _ => rfl, hcap, (by simp), (by simpa using hsz)⟩
  · unfold Rho.upd
    split
    · rename_i e; subst e; simp [Eff.news, lk] at he
    · exact hb

omit h in
theorem append_grow_run {t u ty e e' : TypeId} {i : TypeInfo} {z : Value} (ht : P.underlying t = some (.slice e)) (hu : P.underlying u = some (.slice e')) (hi : P.info? e = some i) (hz : i.zero = some z)
    (base : Option Addr) (sLen sCap n c : Nat) (b : Addr) {olds news : List Value} (ho : (Builtin.firstCells i.size sLen (.slice base sLen sCap)).run P w.drew = .ok olds.toArray w.drew)
    (hn : (Builtin.firstCells i.size n (.slice (some b) n c)).run P w.drew = .ok news.toArray w.drew) (hg : sCap < sLen + n) (h63 : sLen + n ≤ 2 ^ 46) (h48 : (sLen + n) * i.bytes ≤ 2 ^ 46) :
    (Builtin.append_ #[t, u] ty #[.slice base sLen sCap, .slice (some b) n c]).run P w =
      .ok (.slice (some ⟨w.heap.size, 0, none⟩) (sLen + n) (grownCap w (sLen + n) sCap e))
        (w.drew.alloc (.cells ((olds ++ news).toArray ++ Builtin.zeroCells z.cells (grownCap w (sLen + n) sCap e - (sLen + n))) e)) := by
  have hn' : ¬ (sLen + n ≤ sCap) := by omega
  have h63' : ¬ (9223372036854775807 < ((sLen : Int) + (n : Int))) := by omega
  have h48' : ¬ (281474976710656 < Builtin.nextslicecap (sLen + n) sCap * i.bytes) := by
    have := growslice_fits (need := sLen + n) (old := sCap) (bytes := i.bytes) hg (by omega)
    omega
  simp [Builtin.append_, run_underlying ht, run_underlying hu, sizeOf, typeInfo, zeroValue, hi, hz, Builtin.lenOf, hn', h63', h48', Question.forced, hn, ho, newRow, grownCap]
  congr 2
  apply Array.ext'
  simp [List.append_assoc]

omit h in
theorem append_room_run {t u ty e e' : TypeId} {i : TypeInfo} (ht : P.underlying t = some (.slice e)) (hu : P.underlying u = some (.slice e')) (hi : P.info? e = some i)
    (a : Addr) (sLen sCap n c : Nat) (b : Addr) {news : List Value} {w' : World}
    (hn : (Builtin.firstCells i.size n (.slice (some b) n c)).run P w = .ok news.toArray w) (hg : sLen + n ≤ sCap) (hst : (storeCells (a.add (sLen * i.size)) news 0).run P w = .ok () w') :
    (Builtin.append_ #[t, u] ty #[.slice (some a) sLen sCap, .slice (some b) n c]).run P w = .ok (.slice (some a) (sLen + n) sCap) w' := by
  simp [Builtin.append_, run_underlying ht, run_underlying hu, sizeOf, typeInfo, hi, Builtin.lenOf, hg, hn, hst]

omit h in
theorem append_none_run {t u ty e e' : TypeId} {i : TypeInfo} (ht : P.underlying t = some (.slice e)) (hu : P.underlying u = some (.slice e')) (hi : P.info? e = some i)
    (base : Option Addr) (sLen sCap : Nat) (x : Value) (hx : (x = .slice none 0 0) ∨ ∃ b c, x = .slice (some b) 0 c) (hc : sLen ≤ sCap) :
    (Builtin.append_ #[t, u] ty #[.slice base sLen sCap, x]).run P w = .ok (.slice base sLen sCap) w := by
  rcases hx with rfl | ⟨b, c, rfl⟩ <;> cases base <;>
    simp [Builtin.append_, run_underlying ht, run_underlying hu, sizeOf, typeInfo, hi, Builtin.lenOf, hc, Builtin.firstCells, loadCells, loadCellsFrom, storeCells]

omit h in
theorem tsize_info {t : TypeId} {n : Nat} (hs : tsize P t = some n) : ∃ i, P.info? t = some i ∧ i.size = n := by
  unfold tsize at hs
  cases hi : P.info? t with
  | none => simp [hi] at hs
  | some i => simp [hi] at hs; exact ⟨i, rfl, hs⟩

omit h in
theorem zeroCells_size (z : Array Value) (n : Nat) : (Builtin.zeroCells z n).size = n * z.size := by simp [Builtin.zeroCells]

omit h in
theorem grownCap_le' (w : World) (need old : Nat) (e : TypeId) : need ≤ grownCap w need old e := by
  simp only [grownCap, Question.cut]; omega


def clip (l : List AV) (off n : Nat) : List AV := (l.drop off).take n

omit h in
theorem Eff.app_kill (g : Gh) (rd : List (BId × Nat × Nat)) (n k : Nat) (l : List AV) : ({ rd := rd, kill := [k], newo := [(n, l)] } : Eff).app g = (g.upd (.o k) none).upd (.o n) (some l) := by
  funext b
  cases b with
  | r m => simp [Eff.app, lk, Gh.upd]
  | o m =>
    simp only [Eff.app, lk, Gh.upd]
    by_cases e : n = m
    · subst e; simp
    · have e' : ¬ (BId.o m = BId.o n) := fun h => e (by cases h; rfl)
      simp only [e, if_false, e']
      by_cases ek : m = k
      · subst ek; simp
      · have ek' : ¬ (BId.o m = BId.o k) := fun h => ek (by cases h; rfl)
        simp only [ek', if_false]
        cases g (BId.o m) <;> simp [patchAll, ek]

/-- append onto nothing -/
theorem s_append_nil {t u ty e e' : TypeId} {z by_ : Nat} (ht : tk P t = some (.sl e)) (hu : tk P u = some (.sl e')) (hz : tsize P e = some z) (hby : tbytes P e = some by_) {z0 : List AV} (hz0 : tzero P e = some z0) (hzl : z0.length = z)
    {b : BId} {off n z' : Nat} {f : Bool} {x : Value} (hx : VR ρ (.sl b off n z' f) x) (hn : n ≠ 0) {l : List AV} (hb : g b = some l) (hl : off + n * z ≤ l.length)
    (h1 : n * by_ ≤ 2 ^ 46) (h2 : n ≤ 2 ^ 46) {nm : Nat} (hnm : ρ (.o nm) = none) {rd : List (BId × Nat × Nat)} {s : Sem Next} (hs : s = (do pure (.value (← Builtin.append_ #[t, u] ty #[.slice none 0 0, x])))) :
    Comes P ρ g w s (.sl (.o nm) 0 n z false) { rd := rd, newo := [(nm, clip l off (n * z))] } := by
  obtain ⟨i, hi, rfl⟩ := tsize_info hz
  have hbyi : i.bytes = by_ := by simpa [tbytes, hi] using hby
  obtain ⟨i', v, hi', hzv, rfl⟩ := tzero_some hz0
  rw [hi] at hi'; cases hi'
  simp only [VR] at hx
  rcases hx with ⟨cb, y, cap, hc, rfl, hy, hcap, _, _⟩ | ⟨e0, _⟩
  case inr => exact absurd e0 hn
  obtain ⟨cs, hr, hcs⟩ := firstCells_SR h.drew (P := P) hb hc (cap := cap) (m := n) hy (.inl hn) hl
  have ho : (Builtin.firstCells i.size 0 (.slice none 0 0)).run P w.drew = .ok ([] : List Value).toArray w.drew := by simp [Builtin.firstCells]
  have hrun := append_grow_run (ty := ty) (tk_sl ht) (tk_sl hu) hi hzv none 0 0 n cap ⟨cb.blk, y, none⟩ ho hr (by omega) (by omega) (by rw [hbyi]; simpa using h1)
  have hlen := hcs.length
  have hlen2 : (clip l off (n * i.size)).length = n * i.size := by simp [clip]; omega
  have hg := grownCap_le' w n 0 e
  refine Comes.grow h hnm (cs := cs) (rest := Builtin.zeroCells v.cells (grownCap w n 0 e - n)) (ty := e) (cap := grownCap w n 0 e) ?_ hcs hg ?_
  · rw [hs]
    simp only [Nat.zero_add, List.nil_append] at hrun
    simp [hrun]
  · have hvz : v.cells.size = i.size := by simpa using hzl
    have e1 : grownCap w n 0 e * i.size = n * i.size + (grownCap w n 0 e - n) * i.size := by rw [← Nat.add_mul]; congr 1; omega
    simp only [Array.size_append, List.size_toArray, zeroCells_size, hvz]
    change (clip l off (n * i.size)).length = _ at hlen2
    rw [e1]
    unfold clip at hlen2
    omega

omit h in
theorem clip_VRs {l : List AV} {cs : List Value} (h : VRs ρ l cs) (off n : Nat) : VRs ρ (clip l off n) ((cs.drop off).take n) := (h.drop off).take n

/-- append onto a row that is full: a new row -/
theorem s_append_grow {t u ty e e' : TypeId} {z by_ : Nat} (ht : tk P t = some (.sl e)) (hu : tk P u = some (.sl e')) (hz : tsize P e = some z) (hby : tbytes P e = some by_) {z0 : List AV} (hz0 : tzero P e = some z0) (hzl : z0.length = z)
    {b : BId} {off n z' : Nat} {f : Bool} {x : Value} (hx : VR ρ (.sl b off n z' f) x) (hn : n ≠ 0) {l : List AV} (hb : g b = some l) (hl : off + n * z ≤ l.length)
    {b2 : BId} {off2 m z2 : Nat} {f2 : Bool} {x2 : Value} (hx2 : VR ρ (.sl b2 off2 m z2 f2) x2) {l2 : List AV} (hb2 : g b2 = some l2) (hl2 : off2 + m * z ≤ l2.length)
    (h1 : (m + n) * by_ ≤ 2 ^ 46) (h2 : m + n ≤ 2 ^ 46) {nm : Nat} (hnm : ρ (.o nm) = none) {rd : List (BId × Nat × Nat)} {s : Sem Next} (hs : s = (do pure (.value (← Builtin.append_ #[t, u] ty #[x2, x]))))
    (hroom : ∀ base cap, x2 = .slice base m cap → cap < m + n) :
    Comes P ρ g w s (.sl (.o nm) 0 (m + n) z false) { rd := rd, newo := [(nm, clip l2 off2 (m * z) ++ clip l off (n * z))] } := by
  obtain ⟨i, hi, rfl⟩ := tsize_info hz
  have hbyi : i.bytes = by_ := by simpa [tbytes, hi] using hby
  obtain ⟨i', v, hi', hzv, rfl⟩ := tzero_some hz0
  rw [hi] at hi'; cases hi'
  have hx0 := hx
  simp only [VR] at hx hx2
  rcases hx2 with ⟨cb2, y2, cap2, hc2, rfl, hy2, hcap2, _, _⟩ | ⟨e0, rfl⟩
  case inr =>
    subst e0
    have hnil := s_append_nil (nm := nm) (rd := rd) h ht hu hz hby hz0 hzl hx0 hn hb hl (by simpa using h1) (by simpa using h2) hnm hs
    simpa [clip] using hnil
  rcases hx with ⟨cb, y, cap, hc, rfl, hy, hcap, _, _⟩ | ⟨e0, _⟩
  case inr => exact absurd e0 hn
  obtain ⟨cs, hr, hcs⟩ := firstCells_SR h.drew (P := P) hb hc (cap := cap) (m := n) hy (.inl hn) hl
  obtain ⟨cs2, hr2, hcs2⟩ := firstCells_SR h.drew (P := P) hb2 hc2 (cap := cap2) (m := m) (n := m) (z := i.size) hy2 (by by_cases e : m = 0 <;> simp [e]) hl2
  have hrun := append_grow_run (ty := ty) (tk_sl ht) (tk_sl hu) hi hzv (some ⟨cb2.blk, y2, none⟩) m cap2 n cap ⟨cb.blk, y, none⟩ hr2 hr (hroom _ _ rfl) h2 (by rw [hbyi]; exact h1)
  have hlen := hcs.length
  have hlen2 := hcs2.length
  have k1 : (List.take (n * i.size) (List.drop off l)).length = n * i.size := by simp; omega
  have k2 : (List.take (m * i.size) (List.drop off2 l2)).length = m * i.size := by simp; omega
  have hg := grownCap_le' w (m + n) cap2 e
  refine Comes.grow h hnm (cs := cs2 ++ cs) (rest := Builtin.zeroCells v.cells (grownCap w (m + n) cap2 e - (m + n))) (ty := e) (cap := grownCap w (m + n) cap2 e) ?_ (hcs2.append hcs) hg ?_
  · rw [hs]; simp [hrun]
  · have hvz : v.cells.size = i.size := by simpa using hzl
    have e1 : grownCap w (m + n) cap2 e * i.size = m * i.size + n * i.size + (grownCap w (m + n) cap2 e - (m + n)) * i.size := by rw [← Nat.add_mul, ← Nat.add_mul]; congr 1; omega
    simp only [Array.size_append, List.size_toArray, zeroCells_size, hvz, List.length_append]
    rw [e1]
    omega

/-- append into the room behind a row of one's own: its old name is over -/
theorem s_append_room {t u ty e e' : TypeId} {z : Nat} (ht : tk P t = some (.sl e)) (hu : tk P u = some (.sl e')) (hz : tsize P e = some z)
    {b : BId} {off n z' : Nat} {f : Bool} {x : Value} (hx : VR ρ (.sl b off n z' f) x) (hn : n ≠ 0) {l : List AV} (hb : g b = some l) (hl : off + n * z ≤ l.length) (hsc : (clip l off (n * z)).all AV.scalar = true)
    {k off2 m : Nat} {f2 : Bool} {x2 : Value} (hx2 : VR ρ (.sl (.o k) off2 m z f2) x2) {l2 : List AV} (hb2 : g (.o k) = some l2) (hl2 : off2 + m * z ≤ l2.length)
    {nm : Nat} (hnm : ρ (.o nm) = none) {rd : List (BId × Nat × Nat)} {s : Sem Next} (hs : s = (do pure (.value (← Builtin.append_ #[t, u] ty #[x2, x]))))
    (hroom : ∀ base cap, x2 = .slice base m cap → m + n ≤ cap) :
    Comes P ρ g w s (.sl (.o nm) 0 (m + n) z false) { rd := rd, kill := [k], newo := [(nm, clip l2 off2 (m * z) ++ clip l off (n * z))] } := by
  obtain ⟨i, hi, rfl⟩ := tsize_info hz
  have hx2' := hx2
  simp only [VR] at hx hx2
  rcases hx with ⟨cb, y, cap, hc, rfl, hy, hcap, _, _⟩ | ⟨e0, _⟩
  case inr => exact absurd e0 hn
  rcases hx2 with ⟨cb2, y2, cap2, hc2, rfl, hy2, hcap2, _, hown2⟩ | ⟨e0, rfl⟩
  case inr =>
    subst e0
    have := hroom _ _ rfl
    omega
  have hroom := hroom _ _ rfl
  obtain ⟨cs, hr, hcs⟩ := firstCells_SR h (P := P) hb hc (cap := cap) (m := n) hy (.inl hn) hl
  obtain ⟨cb', ca, ty', fz, k1, k2, k3, k6, k4⟩ := h.cells _ _ hb2 (fun _ => rfl)
  rw [hc2] at k1; cases k1
  obtain ⟨k5, rfl⟩ := k4 rfl
  have hlen := hcs.length
  have hcl : (List.take (n * i.size) (List.drop off l)).length = n * i.size := by simp; omega
  have hcap2z : (m + n) * i.size ≤ cap2 * i.size := Nat.mul_le_mul_right _ hroom
  have hmn : (m + n) * i.size = m * i.size + n * i.size := Nat.add_mul _ _ _
  -- the row as seen from the slice's beginning, all of it
  have hk2 : ρ.le ((ρ.upd (.o nm) ⟨cb2.blk, y2, cb2.sz⟩)) := Rho.le_upd hnm _
  let L : List AV := clip l2 off2 (m * i.size) ++ List.replicate (n * i.size) .top
  have hL : L.length = m * i.size + n * i.size := by simp [L, clip]; omega
  let ρ' := ρ.upd (.o nm) ⟨cb2.blk, y2, cb2.sz⟩
  let g' := (g.upd (.o k) none).upd (.o nm) (some L)
  have hgk : ∀ b l, g' b = some l → b ≠ .o nm → g b = some l ∧ b ≠ .o k := by
    intro b l hbl hne
    simp only [g', Gh.upd, hne, if_false] at hbl
    split at hbl
    · cases hbl
    · rename_i e; exact ⟨hbl, e⟩
  have hSR : SR ρ' g' w := by
    refine ⟨fun b l' hb' hz' => ?_, fun q b l1 l3 hq hb' hz' hne cb1 cb3 hc1 hc3 => ?_, fun q cb1 hb1 => ?_, fun {b l'} hb' => ?_⟩
    · by_cases e : b = .o nm
      · subst e
        simp only [g', Gh.upd, if_true, Option.some.injEq] at hb'
        subst hb'
        refine ⟨⟨cb2.blk, y2, cb2.sz⟩, ca, ty', (0, 0), by simp [ρ', Rho.upd], k2, fun j v hj => ?_, by simp only; omega, fun _ => ⟨k5, rfl⟩⟩
        have hjl := (List.getElem?_eq_some_iff.mp hj).1
        rw [hL] at hjl
        by_cases hjm : j < m * i.size
        · have hyy := hy2 (fun e => by rw [e, Nat.zero_mul] at hjm; omega)
          have hjj : L[j]? = l2[off2 + j]? := by
            simp only [L, clip]
            rw [List.getElem?_append_left (by simp; omega), List.getElem?_take, if_pos hjm, List.getElem?_drop]
          rw [hjj] at hj
          obtain ⟨cv, h5, h6⟩ := k3 (off2 + j) v hj
          exact ⟨cv, by rw [hyy, Nat.add_assoc]; exact h5, VR.ext hk2 _ _ h6⟩
        · have hv : v = .top := by
            simp only [L, clip] at hj
            rw [List.getElem?_append_right (by simp; omega)] at hj
            rw [List.getElem?_replicate] at hj
            split at hj
            · cases hj; rfl
            · cases hj
          subst hv
          have : y2 + j < ca.size := by rw [k5]; omega
          exact ⟨ca[y2 + j], by simp [this], by simp [VR]⟩
      · obtain ⟨hb1, hbk⟩ := hgk b l' hb' e
        obtain ⟨cb1, c1, t1, f1, q1, q2, q3, q4⟩ := h.cells b l' hb1 hz'
        exact ⟨cb1, c1, t1, f1, hk2 _ _ q1, q2, fun j v hj => by
          obtain ⟨cv, q5, q6⟩ := q3 j v hj
          exact ⟨cv, q5, VR.ext hk2 _ _ q6⟩, q4⟩
    · have hrr : ∀ b', b' ≠ .o nm → ∀ c, ρ' b' = some c → ρ b' = some c := fun b' hb c hc => by simpa [ρ', Rho.upd, hb] using hc
      have hnew : ∀ c, ρ' (.o nm) = some c → c.blk = cb2.blk := fun c hc => by
        simp only [ρ', Rho.upd, if_true, Option.some.injEq] at hc
        rw [← hc]
      by_cases e1 : BId.o q = .o nm
      · have hbn : b ≠ .o nm := fun e => hne (by rw [e, e1])
        obtain ⟨hb1, hbk⟩ := hgk b l3 hb' hbn
        rw [e1] at hc1
        rw [hnew _ hc1]
        exact h.sep k b l2 l3 hb2 hb1 hz' hbk cb2 cb3 hc2 (hrr b hbn _ hc3)
      · obtain ⟨hq1, hqk⟩ := hgk (.o q) l1 hq e1
        by_cases e2 : b = .o nm
        · rw [e2] at hc3
          rw [hnew _ hc3]
          exact fun e => h.sep k (.o q) l2 l1 hb2 hq1 (fun _ => rfl) hqk cb2 cb1 hc2 (hrr _ e1 _ hc1) e.symm
        · obtain ⟨hb1, hbk⟩ := hgk b l3 hb' e2
          exact h.sep q b l1 l3 hq1 hb1 hz' hne cb1 cb3 (hrr _ e1 _ hc1) (hrr _ e2 _ hc3)
    · by_cases e : BId.o q = .o nm
      · rw [e] at hb1
        simp only [ρ', Rho.upd, if_true, Option.some.injEq] at hb1
        rw [← hb1]
        have := h.bound _ _ hc2
        exact this
      · have : ρ (.o q) = some cb1 := by simpa [ρ', Rho.upd, e] using hb1
        exact h.bound _ _ this
    · by_cases e : b = .o nm
      · subst e
        exact ⟨⟨cb2.blk, y2, cb2.sz⟩, by simp [ρ', Rho.upd]⟩
      · obtain ⟨cb1, q1⟩ := h.has (hgk b l' hb' e).1
        exact ⟨cb1, hk2 _ _ q1⟩
  obtain ⟨w', hst, hSR', hTr⟩ := run_storeCells_SR (P := P) (ρ := ρ') (n := nm) (cb := ⟨cb2.blk, y2, cb2.sz⟩) (by simp [ρ', Rho.upd]) (clip l off (n * i.size)) cs (VRs.ext hk2 _ _ hcs) hsc (m * i.size) 0 g' w hSR L
    (by simp [g', Gh.upd]) (by rw [hL]; simp only [clip, hcl]; omega)
  have hrun := append_room_run (ty := ty) (tk_sl ht) (tk_sl hu) hi ⟨cb2.blk, y2, none⟩ m cap2 n cap ⟨cb.blk, y, none⟩ hr hroom (by rw [Addr.add_none]; exact hst)
  have hpatch : patch L (m * i.size + 0) (clip l off (n * i.size)) = clip l2 off2 (m * i.size) ++ clip l off (n * i.size) := by
    have key : ∀ (cs A B : List AV), B.length = cs.length → patch (A ++ B) A.length cs = A ++ cs := by
      intro cs
      induction cs with
      | nil => intro A B hB; simp at hB; subst hB; simp [patch]
      | cons c cs ih =>
        intro A B hB
        match B, hB with
        | d :: B, hB =>
          simp only [patch]
          have e1 : (A ++ d :: B).set A.length c = (A ++ [c]) ++ B := by simp
          have e2 : A.length + 1 = (A ++ [c]).length := by simp
          rw [e1, e2, ih (A ++ [c]) B (by simpa using hB)]
          simp
    have e3 : m * i.size + 0 = (clip l2 off2 (m * i.size)).length := by simp [clip]; omega
    rw [e3]
    exact key _ _ _ (by simp [clip]; omega)
  have hgg : g'.upd (.o nm) (some (patch L (m * i.size + 0) (clip l off (n * i.size)))) = ({ rd := rd, kill := [k], newo := [(nm, clip l2 off2 (m * i.size) ++ clip l off (n * i.size))] } : Eff).app g := by
    rw [Eff.app_kill, hpatch]
    funext b
    simp only [g', Gh.upd]
    split <;> rfl
  have htr0 : Tr ρ ρ' w w := ⟨hk2, fun q c hq => by
    by_cases e : BId.o q = .o nm
    · rw [e] at hq
      simp only [ρ', Rho.upd, if_true, Option.some.injEq] at hq
      exact .inl ⟨k, cb2, hc2, by rw [← hq]⟩
    · exact .inl ⟨q, c, by simpa [ρ', Rho.upd, e] using hq, rfl⟩, fun q c hq => .inl (by simpa [ρ', Rho.upd] using hq), rfl, rfl, rfl, Nat.le_refl _, fun _ _ _ => rfl⟩
  refine ⟨.value (.slice (some ⟨cb2.blk, y2, none⟩) (m + n) cap2), w', ρ', by rw [hs]; simp only [Sem.run_bind, hrun, Result.andThen_ok, Sem.run_pure], .inl ⟨_, rfl, ?_⟩, by rw [← hgg]; exact hSR', htr0.trans hTr, fun b hb he => ?_⟩
  · simp only [VR]
    refine .inl ⟨⟨cb2.blk, y2, cb2.sz⟩, y2, cap2, by simp [ρ', Rho.upd], rfl, fun _ => rfl, hroom, (by simp), hown2⟩
  · by_cases e : b = .o nm
    · subst e; simp [Eff.news, lk] at he
    · simpa [ρ', Rho.upd, e] using hb

end
end Go.Sym

/- All operations together: where the abstract operation gives something, the model's run gives what stands to it. -/
namespace Go.Sym
open Go

section
variable {P : Program} {ρ : Rho} {g : Gh} {w : World} (h : SR ρ g w)

theorem run_builtin (cev : Operand → Value) {o : Oper} {c : Call} {b : Builtin} (ho : o.op = .call c) (hc : c.callee = .builtin b) :
    execOp cev o = builtin b c.argTypes o.type (c.args.map fun | .const _ => true | _ => false) (c.args.map cev) := by
  unfold execOp
  simp only [ho, resolve, hc]
  rfl

include h in
theorem s_copy {t : TypeId} {ts : List TypeId} {ty e : TypeId} {z : Nat} (ht : tk P t = some (.sl e)) (hz : tsize P e = some z)
    {k off m z1 : Nat} {f1 : Bool} {x : Value} (hx : VR ρ (.sl (.o k) off m z1 f1) x) {l : List AV} (hb : g (.o k) = some l)
    {b2 : BId} {off2 n z2 : Nat} {f2 : Bool} {x2 : Value} (hx2 : VR ρ (.sl b2 off2 n z2 f2) x2) {l2 : List AV} (hb2 : g b2 = some l2)
    (hne : min n m ≠ 0) (hl : off + min n m * z ≤ l.length) (hl2 : off2 + min n m * z ≤ l2.length) (hsc : ((l2.drop off2).take (min n m * z)).all AV.scalar = true)
    {s : Sem Next} (hs : s = (do pure (.value (← Builtin.copy_ (t :: ts).toArray ty #[x, x2])))) :
    Comes P ρ g w s (.int .i64 (min n m : Nat)) { rd := [(b2, off2, min n m * z)], wr := [(k, off, (l2.drop off2).take (min n m * z))] } := by
  obtain ⟨i, hi, rfl⟩ := tsize_info hz
  simp only [VR] at hx hx2
  rcases hx with ⟨cb, y, cap, hc, rfl, hy, _⟩ | ⟨e0, _⟩
  case inr => exact absurd (by rw [e0]; simp) hne
  rcases hx2 with ⟨cb2, y2, cap2, hc2, rfl, hy2, _⟩ | ⟨e0, _⟩
  case inr => exact absurd (by rw [e0]; simp) hne
  obtain ⟨cs, hr, hcs⟩ := firstCells_SR h (P := P) hb2 hc2 (cap := cap2) (m := n) (n := min n m) (z := i.size) hy2 (.inl (by omega)) hl2
  have hyy := hy (by omega)
  subst hyy
  have hcl : ((l2.drop off2).take (min n m * i.size)).length = min n m * i.size := by simp; omega
  obtain ⟨w', hst, hSR, hTr⟩ := run_storeCells_SR (P := P) hc _ cs hcs hsc off 0 g w h l hb (by rw [hcl]; omega)
  have hmin : Nat.min n m = min n m := rfl
  refine ⟨.value (goInt (min n m : Nat)), w', ρ, ?_, .inl ⟨_, rfl, by simp [VR, goInt]⟩, ?_, hTr, fun b hb _ => hb⟩
  · rw [hs]
    simp [Builtin.copy_, run_underlying (tk_sl ht), Builtin.lenOf, sizeOf, typeInfo, hi, hmin, hr, hst]
  · rw [Eff.app_wr g _ k off _ l hb]
    simpa using hSR

theorem VRs.two {a b : AV} {X : List Value} (h : VRs ρ [a, b] X) : ∃ x y, X = [x, y] ∧ VR ρ a x ∧ VR ρ b y := by
  simp only [VRs] at h
  obtain ⟨x, _, rfl, h1, y, _, rfl, h2, rfl⟩ := h
  exact ⟨x, y, rfl, h1, h2⟩

theorem isSl_slice {s : AV} {v : Value} (hs : VR ρ s v) (h : s.isSl = true) : ∃ base m c, v = .slice base m c ∧ m ≤ c := by
  cases s <;> simp only [AV.isSl, Bool.false_eq_true] at h
  · simp only [VR] at hs; exact ⟨none, 0, 0, hs, Nat.le_refl _⟩
  · simp only [VR] at hs
    rcases hs with ⟨cb, y, cap, _, e, _, hc, _⟩ | ⟨_, e⟩
    · exact ⟨_, _, _, e, hc⟩
    · exact ⟨_, _, _, e, Nat.le_refl _⟩

include h in
theorem bop_len {nm : Nat} {t : TypeId} {tr : List TypeId} {ty : TypeId} {cn : Array Bool} {x : AV} {xr : List AV} {X : List Value} (hX : VRs ρ (x :: xr) X) {v : AV} {e : Eff} (hop : bopA P g nm .len (t :: tr) (x :: xr) = some (v, e)) :
    Comes P ρ g w (builtin .len (t :: tr).toArray ty cn X.toArray) v e := by
  simp only [VRs] at hX
  obtain ⟨cx, cr, rfl, hx, hr⟩ := hX
  have key : ∀ n : Int, ∀ k : TK, tk P t = some k → ((∃ e b off m z f, k = .sl e ∧ x = .sl b off m z f ∧ n = m) ∨ (∃ e, k = .sl e ∧ x = .nilsl ∧ n = 0) ∨ (∃ s, k = .str ∧ x = .str s ∧ n = s.size) ∨ (∃ m e, k = .arr m e ∧ n = m)) →
      Comes P ρ g w (builtin .len (t :: tr).toArray ty cn (cx :: cr).toArray) (.int .i64 n) {} := fun n k hk hn => by
    have := len_run (P := P) (w := w) (ts := tr) (ty := ty) (xs := cr) hx hk hn
    refine Comes.pure h (cv := .int .i64 n) ?_ (by simp [VR]) rfl rfl rfl rfl
    simp only [builtin, Sem.run_bind, this, Result.andThen_ok, Sem.run_pure]
  simp only [bopA] at hop
  split at hop
  · rename_i hk; cases hop
    exact key _ _ hk (.inl ⟨_, _, _, _, _, _, rfl, rfl, rfl⟩)
  · rename_i hk; cases hop
    exact key _ _ hk (.inr (.inl ⟨_, rfl, rfl, rfl⟩))
  · rename_i hk; cases hop
    exact key _ _ hk (.inr (.inr (.inl ⟨_, rfl, rfl, rfl⟩)))
  · rename_i hk; cases hop
    exact key _ _ hk (.inr (.inr (.inr ⟨_, _, rfl, rfl⟩)))
  · cases hop

include h in
theorem bop_append {nm : Nat} (hnm : ρ (.o nm) = none) {t u : TypeId} {ty : TypeId} {cn : Array Bool} {s x : AV} {X : List Value} (hX : VRs ρ [s, x] X) {v : AV} {e : Eff} (hop : bopA P g nm .append [t, u] [s, x] = some (v, e)) :
    Comes P ρ g w (builtin .append #[t, u] ty cn X.toArray) v e := by
  obtain ⟨cs, cx, rfl, hs, hx⟩ := hX.two
  have hbi : (builtin .append #[t, u] ty cn [cs, cx].toArray) = (do pure (.value (← Builtin.append_ #[t, u] ty #[cs, cx]))) := rfl
  simp only [bopA] at hop
  cases ht : tk P t with
  | none => simp [ht] at hop
  | some kt =>
    cases hu : tk P u with
    | none => simp [ht, hu] at hop
    | some ku =>
      cases kt <;> simp only [ht, hu, reduceCtorEq] at hop
      cases ku <;> simp only [reduceCtorEq] at hop
      rename_i e1 e2
      cases hz : tsize P e1 with
      | none => simp [hz] at hop
      | some z =>
        cases hby : tbytes P e1 with
        | none => simp [hz, hby] at hop
        | some by_ =>
          cases hz0 : tzero P e1 with
          | none => simp [hz, hby, hz0] at hop
          | some z0 =>
            simp only [hz, hby, hz0] at hop
            split at hop
            · cases hop
            · rename_i hzl
              simp only [ne_eq, Decidable.not_not] at hzl
              -- nothing comes to it
              have hnone : (cx = .slice none 0 0 ∨ ∃ b c, cx = .slice (some b) 0 c) → (∃ base m c, cs = .slice base m c ∧ m ≤ c) → Comes P ρ g w (builtin .append #[t, u] ty cn [cs, cx].toArray) s {} := fun hcx hss => by
                obtain ⟨i, hi, _⟩ := tsize_info hz
                refine Comes.pure h (cv := cs) ?_ hs rfl rfl rfl rfl
                rw [hbi]
                obtain ⟨base, m, c, rfl, hc⟩ := hss
                simp only [Sem.run_bind, append_none_run (ty := ty) (tk_sl ht) (tk_sl hu) hi base m c cx hcx hc, Result.andThen_ok, Sem.run_pure]
              cases x <;> simp only [reduceCtorEq] at hop
              case nilsl =>
                split at hop
                · rename_i hsl
                  cases hop
                  exact hnone (.inl (by simpa [VR] using hx)) (isSl_slice hs hsl)
                · cases hop
              case sl b off n z' f =>
                have hx' := hx
                simp only [VR] at hx'
                rcases hx' with ⟨cb, y, cap, hc, rfl, _⟩ | ⟨e0, rfl⟩
                case inr =>
                  subst e0
                  split at hop
                  · split at hop
                    · rename_i hsl
                      cases hop
                      exact hnone (.inl rfl) (isSl_slice hs hsl)
                    · cases hop
                  · rename_i h0; exact absurd rfl h0
                split at hop
                · rename_i h0
                  subst h0
                  split at hop
                  · rename_i hsl
                    cases hop
                    exact hnone (.inr ⟨_, _, rfl⟩) (isSl_slice hs hsl)
                  · cases hop
                · rename_i h0
                  split at hop
                  · cases hop
                  · rename_i l hb
                    split at hop
                    · cases hop
                    · rename_i hc1
                      simp only [not_or, Nat.not_lt, Bool.not_eq_false] at hc1
                      cases s <;> simp only [reduceCtorEq] at hop
                      case nilsl =>
                        split at hop
                        · rename_i hc2
                          cases hop
                          simp only [VR] at hs
                          subst hs
                          exact s_append_nil h ht hu hz hby hz0 hzl hx h0 hb hc1.1 hc2.1 hc2.2 hnm hbi
                        · cases hop
                      case sl b2 off2 m z2 full =>
                        split at hop
                        · cases hop
                        · rename_i l2 hb2
                          split at hop
                          · cases hop
                          · rename_i hc2
                            simp only [not_or, Nat.not_lt, ne_eq, Decidable.not_not] at hc2
                            obtain ⟨k1, rfl, k2, k3⟩ := hc2
                            have hs' := hs
                            simp only [VR] at hs'
                            have hs2 : ∃ bs2 m2 cap2, cs = .slice bs2 m2 cap2 ∧ m2 = m ∧ m ≤ cap2 ∧ (full = true → cap2 = m) := by
                              rcases hs' with ⟨cb2, y2, cap2, hcc2, e, _, hcap2, hfull2, _⟩ | ⟨e0, e⟩
                              · exact ⟨_, _, _, e, rfl, hcap2, hfull2⟩
                              · exact ⟨_, _, _, e, e0.symm, by omega, fun _ => e0.symm⟩
                            obtain ⟨bs2, m2, cap2, rfl, em, hcap2, hfull2⟩ := hs2
                            subst em
                            split at hop
                            · rename_i hf
                              cases hop
                              refine s_append_grow h ht hu hz hby hz0 hzl hx h0 hb hc1.1 hs hb2 k1 k2 k3 hnm hbi fun base cap e => ?_
                              cases e
                              have := hfull2 hf
                              omega
                            · split at hop
                              · cases hop
                                by_cases hroom : m2 + n ≤ cap2
                                · exact s_append_room h ht hu hz hx h0 hb hc1.1 hc1.2 hs hb2 k1 hnm hbi fun base cap e => by cases e; exact hroom
                                · have hg := s_append_grow h ht hu hz hby hz0 hzl hx h0 hb hc1.1 hs hb2 k1 k2 k3 hnm (rd := []) hbi fun base cap e => by cases e; omega
                                  obtain ⟨nx, w', ρ', r1, r2, r3, r4, r5⟩ := hg
                                  refine ⟨nx, w', ρ', r1, r2, ?_, r4, fun b hb he => r5 b hb (by cases b <;> simp_all [Eff.news, lk, clip])⟩
                                  refine r3.less fun b' l' hb' => ?_
                                  rw [Eff.app_kill] at hb'
                                  rw [Eff.app_new]
                                  simp only [Gh.upd] at hb' ⊢
                                  split at hb'
                                  · rename_i e; simpa [e, clip] using hb'
                                  · rename_i e
                                    split at hb'
                                    · cases hb'
                                    · simpa [e] using hb'
                              · cases hop

include h in
theorem bop_copy {nm : Nat} {t : TypeId} {tr : List TypeId} {ty : TypeId} {cn : Array Bool} {d x : AV} {X : List Value} (hX : VRs ρ [d, x] X) {v : AV} {e : Eff} (hop : bopA P g nm .copy (t :: tr) [d, x] = some (v, e)) :
    Comes P ρ g w (builtin .copy (t :: tr).toArray ty cn X.toArray) v e := by
  obtain ⟨cd, cx, rfl, hd, hx⟩ := hX.two
  have hbi : (builtin .copy (t :: tr).toArray ty cn [cd, cx].toArray) = (do pure (.value (← Builtin.copy_ (t :: tr).toArray ty #[cd, cx]))) := rfl
  simp only [bopA] at hop
  split at hop
  · rename_i e ht
    split at hop
    · rename_i z k off m z' f' b off' n z'' f'' hz
      split at hop
      · cases hop
      · rename_i hzz
        simp only [not_or, ne_eq, Decidable.not_not] at hzz
        obtain ⟨rfl, rfl⟩ := hzz
        split at hop
        · rename_i hmin
          cases hop
          obtain ⟨i, hi, _⟩ := tsize_info hz
          have hd' := hd
          have hx' := hx
          simp only [VR] at hd' hx'
          have hdn : ∃ bs m' c, cd = .slice bs m' c ∧ m' = m := by
            rcases hd' with ⟨cb, y, cap, _, e, _⟩ | ⟨e0, e⟩
            · exact ⟨_, _, _, e, rfl⟩
            · exact ⟨_, _, _, e, e0.symm⟩
          have hxn : ∃ bs m' c, cx = .slice bs m' c ∧ m' = n := by
            rcases hx' with ⟨cb, y, cap, _, e, _⟩ | ⟨e0, e⟩
            · exact ⟨_, _, _, e, rfl⟩
            · exact ⟨_, _, _, e, e0.symm⟩
          obtain ⟨bs1, m', c1, rfl, em⟩ := hdn
          obtain ⟨bs2, n', c2, rfl, en⟩ := hxn
          subst em
          subst en
          refine Comes.pure h (cv := .int .i64 0) ?_ (by simp [VR]) rfl rfl rfl rfl
          rw [hbi]
          have hmin' : Nat.min n' m' = 0 := hmin
          cases bs1 <;> cases bs2 <;> simp [Builtin.copy_, run_underlying (tk_sl ht), Builtin.lenOf, sizeOf, typeInfo, hi, hmin', Builtin.firstCells, loadCells, loadCellsFrom, storeCells, goInt]
        · rename_i hmin
          split at hop
          · rename_i l l' hb hb'
            split at hop
            · cases hop
            · rename_i hc
              simp only [not_or, Nat.not_lt, Bool.not_eq_false] at hc
              cases hop
              exact s_copy h ht hz hd hb hx hb' hmin hc.1 hc.2.1 hc.2.2 hbi
          · cases hop
    · cases hop
  · cases hop

include h in
theorem bopA_sound {nm : Nat} (hnm : ρ (.o nm) = none) {b : Builtin} {ts : List TypeId} {ty : TypeId} {cn : Array Bool} {xs : List AV} {X : List Value} (hX : VRs ρ xs X) {v : AV} {e : Eff} (hop : bopA P g nm b ts xs = some (v, e)) :
    Comes P ρ g w (builtin b ts.toArray ty cn X.toArray) v e := by
  have hop' := hop
  unfold bopA at hop
  split at hop
  · exact bop_len h hX hop'
  · cases hop
    obtain ⟨x, y, rfl, hx, hy⟩ := hX.two
    simp only [VR] at hx hy; subst hx; subst hy
    rename_i k a k' b
    refine Comes.pure h (cv := .int k (if b > a then b else a)) ?_ (by simp [VR]) rfl rfl rfl rfl
    simp [builtin, run_max_int2]
  · cases hop
    obtain ⟨x, y, rfl, hx, hy⟩ := hX.two
    simp only [VR] at hx hy; subst hx; subst hy
    rename_i k a k' b
    refine Comes.pure h (cv := .int k (if b < a then b else a)) ?_ (by simp [VR]) rfl rfl rfl rfl
    simp [builtin, run_min_int2]
  · exact bop_append h hnm hX hop'
  · exact bop_copy h hX hop'
  · cases hop


/-- ALL OPERATIONS that are no calls of Go functions -/
theorem aop_sound (h : SR ρ g w) {ev : Operand → AV} {cev : Operand → Value} (hev : ∀ x, VR ρ (ev x) (cev x)) {nm : Nat} (hnm : ρ (.o nm) = none) {o : Oper} {v : AV} {e : Eff} (hop : aop P ev g nm o.op = some (v, e)) :
    Comes P ρ g w (execOp cev o) v e := by
  cases ho : o.op <;> rw [ho] at hop <;> simp only [aop, reduceCtorEq, Option.some.injEq, Prod.mk.injEq] at hop
  case move x => obtain ⟨rfl, rfl⟩ := hop; exact s_move h hev x (.inl ho)
  case assign x => obtain ⟨rfl, rfl⟩ := hop; exact s_move h hev x (.inr ho)
  case pick c a b =>
    split at hop
    · rename_i t hc; cases hop; exact s_pick h hev c a b ho hc
    · cases hop
  case alloc t =>
    simp only [Option.map_eq_some_iff, Prod.mk.injEq] at hop
    obtain ⟨l, hl, rfl, rfl⟩ := hop
    exact s_alloc h hev t ho hnm hl
  case box t x =>
    simp only [Option.map_eq_some_iff, Prod.mk.injEq] at hop
    obtain ⟨l, hl, rfl, rfl⟩ := hop
    exact s_box h hev t x ho hnm hl
  case build t parts =>
    split at hop
    · rename_i fs z ht hz
      split at hop
      · rename_i pl hpl
        simp only [Option.map_eq_some_iff, Prod.mk.injEq] at hop
        obtain ⟨l, hl, rfl, rfl⟩ := hop
        exact s_build_struct h hev t parts ho ht hz hpl hl
      · cases hop
    · rename_i n e z ht hz
      split at hop
      · rename_i s hs
        simp only [Option.map_eq_some_iff, Prod.mk.injEq] at hop
        obtain ⟨l, hl, rfl, rfl⟩ := hop
        exact s_build_array h hev t parts ho ht hz hs hl
      · cases hop
    · cases hop
  case buildSlice t n parts =>
    split at hop
    · rename_i e ht
      split at hop
      · rename_i s z hs hz
        split at hop
        · rename_i hc
          simp only [Option.map_eq_some_iff, Prod.mk.injEq] at hop
          obtain ⟨l, hl, rfl, rfl⟩ := hop
          exact s_buildSlice h hev t n parts ho hnm ht hs hz (.inl hc.2) hc.1 hl
        · cases hop
      · cases hop
    · cases hop
  case load t a =>
    split at hop
    · rename_i b off k n ha hk hn
      split at hop
      · rename_i l hb
        split at hop
        · rename_i hka
          split at hop
          · rename_i hl; cases hop; exact s_load_agg h hev t a ho ha hb hk hn hka hl
          · cases hop
        · rename_i hka
          simp only [Option.map_eq_some_iff, Prod.mk.injEq] at hop
          obtain ⟨u, hu, rfl, rfl⟩ := hop
          exact s_load h hev t a ho ha hb hk (by simpa using hka) hu
      · cases hop
    · cases hop
  case store t a x =>
    split at hop
    · rename_i n off cs s ha hcs hs
      split at hop
      · rename_i l hb
        split at hop
        · rename_i hc
          cases hop
          obtain ⟨rfl, h1, h2⟩ := hc
          exact s_store h hev t a x ho ha hcs hb hs h1 h2
        · cases hop
      · cases hop
    · cases hop
  case nilCheck x =>
    split at hop
    · rename_i b o' hx; cases hop; rw [← hx]; exact s_nilCheck h hev x ho (.inl ⟨_, _, hx⟩)
    · rename_i f a b hx; cases hop; rw [← hx]; exact s_nilCheck h hev x ho (.inr ⟨_, _, _, hx⟩)
    · cases hop
  case binOp op t x y u =>
    simp only [Option.map_eq_some_iff, Prod.mk.injEq] at hop
    obtain ⟨u, hu, rfl, rfl⟩ := hop
    exact s_binOp h hev op t _ x y ho hu
  case unOp op t x =>
    simp only [Option.map_eq_some_iff, Prod.mk.injEq] at hop
    obtain ⟨u, hu, rfl, rfl⟩ := hop
    exact s_unOp h hev op t x ho hu
  case convert src dst x =>
    split at hop
    · rename_i k0 k k' n hs hd hx; cases hop; exact s_convert h hev src dst x ho hs hd hx
    · cases hop
  case makeFunc fn first cap =>
    cases fn <;> simp only [aop, reduceCtorEq, Option.some.injEq, Prod.mk.injEq] at hop
    obtain ⟨rfl, rfl⟩ := hop
    exact s_makeFunc h hev _ first cap ho
  case makeSlice t n c =>
    split at hop
    · rename_i e k l k' c' ht hl hc
      split at hop
      · rename_i s by_ z hs hb hz
        split at hop
        · rename_i hcc
          cases hop
          obtain ⟨c1, c2, c3, c4, c5, c6⟩ := hcc
          exact s_makeSlice h hev t n c ho hnm ht hl hc hs hb hz c1 c2 c3 c4 c5 c6
        · cases hop
      · cases hop
    · cases hop
  case slice t x lo hi mx =>
    split at hop
    · rename_i n e b off ht hx
      split at hop
      · rename_i s l i j m hs hb h1 h2 h3
        split at hop
        · rename_i hc
          cases hop
          obtain ⟨c1, c2, c3, c4, c5, c6, c7⟩ := hc
          exact s_slice_arr h hev t x lo hi mx ho ht hx hs hb h1 h2 h3 c1 c2 c3 c4 c5 c6 c7
        · cases hop
      · cases hop
    · rename_i e b off n s full ht hx
      split at hop
      · rename_i s' i j m hs h1 h2 h3
        split at hop
        · rename_i hc
          cases hop
          obtain ⟨c1, c2, c3, c4, rfl, c6⟩ := hc
          exact s_slice_sl h hev t x lo hi mx ho ht hx hs h1 h2 h3 c1 c2 c3 c4 c6
        · cases hop
      · cases hop
    · rename_i e ht hx
      split at hop
      · rename_i s i j m hs h1 h2 h3
        split at hop
        · rename_i hc
          cases hop
          obtain ⟨rfl, rfl, rfl, c6⟩ := hc
          exact s_slice_nil h hev t x lo hi mx ho ht hx hs h1 h2 h3 c6
        · cases hop
      · cases hop
    · cases hop
  case fieldAddr t x f =>
    split at hop
    · rename_i b off fs hx ht
      split at hop
      · rename_i oo ft hf
        split at hop
        · rename_i s hs
          split at hop
          · cases hop
          · rename_i h0; cases hop; exact s_fieldAddr h hev t x f ho hx ht hf hs h0
        · cases hop
      · cases hop
    · cases hop
  case field t x f =>
    split at hop
    · rename_i l fs hx ht
      split at hop
      · rename_i oo ft hf
        simp only [Option.map_eq_some_iff, Prod.mk.injEq] at hop
        obtain ⟨u, hu, rfl, rfl⟩ := hop
        exact s_field h hev t x f ho hx ht hf hu
      · cases hop
    · cases hop
  case indexAddr t x i =>
    split at hop
    · rename_i e b off n z full k j ht hx hi
      split at hop
      · rename_i s hs
        split at hop
        · rename_i hc; cases hop; exact s_indexAddr_sl h hev t x i ho ht hx hi hs hc.1 hc.2
        · cases hop
      · cases hop
    · rename_i n e b off k j ht hx hi
      split at hop
      · rename_i s hs
        split at hop
        · rename_i hc; cases hop; exact s_indexAddr_arr h hev t x i ho ht hx hi hs hc.1 hc.2
        · cases hop
      · cases hop
    · cases hop
  case index t x i =>
    split at hop
    · rename_i n e l k j ht hx hi
      split at hop
      · rename_i s hs
        split at hop
        · rename_i hc
          simp only [Option.map_eq_some_iff, Prod.mk.injEq] at hop
          obtain ⟨u, hu, rfl, rfl⟩ := hop
          exact s_index h hev t x i ho ht hx hi hs hc.1 hc.2 hu
        · cases hop
      · cases hop
    · cases hop
  case extract x i =>
    split at hop
    · rename_i l hx
      simp only [Option.map_eq_some_iff, Prod.mk.injEq] at hop
      obtain ⟨u, hu, rfl, rfl⟩ := hop
      exact s_extract h hev x i ho hx hu
    · cases hop
  case call c =>
    split at hop
    · rename_i b hb
      rw [run_builtin cev ho hb]
      have hX : VRs ρ (c.args.toList.map ev) (c.args.toList.map cev) := VRs.of_get (by simp) fun i v hi => by
        simp only [List.getElem?_map, Option.map_eq_some_iff] at hi ⊢
        obtain ⟨a, ha, rfl⟩ := hi
        exact ⟨_, ⟨a, ha, rfl⟩, hev a⟩
      have := bopA_sound h hnm (ty := o.type) (cn := c.args.map fun | .const _ => true | _ => false) hX hop
      have e1 : c.args.map cev = (c.args.toList.map cev).toArray := by apply Array.ext'; simp
      rw [e1]
      simpa using this
    · cases hop

end
end Go.Sym

/- Names changed for one another: an abstract value under other names; what a call sees (its arguments, and what they reach, under names of its own). -/
namespace Go.Sym
open Go

abbrev Ren := BId → Option (BId × Nat)

mutual
/-- the first one under names of its own; x: all is kept -/
def RN (x : Bool) (σ : Ren) : AV → AV → Prop
  | .top, v => x = true → v = .top
  | .bool b, v => v = .bool b
  | .int k n, v => v = .int k n
  | .str s, v => v = .str s
  | .nilptr, v => v = .nilptr
  | .ptr b off, v => ∃ b' s, σ b = some (b', s) ∧ v = .ptr b' (s + off)
  | .nilsl, v => v = .nilsl
  | .sl b off n z f, v => ∃ b' s f', σ b = some (b', s) ∧ v = .sl b' (s + off) n z f' ∧ (f = true → f' = true) ∧ (x = true → f' = f)
  | .nilfunc, v => v = .nilfunc
  | .yl l, v => v = .yl l
  | .func k a b, v => ∃ a' b', v = .func k a' b' ∧ RNs x σ a a' ∧ RNs x σ b b'
  | .agg l, v => ∃ l', v = .agg l' ∧ RNs x σ l l'
  | .tuple l, v => ∃ l', v = .tuple l' ∧ RNs x σ l l'
def RNs (x : Bool) (σ : Ren) : List AV → List AV → Prop
  | [], l => l = []
  | a :: as, l => ∃ c cs, l = c :: cs ∧ RN x σ a c ∧ RNs x σ as cs
end

def Ren.le (σ τ : Ren) : Prop := ∀ b p, σ b = some p → τ b = some p

mutual
theorem RN.ext {x : Bool} {σ τ : Ren} (h : σ.le τ) : ∀ (a v : AV), RN x σ a v → RN x τ a v
  | .top, v, hv => by simpa [RN] using hv
  | .bool b, v, hv => by simpa [RN] using hv
  | .int k n, v, hv => by simpa [RN] using hv
  | .str s, v, hv => by simpa [RN] using hv
  | .nilptr, v, hv => by simpa [RN] using hv
  | .nilsl, v, hv => by simpa [RN] using hv
  | .nilfunc, v, hv => by simpa [RN] using hv
  | .yl l, v, hv => by simpa [RN] using hv
  | .ptr b off, v, hv => by
    simp only [RN] at hv ⊢
    obtain ⟨b', s, h1, h2⟩ := hv
    exact ⟨b', s, h _ _ h1, h2⟩
  | .sl b off n z f, v, hv => by
    simp only [RN] at hv ⊢
    obtain ⟨b', s, f', h1, h2⟩ := hv
    exact ⟨b', s, f', h _ _ h1, h2⟩
  | .func k a b, v, hv => by
    simp only [RN] at hv ⊢
    obtain ⟨a', b', e, h1, h2⟩ := hv
    exact ⟨a', b', e, RNs.ext h a a' h1, RNs.ext h b b' h2⟩
  | .agg l, v, hv => by
    simp only [RN] at hv ⊢
    obtain ⟨l', e, h1⟩ := hv
    exact ⟨l', e, RNs.ext h l l' h1⟩
  | .tuple l, v, hv => by
    simp only [RN] at hv ⊢
    obtain ⟨l', e, h1⟩ := hv
    exact ⟨l', e, RNs.ext h l l' h1⟩
theorem RNs.ext {x : Bool} {σ τ : Ren} (h : σ.le τ) : ∀ (l v : List AV), RNs x σ l v → RNs x τ l v
  | [], v, hv => by simpa [RNs] using hv
  | a :: as, v, hv => by
    simp only [RNs] at hv ⊢
    obtain ⟨c, cs, e, h1, h2⟩ := hv
    exact ⟨c, cs, e, RN.ext h a c h1, RNs.ext h as cs h2⟩
end

/-- where a block under its own name lies -/
def comp (ρ : Rho) (σ : Ren) : Rho := fun b => (σ b).bind fun p => (ρ p.1).map fun cb => { cb with sh := cb.sh + p.2 }

mutual
theorem VR.rn {x : Bool} {σ : Ren} {ρ : Rho} : ∀ (a v : AV) (c : Value), RN x σ a v → VR ρ v c → VR (comp ρ σ) a c
  | .top, v, c, _, _ => by simp [VR]
  | .bool b, v, c, h, hv => by simp only [RN] at h; subst h; simpa [VR] using hv
  | .int k n, v, c, h, hv => by simp only [RN] at h; subst h; simpa [VR] using hv
  | .str s, v, c, h, hv => by simp only [RN] at h; subst h; simpa [VR] using hv
  | .nilptr, v, c, h, hv => by simp only [RN] at h; subst h; simpa [VR] using hv
  | .nilsl, v, c, h, hv => by simp only [RN] at h; subst h; simpa [VR] using hv
  | .nilfunc, v, c, h, hv => by simp only [RN] at h; subst h; simpa [VR] using hv
  | .yl l, v, c, h, hv => by simp only [RN] at h; subst h; simpa [VR] using hv
  | .ptr b off, v, c, h, hv => by
    simp only [RN] at h
    obtain ⟨b', s, h1, rfl⟩ := h
    simp only [VR] at hv ⊢
    obtain ⟨cb, h2, rfl⟩ := hv
    exact ⟨{ cb with sh := cb.sh + s }, by simp [comp, h1, h2], by simp [Nat.add_assoc]⟩
  | .sl b off n z f, v, c, h, hv => by
    simp only [RN] at h
    obtain ⟨b', s, f', h1, rfl, h3, _⟩ := h
    simp only [VR] at hv ⊢
    rcases hv with ⟨cb, y, cap, h2, rfl, h4, h5, h6, h7⟩ | hv
    case inr => exact .inr hv
    exact .inl ⟨{ cb with sh := cb.sh + s }, y, cap, by simp [comp, h1, h2], rfl, fun hn => by rw [h4 hn]; simp [Nat.add_assoc], h5, fun hf => h6 (h3 hf), h7⟩
  | .func k a b, v, c, h, hv => by
    simp only [RN] at h
    obtain ⟨a', b', rfl, h1, h2⟩ := h
    simp only [VR] at hv ⊢
    obtain ⟨p, q, e, h3, h4⟩ := hv
    exact ⟨p, q, e, VRs.rn a a' p h1 h3, VRs.rn b b' q h2 h4⟩
  | .agg l, v, c, h, hv => by
    simp only [RN] at h
    obtain ⟨l', rfl, h1⟩ := h
    simp only [VR] at hv ⊢
    obtain ⟨p, e, h3⟩ := hv
    exact ⟨p, e, VRs.rn l l' p h1 h3⟩
  | .tuple l, v, c, h, hv => by
    simp only [RN] at h
    obtain ⟨l', rfl, h1⟩ := h
    simp only [VR] at hv ⊢
    obtain ⟨p, e, h3⟩ := hv
    exact ⟨p, e, VRs.rn l l' p h1 h3⟩
theorem VRs.rn {x : Bool} {σ : Ren} {ρ : Rho} : ∀ (l v : List AV) (c : List Value), RNs x σ l v → VRs ρ v c → VRs (comp ρ σ) l c
  | [], v, c, h, hv => by simp only [RNs] at h; subst h; simpa [VRs] using hv
  | a :: as, v, c, h, hv => by
    simp only [RNs] at h
    obtain ⟨d, ds, rfl, h1, h2⟩ := h
    simp only [VRs] at hv ⊢
    obtain ⟨e, es, rfl, h3, h4⟩ := hv
    exact ⟨e, es, rfl, VR.rn a d e h1 h3, VRs.rn as ds es h2 h4⟩
end

/-- a value under its own names, told under the old ones -/
def Back (ρ0 ρ' : Rho) (b b' : BId) (s : Nat) : Prop := ∀ c, ρ0 b = some c → ∃ c', ρ' b' = some c' ∧ c'.blk = c.blk ∧ c'.sh + s = c.sh ∧ c'.sz = c.sz

mutual
theorem VR.nr {σ : Ren} {ρ0 ρ' : Rho} (hb : ∀ b b' s, σ b = some (b', s) → Back ρ0 ρ' b b' s) : ∀ (a v : AV) (c : Value), RN true σ a v → VR ρ0 a c → VR ρ' v c
  | .top, v, c, h, _ => by simp [RN] at h; rw [h]; simp [VR]
  | .bool b, v, c, h, hv => by simp only [RN] at h; subst h; simpa [VR] using hv
  | .int k n, v, c, h, hv => by simp only [RN] at h; subst h; simpa [VR] using hv
  | .str s, v, c, h, hv => by simp only [RN] at h; subst h; simpa [VR] using hv
  | .nilptr, v, c, h, hv => by simp only [RN] at h; subst h; simpa [VR] using hv
  | .nilsl, v, c, h, hv => by simp only [RN] at h; subst h; simpa [VR] using hv
  | .nilfunc, v, c, h, hv => by simp only [RN] at h; subst h; simpa [VR] using hv
  | .yl l, v, c, h, hv => by simp only [RN] at h; subst h; simpa [VR] using hv
  | .ptr b off, v, c, h, hv => by
    simp only [RN] at h
    obtain ⟨b', s, h1, rfl⟩ := h
    simp only [VR] at hv ⊢
    obtain ⟨cb, h2, rfl⟩ := hv
    obtain ⟨c', h3, h4, h5, h6⟩ := hb _ _ _ h1 cb h2
    exact ⟨c', h3, by rw [h4, ← h5, Nat.add_assoc]⟩
  | .sl b off n z f, v, c, h, hv => by
    simp only [RN] at h
    obtain ⟨b', s, f', h1, rfl, _, hf⟩ := h
    have hf := hf trivial
    subst hf
    simp only [VR] at hv ⊢
    rcases hv with ⟨cb, y, cap, h2, rfl, k4, k5, k6, k7⟩ | hv
    case inr => exact .inr hv
    obtain ⟨c', h3, h4, h5, h6⟩ := hb _ _ _ h1 cb h2
    exact .inl ⟨c', y, cap, h3, by rw [h4], fun hn => by rw [k4 hn, ← h5, Nat.add_assoc], k5, k6, by rw [h6]; exact k7⟩
  | .func k a b, v, c, h, hv => by
    simp only [RN] at h
    obtain ⟨a', b', rfl, h1, h2⟩ := h
    simp only [VR] at hv ⊢
    obtain ⟨p, q, e, h3, h4⟩ := hv
    exact ⟨p, q, e, VRs.nr hb a a' p h1 h3, VRs.nr hb b b' q h2 h4⟩
  | .agg l, v, c, h, hv => by
    simp only [RN] at h
    obtain ⟨l', rfl, h1⟩ := h
    simp only [VR] at hv ⊢
    obtain ⟨p, e, h3⟩ := hv
    exact ⟨p, e, VRs.nr hb l l' p h1 h3⟩
  | .tuple l, v, c, h, hv => by
    simp only [RN] at h
    obtain ⟨l', rfl, h1⟩ := h
    simp only [VR] at hv ⊢
    obtain ⟨p, e, h3⟩ := hv
    exact ⟨p, e, VRs.nr hb l l' p h1 h3⟩
theorem VRs.nr {σ : Ren} {ρ0 ρ' : Rho} (hb : ∀ b b' s, σ b = some (b', s) → Back ρ0 ρ' b b' s) : ∀ (l v : List AV) (c : List Value), RNs true σ l v → VRs ρ0 l c → VRs ρ' v c
  | [], v, c, h, hv => by simp only [RNs] at h; subst h; simpa [VRs] using hv
  | a :: as, v, c, h, hv => by
    simp only [RNs] at h
    obtain ⟨d, ds, rfl, h1, h2⟩ := h
    simp only [VRs] at hv ⊢
    obtain ⟨e, es, rfl, h3, h4⟩ := hv
    exact ⟨e, es, rfl, VR.nr hb a d e h1 h3, VRs.nr hb as ds es h2 h4⟩
end

/-- a heap written out: rows that are read, rows of one's own (none: over) -/
structure H where
  ro : List (List AV) := []
  ow : List (Option (List AV)) := []

def H.get (h : H) : Gh
  | .r n => h.ro[n]?
  | .o n => (h.ow[n]?).getD none

/-- what a call gives: its value, cells of its own rows written, rows over, new rows -/
structure Res where
  val : AV
  wr : List (Nat × Nat × List AV) := []
  kill : List Nat := []
  newo : List (List AV) := []
  newr : List (List AV) := []

def num {α : Type} : Nat → List α → List (Nat × α)
  | _, [] => []
  | n, a :: l => (n, a) :: num (n + 1) l

def Res.eff (r : Res) (h : H) : Eff := { wr := r.wr, kill := r.kill, newo := num h.ow.length r.newo, newr := num h.ro.length r.newr }

abbrev Oracle := FuncId → List AV → H → Option Res

/-- what a call sees: which rows it reads, which are its own -/
structure CS where
  rs : List (BId × Nat) := []
  rc : List (List AV) := []
  os : List Nat := []
  oc : List (List AV) := []

def AV.flat : AV → Bool
  | .ptr .. | .sl .. | .func .. | .agg _ | .tuple _ => false
  | _ => true

def idx (m : Nat) : List Nat → Option Nat
  | [] => none
  | a :: l => if a = m then some 0 else (idx m l).map (· + 1)

def window (l : List AV) (off n : Nat) : List AV := if off = 0 ∧ n = l.length then l else (l.drop off).take n

theorem window_eq (l : List AV) (off n : Nat) : window l off n = (l.drop off).take n := by
  unfold window; split
  · rename_i h; rw [h.1, h.2]; simp
  · rfl

def canVs (cv : CS → AV → Option (AV × CS)) : CS → List AV → Option (List AV × CS)
  | S, [] => some ([], S)
  | S, v :: vs =>
    match cv S v with
    | none => none
    | some (v', S1) =>
      match canVs cv S1 vs with
      | none => none
      | some (vs', S2) => some (v' :: vs', S2)

def canL (cv : CS → AV → Option (AV × CS)) (S : CS) (l : List AV) : Option (List AV × CS) := if l.all AV.flat then some (l, S) else canVs cv S l

/-- a row of one's own, under its name in the call -/
def canO (cl : CS → List AV → Option (List AV × CS)) (g : Gh) (S : CS) (m : Nat) : Option (Nat × CS) :=
  match idx m S.os with
  | some j => some (j, S)
  | none =>
    match g (.o m) with
    | none => none
    | some l =>
      match cl { S with os := S.os ++ [m], oc := S.oc ++ [[]] } l with
      | none => none
      | some (l', S2) => some (S.os.length, { S2 with oc := S2.oc.set S.os.length l' })

def ownIf (c : Bool) : BId → Option Nat
  | .o m => if c then some m else none
  | .r _ => none

theorem ownIf_some {c : Bool} {b : BId} {m : Nat} (h : ownIf c b = some m) : b = .o m := by
  cases b with
  | r n => simp [ownIf] at h
  | o n => simp [ownIf] at h; rw [h.2]

def canV : Nat → Gh → Bool → CS → AV → Option (AV × CS)
  | 0, _, _, _, _ => none
  | f + 1, g, deep, S, v =>
    match v with
    | .ptr (.o m) off => (canO (canL (canV f g true)) g S m).map fun p => (.ptr (.o p.1) off, p.2)
    | .ptr (.r m) off =>
      match g (.r m) with
      | none => none
      | some l => (canL (canV f g false) S l).map fun p => (.ptr (.r p.2.rs.length) off, { p.2 with rs := p.2.rs ++ [(.r m, 0)], rc := p.2.rc ++ [p.1] })
    | .sl b off n z full =>
      match ownIf (deep && !full) b with
      | some m => (canO (canL (canV f g true)) g S m).map fun p => (.sl (.o p.1) off n z full, p.2)
      | none =>
        match g b with
        | none => none
        | some l =>
          if off + n * z ≤ l.length then
            (canL (canV f g false) S (window l off (n * z))).map fun p => (.sl (.r p.2.rs.length) 0 n z full, { p.2 with rs := p.2.rs ++ [(b, off)], rc := p.2.rc ++ [p.1] })
          else none
    | .func k a b =>
      match canL (canV f g deep) S a with
      | none => none
      | some (a', S1) => (canL (canV f g deep) S1 b).map fun p => (.func k a' p.1, p.2)
    | .agg l => (canL (canV f g deep) S l).map fun p => (.agg p.1, p.2)
    | .tuple l => (canL (canV f g deep) S l).map fun p => (.tuple p.1, p.2)
    | v => some (v, S)

def CS.ren (S : CS) : Ren
  | .r j => S.rs[j]?
  | .o j => (S.os[j]?).map fun m => (.o m, 0)

def CS.le (S S' : CS) : Prop := (∃ x, S'.rs = S.rs ++ x) ∧ (∃ x, S'.os = S.os ++ x) ∧ (∃ x, S'.rc = S.rc ++ x)

theorem CS.le_refl (S : CS) : S.le S := ⟨⟨[], by simp⟩, ⟨[], by simp⟩, ⟨[], by simp⟩⟩
theorem CS.le_trans {S S' S'' : CS} (h : S.le S') (k : S'.le S'') : S.le S'' := by
  obtain ⟨⟨x, hx⟩, ⟨y, hy⟩, ⟨z, hz⟩⟩ := h
  obtain ⟨⟨x', hx'⟩, ⟨y', hy'⟩, ⟨z', hz'⟩⟩ := k
  exact ⟨⟨x ++ x', by rw [hx', hx, List.append_assoc]⟩, ⟨y ++ y', by rw [hy', hy, List.append_assoc]⟩, ⟨z ++ z', by rw [hz', hz, List.append_assoc]⟩⟩

theorem getElem?_app {α : Type} {l x : List α} {i : Nat} {a : α} (h : l[i]? = some a) : (l ++ x)[i]? = some a := by
  rw [List.getElem?_append_left (List.getElem?_eq_some_iff.mp h).1]; exact h

theorem CS.le_ren {S S' : CS} (h : S.le S') : S.ren.le S'.ren := by
  obtain ⟨⟨x, hx⟩, ⟨y, hy⟩, _⟩ := h
  intro b p hp
  cases b with
  | r j => simp only [CS.ren] at hp ⊢; rw [hx]; exact getElem?_app hp
  | o j =>
    simp only [CS.ren, Option.map_eq_some_iff] at hp ⊢
    obtain ⟨m, hm, rfl⟩ := hp
    exact ⟨m, by rw [hy]; exact getElem?_app hm, rfl⟩

structure CSOK (g : Gh) (S : CS) : Prop where
  rlen : S.rs.length = S.rc.length
  olen : S.os.length = S.oc.length
  rok : ∀ (j : Nat) (b : BId) (s : Nat) (c : List AV), S.rs[j]? = some (b, s) → S.rc[j]? = some c → ∃ l, g b = some l ∧ s + c.length ≤ l.length ∧ ∀ (i : Nat) v', c[i]? = some v' → ∃ v, l[s + i]? = some v ∧ RN true S.ren v' v
  ook : ∀ (j m : Nat) (c : List AV), S.os[j]? = some m → S.oc[j]? = some c → ∃ l, g (.o m) = some l ∧ c.length ≤ l.length ∧ ∀ (i : Nat) v', c[i]? = some v' → ∃ v, l[i]? = some v ∧ RN true S.ren v' v
  nodup : S.os.Nodup

theorem idx_some : ∀ {l : List Nat} {m j : Nat}, idx m l = some j → l[j]? = some m
  | [], m, j, h => by simp [idx] at h
  | a :: l, m, j, h => by
    simp only [idx] at h
    split at h
    · rename_i e; cases h; simp [e]
    · simp only [Option.map_eq_some_iff] at h
      obtain ⟨i, hi, rfl⟩ := h
      simpa using idx_some hi

theorem idx_none : ∀ {l : List Nat} {m : Nat}, idx m l = none → m ∉ l
  | [], m, _ => by simp
  | a :: l, m, h => by
    simp only [idx] at h
    split at h
    · cases h
    · rename_i e
      simp only [Option.map_eq_none_iff] at h
      simp only [List.mem_cons, not_or]
      exact ⟨fun e' => e e'.symm, idx_none h⟩

theorem RN.flat {σ : Ren} {x : Bool} : ∀ {a : AV}, a.flat = true → RN x σ a a := by
  intro a h
  cases a <;> simp [AV.flat] at h <;> simp [RN]

theorem RNs.of_get {x : Bool} {σ : Ren} : ∀ {l l' : List AV}, l'.length = l.length → (∀ (i : Nat) (v : AV), l[i]? = some v → ∃ cv, l'[i]? = some cv ∧ RN x σ v cv) → RNs x σ l l'
  | [], l', hl, _ => by simp only [RNs]; simpa using hl
  | a :: as, [], hl, _ => by simp at hl
  | a :: as, c :: cs, hl, h => by
    simp only [RNs]
    refine ⟨c, cs, rfl, ?_, RNs.of_get (by simpa using hl) fun i v hi => by simpa using h (i + 1) v (by simpa using hi)⟩
    obtain ⟨cv, hcv, hv⟩ := h 0 a rfl
    simp at hcv; subst hcv; exact hv

theorem RNs.length {x : Bool} {σ : Ren} : ∀ {l l' : List AV}, RNs x σ l l' → l'.length = l.length
  | [], l', h => by simp only [RNs] at h; simp [h]
  | a :: as, l', h => by
    simp only [RNs] at h
    obtain ⟨c, cs, rfl, _, h2⟩ := h
    simp [RNs.length h2]

theorem RNs.get {x : Bool} {σ : Ren} : ∀ {l l' : List AV} (_ : RNs x σ l l') (i : Nat) (v : AV), l[i]? = some v → ∃ cv, l'[i]? = some cv ∧ RN x σ v cv
  | [], l', h, i, v, hi => by simp at hi
  | a :: as, l', h, i, v, hi => by
    simp only [RNs] at h
    obtain ⟨c, cs, rfl, h1, h2⟩ := h
    cases i with
    | zero => simp at hi; subst hi; exact ⟨c, rfl, h1⟩
    | succ i => simp at hi; simpa using RNs.get h2 i v hi

theorem RNs.flat {x : Bool} {σ : Ren} {l : List AV} (h : l.all AV.flat = true) : RNs x σ l l := by
  refine RNs.of_get rfl fun i v hi => ⟨v, hi, RN.flat ?_⟩
  exact List.all_eq_true.mp h v (List.mem_of_getElem? hi)

/-- how a step of the canonical walk is right -/
def CanOK (g : Gh) (S S' : CS) : Prop := CSOK g S → CSOK g S' ∧ S.le S'

theorem canVs_ok {g : Gh} {cv : CS → AV → Option (AV × CS)} (hcv : ∀ S v v' S', cv S v = some (v', S') → CSOK g S → CSOK g S' ∧ S.le S' ∧ RN true S'.ren v' v) :
    ∀ (l : List AV) (S S' : CS) (l' : List AV), canVs cv S l = some (l', S') → CSOK g S → CSOK g S' ∧ S.le S' ∧ RNs true S'.ren l' l
  | [], S, S', l', h, hS => by
    simp only [canVs, Option.some.injEq, Prod.mk.injEq] at h
    obtain ⟨rfl, rfl⟩ := h
    exact ⟨hS, CS.le_refl _, by simp [RNs]⟩
  | v :: l, S, S', l', h, hS => by
    simp only [canVs] at h
    split at h
    · cases h
    · rename_i v' S1 h1
      split at h
      · cases h
      · rename_i vs' S2 h2
        cases h
        obtain ⟨k1, k2, k3⟩ := hcv _ _ _ _ h1 hS
        obtain ⟨k4, k5, k6⟩ := canVs_ok hcv l S1 S' vs' h2 k1
        exact ⟨k4, CS.le_trans k2 k5, by simp only [RNs]; exact ⟨v, l, rfl, RN.ext (CS.le_ren k5) _ _ k3, k6⟩⟩

theorem canL_ok {g : Gh} {cv : CS → AV → Option (AV × CS)} (hcv : ∀ S v v' S', cv S v = some (v', S') → CSOK g S → CSOK g S' ∧ S.le S' ∧ RN true S'.ren v' v)
    {l : List AV} {S S' : CS} {l' : List AV} (h : canL cv S l = some (l', S')) (hS : CSOK g S) : CSOK g S' ∧ S.le S' ∧ RNs true S'.ren l' l := by
  unfold canL at h
  split at h
  · rename_i hf
    cases h
    exact ⟨hS, CS.le_refl _, RNs.flat hf⟩
  · exact canVs_ok hcv l S S' l' h hS

theorem CSOK.read {g : Gh} {S : CS} (h : CSOK g S) {b : BId} {s : Nat} {c l : List AV} (hb : g b = some l) (hl : s + c.length ≤ l.length) (hc : ∀ (i : Nat) v', c[i]? = some v' → ∃ v, l[s + i]? = some v ∧ RN true S.ren v' v) :
    CSOK g { S with rs := S.rs ++ [(b, s)], rc := S.rc ++ [c] } ∧ S.le { S with rs := S.rs ++ [(b, s)], rc := S.rc ++ [c] } := by
  have hle : S.le { S with rs := S.rs ++ [(b, s)], rc := S.rc ++ [c] } := ⟨⟨_, rfl⟩, ⟨[], by simp⟩, ⟨_, rfl⟩⟩
  refine ⟨⟨by simp [h.rlen], h.olen, fun j b' s' c' h1 h2 => ?_, fun j m c' h1 h2 => ?_, h.nodup⟩, hle⟩
  · simp only at h1 h2
    by_cases hj : j < S.rs.length
    · rw [List.getElem?_append_left hj] at h1
      rw [List.getElem?_append_left (by rw [← h.rlen]; exact hj)] at h2
      obtain ⟨l', k1, k0, k2⟩ := h.rok j b' s' c' h1 h2
      exact ⟨l', k1, k0, fun i v' hi => by
        obtain ⟨v, k3, k4⟩ := k2 i v' hi
        exact ⟨v, k3, RN.ext (CS.le_ren hle) _ _ k4⟩⟩
    · rw [List.getElem?_append_right (by omega)] at h1
      rw [List.getElem?_append_right (by rw [← h.rlen]; omega), ← h.rlen] at h2
      by_cases e : j - S.rs.length = 0
      · rw [e] at h1 h2
        simp only [List.getElem?_cons_zero, Option.some.injEq, Prod.mk.injEq] at h1 h2
        obtain ⟨rfl, rfl⟩ := h1
        subst h2
        exact ⟨l, hb, hl, fun i v' hi => by
          obtain ⟨v, k3, k4⟩ := hc i v' hi
          exact ⟨v, k3, RN.ext (CS.le_ren hle) _ _ k4⟩⟩
      · rw [List.getElem?_eq_none (by simp; omega)] at h1
        cases h1
  · obtain ⟨l', k1, k0, k2⟩ := h.ook j m c' h1 h2
    exact ⟨l', k1, k0, fun i v' hi => by
      obtain ⟨v, k3, k4⟩ := k2 i v' hi
      exact ⟨v, k3, RN.ext (CS.le_ren hle) _ _ k4⟩⟩

theorem canO_ok {g : Gh} {cl : CS → List AV → Option (List AV × CS)} (hcl : ∀ S l l' S', cl S l = some (l', S') → CSOK g S → CSOK g S' ∧ S.le S' ∧ RNs true S'.ren l' l)
    {S S' : CS} {m j : Nat} (h : canO cl g S m = some (j, S')) (hS : CSOK g S) : CSOK g S' ∧ S.le S' ∧ S'.ren (.o j) = some (.o m, 0) := by
  unfold canO at h
  split at h
  · rename_i j' hj
    cases h
    exact ⟨hS, CS.le_refl _, by simp [CS.ren, idx_some hj]⟩
  · rename_i hj
    split at h
    · cases h
    · rename_i l hl
      split at h
      · cases h
      · rename_i l' S2 h2
        cases h
        have hle1 : S.le { S with os := S.os ++ [m], oc := S.oc ++ [[]] } := ⟨⟨[], by simp⟩, ⟨_, rfl⟩, ⟨[], by simp⟩⟩
        have hS1 : CSOK g { S with os := S.os ++ [m], oc := S.oc ++ [[]] } := by
          refine ⟨hS.rlen, by simp [hS.olen], fun j b s c h1 h2 => ?_, fun j m' c h1 h2 => ?_, ?_⟩
          · obtain ⟨l', k1, k0, k2⟩ := hS.rok j b s c h1 h2
            exact ⟨l', k1, k0, fun i v' hi => by
              obtain ⟨v, k3, k4⟩ := k2 i v' hi
              exact ⟨v, k3, RN.ext (CS.le_ren hle1) _ _ k4⟩⟩
          · simp only at h1 h2
            by_cases hj : j < S.os.length
            · rw [List.getElem?_append_left hj] at h1
              rw [List.getElem?_append_left (by rw [← hS.olen]; exact hj)] at h2
              obtain ⟨l', k1, k0, k2⟩ := hS.ook j m' c h1 h2
              exact ⟨l', k1, k0, fun i v' hi => by
                obtain ⟨v, k3, k4⟩ := k2 i v' hi
                exact ⟨v, k3, RN.ext (CS.le_ren hle1) _ _ k4⟩⟩
            · rw [List.getElem?_append_right (by omega)] at h1
              rw [List.getElem?_append_right (by rw [← hS.olen]; omega), ← hS.olen] at h2
              by_cases e : j - S.os.length = 0
              · rw [e] at h1 h2
                simp only [List.getElem?_cons_zero, Option.some.injEq] at h1 h2
                subst h1; subst h2
                exact ⟨l, hl, by simp, fun i v' hi => by simp at hi⟩
              · rw [List.getElem?_eq_none (by simp; omega)] at h1
                cases h1
          · rw [List.nodup_append]
            refine ⟨hS.nodup, by simp, fun a ha b hb e => ?_⟩
            simp only [List.mem_singleton] at hb
            subst hb; subst e
            exact idx_none hj ha
        obtain ⟨k1, k2, k3⟩ := hcl _ _ _ _ h2 hS1
        have hren : ({ S2 with oc := S2.oc.set S.os.length l' } : CS).ren = S2.ren := by
          funext b; cases b <;> rfl
        have hosj : S2.os[S.os.length]? = some m := by
          obtain ⟨_, ⟨x, hx⟩, _⟩ := k2
          rw [hx]
          exact getElem?_app (by simp)
        refine ⟨⟨k1.rlen, by simpa using k1.olen, fun j b s c h1 h2' => ?_, fun j m' c h1 h2' => ?_, k1.nodup⟩, CS.le_trans hle1 k2, by rw [hren]; simp [CS.ren, hosj]⟩
        · rw [hren]; exact k1.rok j b s c h1 h2'
        · rw [hren]
          simp only at h1 h2'
          rw [List.getElem?_set] at h2'
          split at h2'
          · rename_i e
            split at h2'
            · cases h2'
              subst e
              rw [hosj] at h1
              cases h1
              exact ⟨l, hl, by rw [k3.length]; exact Nat.le_refl _, fun i v' hi => k3.get i v' hi⟩
            · cases h2'
          · exact k1.ook j m' c h1 h2'

theorem canV_ok {g : Gh} : ∀ (f : Nat) (deep : Bool) (S : CS) (v v' : AV) (S' : CS), canV f g deep S v = some (v', S') → CSOK g S → CSOK g S' ∧ S.le S' ∧ RN true S'.ren v' v
  | 0, deep, S, v, v', S', h, _ => by simp [canV] at h
  | f + 1, deep, S, v, v', S', h, hS => by
    have ihL : ∀ (deep : Bool) (S : CS) (l l' : List AV) (S' : CS), canL (canV f g deep) S l = some (l', S') → CSOK g S → CSOK g S' ∧ S.le S' ∧ RNs true S'.ren l' l :=
      fun deep S l l' S' h hS => canL_ok (fun S v v' S' => canV_ok f deep S v v' S') h hS
    have done : ∀ u : AV, u.flat = true → some (u, S) = some (v', S') → CSOK g S' ∧ S.le S' ∧ RN true S'.ren v' u := fun u hu e => by
      cases e; exact ⟨hS, CS.le_refl _, RN.flat hu⟩
    cases v with
    | top => exact done _ rfl h
    | bool b => exact done _ rfl h
    | int k n => exact done _ rfl h
    | str s => exact done _ rfl h
    | nilptr => exact done _ rfl h
    | nilsl => exact done _ rfl h
    | nilfunc => exact done _ rfl h
    | yl l => exact done _ rfl h
    | ptr b off =>
      cases b with
      | o m =>
        simp only [canV, Option.map_eq_some_iff, Prod.mk.injEq] at h
        obtain ⟨⟨j, S2⟩, h1, rfl, rfl⟩ := h
        obtain ⟨k1, k2, k3⟩ := canO_ok (fun S l l' S' => ihL true S l l' S') h1 hS
        exact ⟨k1, k2, by simp only [RN]; exact ⟨_, _, k3, by simp⟩⟩
      | r m =>
        simp only [canV] at h
        split at h
        · cases h
        · rename_i l hl
          simp only [Option.map_eq_some_iff, Prod.mk.injEq] at h
          obtain ⟨⟨l', S2⟩, h1, rfl, rfl⟩ := h
          obtain ⟨k1, k2, k3⟩ := ihL false _ _ _ _ h1 hS
          obtain ⟨k4, k5⟩ := k1.read (b := .r m) (s := 0) (c := l') hl (by rw [← k3.length]; omega) (fun i v' hi => by rw [Nat.zero_add]; exact k3.get i v' hi)
          exact ⟨k4, CS.le_trans k2 k5, by simp only [RN, CS.ren]; exact ⟨.r m, 0, by simp, by simp⟩⟩
    | sl b off n z full =>
      simp only [canV] at h
      split at h
      · rename_i m hm
        have hb := ownIf_some hm
        subst hb
        simp only [Option.map_eq_some_iff, Prod.mk.injEq] at h
        obtain ⟨⟨j, S2⟩, h1, rfl, rfl⟩ := h
        obtain ⟨k1, k2, k3⟩ := canO_ok (fun S l l' S' => ihL true S l l' S') h1 hS
        exact ⟨k1, k2, by simp only [RN]; exact ⟨_, _, full, k3, by simp, id, fun _ => rfl⟩⟩
      · split at h
        · cases h
        · rename_i l hl
          split at h
          · rename_i hoff
            simp only [Option.map_eq_some_iff, Prod.mk.injEq] at h
            obtain ⟨⟨l', S2⟩, h1, rfl, rfl⟩ := h
            obtain ⟨k1, k2, k3⟩ := ihL false _ _ _ _ h1 hS
            rw [window_eq] at k3
            have hlen := k3.length
            have hlen' : ((l.drop off).take (n * z)).length = n * z := by simp; omega
            obtain ⟨k4, k5⟩ := k1.read (b := b) (s := off) (c := l') hl (by omega) (fun i v' hi => by
              obtain ⟨v, k6, k7⟩ := k3.get i v' hi
              rw [List.getElem?_take] at k6
              split at k6
              · rw [List.getElem?_drop] at k6; exact ⟨v, k6, k7⟩
              · cases k6)
            exact ⟨k4, CS.le_trans k2 k5, by simp only [RN, CS.ren]; exact ⟨b, off, full, by simp, by simp, id, fun _ => rfl⟩⟩
          · cases h
    | func k a b =>
      simp only [canV] at h
      split at h
      · cases h
      · rename_i a' S1 h1
        simp only [Option.map_eq_some_iff, Prod.mk.injEq] at h
        obtain ⟨⟨b', S2⟩, h2, rfl, rfl⟩ := h
        obtain ⟨k1, k2, k3⟩ := ihL deep _ _ _ _ h1 hS
        obtain ⟨k4, k5, k6⟩ := ihL deep _ _ _ _ h2 k1
        exact ⟨k4, CS.le_trans k2 k5, by simp only [RN]; exact ⟨a, b, rfl, RNs.ext (CS.le_ren k5) _ _ k3, k6⟩⟩
    | agg l =>
      simp only [canV, Option.map_eq_some_iff, Prod.mk.injEq] at h
      obtain ⟨⟨l', S2⟩, h1, rfl, rfl⟩ := h
      obtain ⟨k1, k2, k3⟩ := ihL deep _ _ _ _ h1 hS
      exact ⟨k1, k2, by simp only [RN]; exact ⟨l, rfl, k3⟩⟩
    | tuple l =>
      simp only [canV, Option.map_eq_some_iff, Prod.mk.injEq] at h
      obtain ⟨⟨l', S2⟩, h1, rfl, rfl⟩ := h
      obtain ⟨k1, k2, k3⟩ := ihL deep _ _ _ _ h1 hS
      exact ⟨k1, k2, by simp only [RN]; exact ⟨l, rfl, k3⟩⟩

end Go.Sym

/- A call by its contract: what is proved of a call that sees its arguments under names of its own holds of it wherever it stands. -/
namespace Go.Sym
open Go

mutual
def reV (τ : BId → BId × Nat) : AV → AV
  | .ptr b off => .ptr (τ b).1 ((τ b).2 + off)
  | .sl b off n z f => .sl (τ b).1 ((τ b).2 + off) n z f
  | .func k a b => .func k (if a.all AV.flat then a else reVs τ a) (if b.all AV.flat then b else reVs τ b)
  | .agg l => .agg (if l.all AV.flat then l else reVs τ l)
  | .tuple l => .tuple (if l.all AV.flat then l else reVs τ l)
  | .top => .top
  | .bool b => .bool b
  | .int k n => .int k n
  | .str s => .str s
  | .nilptr => .nilptr
  | .nilsl => .nilsl
  | .nilfunc => .nilfunc
  | .yl l => .yl l
def reVs (τ : BId → BId × Nat) : List AV → List AV
  | [] => []
  | a :: l => reV τ a :: reVs τ l
end

def reL (τ : BId → BId × Nat) (l : List AV) : List AV := if l.all AV.flat then l else reVs τ l

mutual
theorem RN.re (τ : BId → BId × Nat) : ∀ v : AV, RN true (fun b => some (τ b)) v (reV τ v)
  | .top => by simp [RN, reV]
  | .bool b => by simp [RN, reV]
  | .int k n => by simp [RN, reV]
  | .str s => by simp [RN, reV]
  | .nilptr => by simp [RN, reV]
  | .nilsl => by simp [RN, reV]
  | .nilfunc => by simp [RN, reV]
  | .yl l => by simp [RN, reV]
  | .ptr b off => by simp only [RN, reV]; exact ⟨_, _, rfl, rfl⟩
  | .sl b off n z f => by simp only [RN, reV]; exact ⟨_, _, _, rfl, rfl, id, fun _ => rfl⟩
  | .func k a b => by
    simp only [RN, reV]
    refine ⟨_, _, rfl, ?_, ?_⟩
    · split
      · rename_i h; exact RNs.flat h
      · exact RNs.re τ a
    · split
      · rename_i h; exact RNs.flat h
      · exact RNs.re τ b
  | .agg l => by
    simp only [RN, reV]
    refine ⟨_, rfl, ?_⟩
    split
    · rename_i h; exact RNs.flat h
    · exact RNs.re τ l
  | .tuple l => by
    simp only [RN, reV]
    refine ⟨_, rfl, ?_⟩
    split
    · rename_i h; exact RNs.flat h
    · exact RNs.re τ l
theorem RNs.re (τ : BId → BId × Nat) : ∀ l : List AV, RNs true (fun b => some (τ b)) l (reVs τ l)
  | [] => by simp [RNs, reVs]
  | a :: l => by simp only [RNs, reVs]; exact ⟨_, _, rfl, RN.re τ a, RNs.re τ l⟩
end

theorem RNs.reL (τ : BId → BId × Nat) (l : List AV) : RNs true (fun b => some (τ b)) l (reL τ l) := by
  unfold Sym.reL; split
  · rename_i h; exact RNs.flat h
  · exact RNs.re τ l

/-- may a function be entered? -/
def callable (P : Program) (k : FuncId) : Bool :=
  match P.funcs[k]? with
  | some fn => fn.name != "runtime.NumGoroutine" && fn.body.isSome
  | none => false

def Within (ρ : Rho) (no nr : Nat) : Prop := (∀ n, no ≤ n → ρ (.o n) = none) ∧ ∀ n, nr ≤ n → ρ (.r n) = none

def PostC (ρ : Rho) (w : World) (g' : Gh) (v : AV) (no nr : Nat) : Ending → World → Prop := fun e w' =>
  ∃ cv ρ', e = .returned cv ∧ VR ρ' v cv ∧ SR ρ' g' w' ∧ Tr ρ ρ' w w' ∧ Within ρ' no nr

/-- the contract of a call: over a heap that is written out -/
def SoundC (P : Program) (k : FuncId) (args : List AV) (h : H) (r : Res) : Prop :=
  callable P k = true ∧ ∀ (ρ : Rho) (w : World) (cargs : List Value), VRs ρ args cargs → SR ρ h.get w → Within ρ h.ow.length h.ro.length →
    Calls P k cargs.toArray w (PostC ρ w ((r.eff h).app h.get) r.val (h.ow.length + r.newo.length) (h.ro.length + r.newr.length))

def SoundO (P : Program) (O : Oracle) : Prop := ∀ k args h r, O k args h = some r → SoundC P k args h r

def CS.de (S : CS) (no nr : Nat) : BId → BId × Nat
  | .r j => match S.rs[j]? with
    | some p => p
    | none => (.r (nr + (j - S.rs.length)), 0)
  | .o j => match S.os[j]? with
    | some m => (.o m, 0)
    | none => (.o (no + (j - S.os.length)), 0)

def lensOK (g : Gh) : List Nat → List (List AV) → Bool
  | m :: os, c :: oc => (match g (.o m) with | some l => l.length == c.length | none => false) && lensOK g os oc
  | [], [] => true
  | _, _ => false

def CS.ok (S : CS) (g : Gh) : Bool := S.rs.all (fun p => match p.1 with | .o m => !S.os.contains m | .r _ => true) && lensOK g S.os S.oc

def rdsR : List (BId × Nat) → List (List AV) → List (BId × Nat × Nat)
  | (b, s) :: rs, c :: rc => (b, s, c.length) :: rdsR rs rc
  | _, _ => []

def rdsO : List Nat → List (List AV) → List (BId × Nat × Nat)
  | m :: os, c :: oc => (.o m, 0, c.length) :: rdsO os oc
  | _, _ => []

def CS.eff (S : CS) (r : Res) (no nr : Nat) : Eff where
  rd := rdsR S.rs S.rc ++ rdsO S.os S.oc
  wr := r.wr.map fun x => (S.os.getD x.1 0, x.2.1, reL (S.de no nr) x.2.2)
  kill := r.kill.map fun j => S.os.getD j 0
  newo := num no (r.newo.map (reL (S.de no nr)))
  newr := num nr (r.newr.map (reL (S.de no nr)))

def callE (O : Oracle) (k : FuncId) (args : List AV) (g : Gh) (no nr : Nat) : Option (AV × Eff) :=
  match canL (canV 6 g false) {} args with
  | none => none
  | some (args', S) =>
    if S.ok g then
      match O k args' ⟨S.rc, S.oc.map some⟩ with
      | none => none
      | some r => if (r.wr.all fun x => decide (x.1 < S.os.length)) && (r.kill.all fun j => decide (j < S.os.length)) then some (reV (S.de no nr) r.val, S.eff r no nr) else none
    else none

theorem lk_num : ∀ (L : List (List AV)) (m n : Nat), lk n (num m L) = if m ≤ n then L[n - m]? else none
  | [], m, n => by simp [num, lk]
  | a :: L, m, n => by
    simp only [num, lk]
    by_cases e : m = n
    · subst e; simp
    · simp only [e, if_false, lk_num L (m + 1) n]
      by_cases h : m ≤ n
      · have h1 : m + 1 ≤ n := by omega
        have h2 : n - m = (n - (m + 1)) + 1 := by omega
        simp [h, h1, h2]
      · have h1 : ¬ (m + 1 ≤ n) := by omega
        simp [h, h1]

theorem lensOK_get {g : Gh} : ∀ {os : List Nat} {oc : List (List AV)}, lensOK g os oc = true → ∀ (j m : Nat) (c : List AV), os[j]? = some m → oc[j]? = some c → ∀ l, g (.o m) = some l → l.length = c.length
  | [], [], _, j, m, c, h1, _, _, _ => by simp at h1
  | [], _ :: _, h, _, _, _, _, _, _, _ => by simp [lensOK] at h
  | _ :: _, [], h, _, _, _, _, _, _, _ => by simp [lensOK] at h
  | m' :: os, c' :: oc, h, j, m, c, h1, h2, l, hl => by
    simp only [lensOK, Bool.and_eq_true] at h
    cases j with
    | zero =>
      simp at h1 h2
      subst h1; subst h2
      rw [hl] at h
      simpa using h.1
    | succ j =>
      simp at h1 h2
      exact lensOK_get h.2 j m c h1 h2 l hl

theorem RNs.set {x : Bool} {σ : Ren} {l l' : List AV} (h : RNs x σ l l') (n : Nat) {v v' : AV} (hv : RN x σ v v') : RNs x σ (l.set n v) (l'.set n v') := by
  refine RNs.of_get (by simp [h.length]) fun i u hi => ?_
  rw [List.getElem?_set] at hi ⊢
  by_cases hn : n = i
  · subst hn
    simp only [if_true] at hi ⊢
    split at hi
    · rename_i hlt
      rw [if_pos (by rw [h.length]; exact hlt)]
      cases hi; exact ⟨v', rfl, hv⟩
    · cases hi
  · simp only [hn, if_false] at hi ⊢
    exact h.get i u hi

theorem RNs.patch {x : Bool} {σ : Ren} : ∀ {cs cs' : List AV} (_ : RNs x σ cs cs') {l l' : List AV} (_ : RNs x σ l l') (off : Nat), RNs x σ (patch l off cs) (patch l' off cs')
  | [], cs', h, l, l', hl, off => by simp only [RNs] at h; subst h; simpa [Sym.patch] using hl
  | c :: cs, cs', h, l, l', hl, off => by
    simp only [RNs] at h
    obtain ⟨d, ds, rfl, h1, h2⟩ := h
    simp only [Sym.patch]
    exact RNs.patch h2 (hl.set off h1) (off + 1)

section
variable {P : Program} {O : Oracle} {ρ : Rho} {g : Gh} {w : World}

theorem patchAll_re {S : CS} {no nr : Nat} (hn : S.os.Nodup) {j m : Nat} (hj : S.os[j]? = some m) : ∀ (wr : List (Nat × Nat × List AV)), (wr.all fun x => decide (x.1 < S.os.length)) = true → ∀ {l l' : List AV},
    RNs true (fun b => some (S.de no nr b)) l l' → RNs true (fun b => some (S.de no nr b)) (patchAll j wr l) (patchAll m (wr.map fun x => (S.os.getD x.1 0, x.2.1, reL (S.de no nr) x.2.2)) l')
  | [], _, l, l', h => by simpa [patchAll] using h
  | (i, off, cs) :: wr, hw, l, l', h => by
    simp only [List.all_cons, Bool.and_eq_true, decide_eq_true_eq] at hw
    simp only [List.map_cons, patchAll]
    refine patchAll_re hn hj wr hw.2 ?_
    by_cases e : i = j
    · subst e
      have : S.os.getD i 0 = m := by simp [List.getD, hj]
      simp only [this, if_true]
      exact RNs.patch (RNs.reL _ cs) h off
    · have : S.os.getD i 0 ≠ m := by
        intro e'
        have h1 : S.os[i]? = some m := by
          rw [List.getElem?_eq_getElem hw.1]
          simp only [List.getD, List.getElem?_eq_getElem hw.1, Option.getD_some] at e'
          rw [e']
        obtain ⟨p1, q1⟩ := List.getElem?_eq_some_iff.mp h1
        obtain ⟨p2, q2⟩ := List.getElem?_eq_some_iff.mp hj
        exact e ((List.getElem_inj hn).mp (q1.trans q2.symm))
      simp only [e, if_false, this]
      exact h

theorem patchAll_not {m : Nat} : ∀ (wr : List (Nat × Nat × List AV)), (∀ x ∈ wr, x.1 ≠ m) → ∀ l, patchAll m wr l = l
  | [], _, l => rfl
  | (i, off, cs) :: wr, h, l => by
    simp only [patchAll]
    rw [if_neg (h (i, off, cs) (by simp))]
    exact patchAll_not wr (fun x hx => h x (by simp [hx])) l

theorem comp_some {σ : Ren} {b : BId} {c : CB} (h : comp ρ σ b = some c) : ∃ b' s c', σ b = some (b', s) ∧ ρ b' = some c' ∧ c = { c' with sh := c'.sh + s } := by
  unfold comp at h
  simp only [Option.bind_eq_some_iff, Option.map_eq_some_iff] at h
  obtain ⟨⟨b', s⟩, h1, c', h2, h3⟩ := h
  exact ⟨b', s, c', h1, h2, h3.symm⟩

theorem SR.some (h : SR ρ g w) {b : BId} {l : List AV} (hb : g b = some l) : ∃ cb, ρ b = some cb := by
  exact h.has hb

/-- what the call sees stands to the world, too -/
theorem can_SR {S : CS} (hS : CSOK g S) (hok : S.ok g = true) (h : SR ρ g w) : SR (comp ρ S.ren) (H.get ⟨S.rc, S.oc.map some⟩) w ∧ Within (comp ρ S.ren) S.os.length S.rs.length := by
  simp only [CS.ok, Bool.and_eq_true] at hok
  have hro : ∀ (j : Nat) (b : BId) (s m : Nat), S.rs[j]? = some (b, s) → m ∈ S.os → b ≠ .o m := by
    intro j b s m hj hm e
    have := List.all_eq_true.mp hok.1 (b, s) (List.mem_of_getElem? hj)
    subst e
    simp at this
    exact this hm
  refine ⟨⟨fun b l hb hz => ?_, fun n b l l' hn hb hz hne cb cb' hc hc' => ?_, fun n cb hb => ?_, fun {b l} hb => ?_⟩, fun n hn => ?_, fun n hn => ?_⟩
  · cases b with
    | r j =>
      simp only [H.get] at hb
      have hlt := (List.getElem?_eq_some_iff.mp hb).1
      rw [← hS.rlen] at hlt
      obtain ⟨l0, k1, k0, k2⟩ := hS.rok j (S.rs[j]).1 (S.rs[j]).2 l (by simp [hlt]) hb
      obtain ⟨cb, cs, ty, fz, h1, h2, h3, h4, _⟩ := h.cells _ _ k1 (fun e => by
        cases l with
        | nil => exact absurd (hz rfl) (by simp [BId.own])
        | cons v r =>
          obtain ⟨v0, k3, _⟩ := k2 0 v rfl
          rw [e] at k3; simp at k3)
      refine ⟨{ cb with sh := cb.sh + (S.rs[j]).2 }, cs, ty, fz, by simp [comp, CS.ren, hlt, h1], h2, fun i v hi => ?_, by simp only; omega, fun ho => by simp [BId.own] at ho⟩
      obtain ⟨v0, k3, k4⟩ := k2 i v hi
      obtain ⟨cv, k5, k6⟩ := h3 _ _ k3
      exact ⟨cv, by rw [Nat.add_assoc]; exact k5, VR.rn _ _ _ k4 k6⟩
    | o j =>
      simp only [H.get, List.getElem?_map] at hb
      cases hoc : S.oc[j]? with
      | none => simp [hoc] at hb
      | some c =>
        simp [hoc] at hb
        subst hb
        have hlt := (List.getElem?_eq_some_iff.mp hoc).1
        rw [← hS.olen] at hlt
        obtain ⟨l0, k1, k0, k2⟩ := hS.ook j (S.os[j]) c (by simp [hlt]) hoc
        obtain ⟨cb, cs, ty, fz, h1, h2, h3, h4, h5⟩ := h.cells _ _ k1 (fun _ => rfl)
        refine ⟨{ cb with sh := cb.sh + 0 }, cs, ty, fz, by simp [comp, CS.ren, hlt, h1], h2, fun i v hi => ?_, by simp only; omega, fun _ => h5 rfl⟩
        obtain ⟨v0, k3, k4⟩ := k2 i v hi
        obtain ⟨cv, k5, k6⟩ := h3 _ _ k3
        exact ⟨cv, k5, VR.rn _ _ _ k4 k6⟩
  · -- apart
    obtain ⟨b1, s1, c1, e1, e2, rfl⟩ := comp_some hc
    obtain ⟨b2, s2, c2, e3, e4, rfl⟩ := comp_some hc'
    simp only [CS.ren, Option.map_eq_some_iff, Prod.mk.injEq] at e1
    obtain ⟨m, hm, rfl, rfl⟩ := e1
    simp only [H.get, List.getElem?_map] at hn
    have hmo := List.mem_of_getElem? hm
    cases hoc : S.oc[n]? with
    | none => simp [hoc] at hn
    | some c =>
      obtain ⟨lm, g1, _, _⟩ := hS.ook n m c hm hoc
      cases b with
      | r j =>
        simp only [CS.ren] at e3
        simp only [H.get] at hb
        obtain ⟨lb, g2, _, k2⟩ := hS.rok j b2 s2 l' e3 hb
        exact h.sep m b2 lm lb g1 g2 (fun e => by
          cases l' with
          | nil => exact absurd (hz rfl) (by simp [BId.own])
          | cons v r =>
            obtain ⟨v0, k3, _⟩ := k2 0 v rfl
            rw [e] at k3; simp at k3) (hro j b2 s2 m e3 hmo) c1 c2 e2 e4
      | o j =>
        simp only [CS.ren, Option.map_eq_some_iff, Prod.mk.injEq] at e3
        obtain ⟨m', hm', rfl, rfl⟩ := e3
        simp only [H.get, List.getElem?_map] at hb
        cases hoc' : S.oc[j]? with
        | none => simp [hoc'] at hb
        | some c' =>
          obtain ⟨lb, g2, _, _⟩ := hS.ook j m' c' hm' hoc'
          refine h.sep m (.o m') lm lb g1 g2 (fun _ => rfl) (fun e => hne ?_) c1 c2 e2 e4
          cases e
          obtain ⟨p1, q1⟩ := List.getElem?_eq_some_iff.mp hm
          obtain ⟨p2, q2⟩ := List.getElem?_eq_some_iff.mp hm'
          rw [(List.getElem_inj hS.nodup).mp (q2.trans q1.symm)]
  · obtain ⟨b1, s1, c1, e1, e2, rfl⟩ := comp_some hb
    simp only [CS.ren, Option.map_eq_some_iff, Prod.mk.injEq] at e1
    obtain ⟨m, hm, rfl, rfl⟩ := e1
    have := h.bound _ _ e2
    exact this
  · cases b with
    | r j =>
      simp only [H.get] at hb
      have hlt := (List.getElem?_eq_some_iff.mp hb).1
      rw [← hS.rlen] at hlt
      obtain ⟨l0, k1, _, _⟩ := hS.rok j (S.rs[j]).1 (S.rs[j]).2 l (by simp [hlt]) hb
      obtain ⟨cb, h1⟩ := h.has k1
      exact ⟨{ cb with sh := cb.sh + (S.rs[j]).2 }, by simp [comp, CS.ren, hlt, h1]⟩
    | o j =>
      simp only [H.get, List.getElem?_map] at hb
      cases hoc : S.oc[j]? with
      | none => simp [hoc] at hb
      | some c =>
        have hlt := (List.getElem?_eq_some_iff.mp hoc).1
        rw [← hS.olen] at hlt
        obtain ⟨l0, k1, _, _⟩ := hS.ook j (S.os[j]) c (by simp [hlt]) hoc
        obtain ⟨cb, h1⟩ := h.has k1
        exact ⟨{ cb with sh := cb.sh + 0 }, by simp [comp, CS.ren, hlt, h1]⟩
  · simp [comp, CS.ren, hn]
  · simp [comp, CS.ren, hn]

end
end Go.Sym
