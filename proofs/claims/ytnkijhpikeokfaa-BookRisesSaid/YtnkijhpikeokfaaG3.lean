/- The texts S27, K1. -/
import Derived.Test.YtnkijhpikeokfaaG2
import Derived.WalkKit
import Derived.ProofKit
import Derived.OpenShut
import Derived.ReadAgain
import Derived.Test.YtnkijhpikeokfaaRows
set_option linter.unusedSimpArgs false
set_option linter.unusedVariables false
/- From a law's contract to its statement: any arguments of plain cells and slices of plain cells stand to abstract ones. -/
namespace Go.Sym
open Go Go.ChangeShapes Go.WideShapes Go.RowKit

/-! what lies in a type's cells -/

def leavesFs (P : Program) (r : TypeId → Option (List TypeId)) : List Field → List TypeId → Option (List TypeId)
  | [], acc => some acc
  | f :: fs, acc => match r f.type with
    | some ts => if f.offset = acc.length ∧ P.cellsOf f.type = ts.length then leavesFs P r fs (acc ++ ts) else none
    | none => none

/-- the types of a type's cells, where they lie one behind another -/
def leaves (P : Program) : Nat → TypeId → Option (List TypeId)
  | 0, _ => none
  | d + 1, t => match P.underlying t with
    | some (.struct fs) => match leavesFs P (leaves P d) fs.toList [] with
      | some ts => if P.cellsOf t = ts.length then some ts else none
      | none => none
    | some (.array n e) => match leaves P d e with
      | some ts => if P.cellsOf e = ts.length ∧ P.cellsOf t = n * ts.length then some (List.replicate n ts).flatten else none
      | none => none
    | some (.int _) => some [t]
    | some .bool => some [t]
    | some (.slice _) => some [t]
    | _ => none

def LfR (L : TypeId → Value → Prop) : List TypeId → List Value → Prop
  | [], cs => cs = []
  | t :: ts, cs => ∃ c r, cs = c :: r ∧ L t c ∧ LfR L ts r

theorem LfR.append {L : TypeId → Value → Prop} : ∀ {ts us : List TypeId} {cs ds : List Value}, LfR L ts cs → LfR L us ds → LfR L (ts ++ us) (cs ++ ds)
  | [], us, cs, ds, h, h' => by simp only [LfR] at h; subst h; simpa using h'
  | t :: ts, us, cs, ds, ⟨c, r, e, h1, h2⟩, h' => by subst e; exact ⟨c, r ++ ds, rfl, h1, LfR.append h2 h'⟩

theorem LfR.length {L : TypeId → Value → Prop} : ∀ {ts : List TypeId} {cs : List Value}, LfR L ts cs → cs.length = ts.length
  | [], cs, h => by simp only [LfR] at h; simp [h]
  | t :: ts, cs, ⟨c, r, e, _, h2⟩ => by subst e; simp [LfR.length h2]

theorem LfR.get {L : TypeId → Value → Prop} : ∀ {ts : List TypeId} {cs : List Value}, LfR L ts cs → ∀ (i : Nat) (t : TypeId), ts[i]? = some t → ∃ c, cs[i]? = some c ∧ L t c
  | [], cs, h, i, t, hi => by simp at hi
  | t :: ts, cs, ⟨c, r, e, h1, h2⟩, i, u, hi => by
    subst e
    cases i with
    | zero => simp at hi; subst hi; exact ⟨c, rfl, h1⟩
    | succ i => simp at hi; simpa using LfR.get h2 i u hi

theorem LfR.of_get {L : TypeId → Value → Prop} : ∀ {ts : List TypeId} {cs : List Value}, cs.length = ts.length → (∀ (i : Nat) (t : TypeId) (c : Value), ts[i]? = some t → cs[i]? = some c → L t c) → LfR L ts cs
  | [], cs, hl, _ => by simp only [LfR]; simpa using hl
  | t :: ts, [], hl, _ => by simp at hl
  | t :: ts, c :: cs, hl, h => ⟨c, cs, rfl, h 0 t c rfl rfl, LfR.of_get (by simpa using hl) fun i u v hi hv => h (i + 1) u v (by simpa using hi) (by simpa using hv)⟩

section
variable {HH : Type} {enc : TypeId × Value → HH} {P : Program} {W : World} {base : Nat} {sp : Nat → Bool} {held : Bool}

abbrev Trods (enc : TypeId × Value → HH) (P : Program) (W : World) (base : Nat) (sp : Nat → Bool) (held : Bool) (t : TypeId) (c : Value) : Prop := ∃ n y, DataW.trod enc P W base sp held n t [c] = some y

theorem leavesFs_trod {r : TypeId → Option (List TypeId)} {m : Nat} {cs : List Value} (hr : ∀ t ts cs y, r t = some ts → DataW.trod enc P W base sp held m t cs = some y → LfR (Trods enc P W base sp held) ts cs) :
    ∀ (fs : List Field) (acc ts : List TypeId), leavesFs P r fs acc = some ts → (∀ f ∈ fs, ∃ y, DataW.trod enc P W base sp held m f.type ((cs.drop f.offset).take (P.cellsOf f.type)) = some y) →
      LfR (Trods enc P W base sp held) acc (cs.take acc.length) → LfR (Trods enc P W base sp held) ts (cs.take ts.length)
  | [], acc, ts, h, _, ha => by simp only [leavesFs, Option.some.injEq] at h; subst h; exact ha
  | f :: fs, acc, ts, h, hf, ha => by
    simp only [leavesFs] at h
    split at h
    · rename_i us hu
      split at h
      · rename_i hc
        obtain ⟨y, hy⟩ := hf f (by simp)
        have h1 := hr _ _ _ _ hu hy
        refine leavesFs_trod hr fs (acc ++ us) ts h (fun g hg => hf g (by simp [hg])) ?_
        rw [List.length_append, List.take_add]
        refine ha.append ?_
        rw [hc.1, hc.2] at h1
        exact h1
      · cases h
    · cases h

theorem trod_leaves : ∀ (d : Nat) (t : TypeId) (ts : List TypeId) (n : Nat) (cs : List Value) (y : DataW HH × List MemPlace), leaves P d t = some ts → DataW.trod enc P W base sp held n t cs = some y → LfR (Trods enc P W base sp held) ts cs
  | 0, t, ts, n, cs, y, h, _ => by simp [leaves] at h
  | d + 1, t, ts, n, cs, y, h, hy => by
    simp only [leaves] at h
    split at h
    · rename_i fs hu
      split at h
      · rename_i us hus
        split at h
        · rename_i hc
          cases h
          obtain ⟨xs, m, rfl, _, hl, hxl, hx⟩ := DataW.trod_struct hu hy
          have := leavesFs_trod (enc := enc) (W := W) (base := base) (sp := sp) (held := held) (m := m) (cs := cs) (fun t ts cs y h1 h2 => trod_leaves d t ts m cs y h1 h2) fs.toList [] ts hus (fun f hf => by
            obtain ⟨i, hi⟩ := List.getElem?_of_mem hf
            have hi' : fs[i]? = some f := by simpa using hi
            have hlt : i < xs.length := by rw [hxl]; exact (Array.getElem?_eq_some_iff.mp hi').1
            exact ⟨xs[i], by rw [hx i f hi']; simp [hlt]⟩) (by simp [LfR])
          rwa [List.take_of_length_le (by omega)] at this
        · cases h
      · cases h
    · rename_i k e hu
      split at h
      · rename_i us hus
        split at h
        · rename_i hc
          cases h
          obtain ⟨xs, m, rfl, _, hl, hxl, hx⟩ := DataW.trod_array hu hy
          have key : ∀ j, j ≤ k → LfR (Trods enc P W base sp held) (List.replicate j us).flatten (cs.take (j * us.length)) := by
            intro j
            induction j with
            | zero => intro _; simp [LfR]
            | succ j ih =>
              intro hj
              have h1 := hx j (by omega)
              have hlt : j < xs.length := by omega
              have h2 := trod_leaves d e us m _ (xs[j]) hus (by rw [h1]; simp [hlt])
              rw [hc.1] at h2
              have := (ih (by omega)).append h2
              rw [Nat.succ_mul, List.take_add]
              rw [List.replicate_succ', List.flatten_append]
              simpa using this
          have := key k (Nat.le_refl _)
          rwa [List.take_of_length_le (by omega)] at this
        · cases h
      · cases h
    · rename_i k hu
      cases h
      obtain ⟨m, rfl, _⟩ := DataW.trod_int hu hy
      exact ⟨_, [], rfl, ⟨n, y, hy⟩, rfl⟩
    · rename_i hu
      cases h
      obtain ⟨m, rfl, _⟩ := DataW.trod_bool hu hy
      exact ⟨_, [], rfl, ⟨n, y, hy⟩, rfl⟩
    · rename_i e hu
      cases h
      rcases DataW.trod_slice hu hy with ⟨rfl, _⟩ | ⟨a, len, cap, _, _, _, _, rfl, _⟩
      · exact ⟨_, [], rfl, ⟨n, y, hy⟩, rfl⟩
      · exact ⟨_, [], rfl, ⟨n, y, hy⟩, rfl⟩
    · cases h
end

/-! abstract ones -/

def FlV : Option IntKind → AV → Prop
  | some k, v => ∃ n, v = .int k n ∧ (Lit.int k n).wf = true
  | none, v => ∃ b, v = .bool b

def FlVs : List (Option IntKind) → List AV → Prop
  | [], l => l = []
  | x :: xs, l => ∃ v r, l = v :: r ∧ FlV x v ∧ FlVs xs r

def Rep (es : List (Option IntKind)) : Nat → List AV → Prop
  | 0, l => l = []
  | n + 1, l => ∃ a b, l = a ++ b ∧ FlVs es a ∧ Rep es n b

inductive LK where
  | f (x : Option IntKind)
  | sl (es : List (Option IntKind))

def LV : Nat → List LK → List AV → List (List AV) → Prop
  | _, [], avs, rows => avs = [] ∧ rows = []
  | j, .f x :: ks, avs, rows => ∃ v r, avs = v :: r ∧ FlV x v ∧ LV j ks r rows
  | j, .sl es :: ks, avs, rows => ∃ n l r rs, avs = .sl (.r j) 0 n es.length false :: r ∧ rows = l :: rs ∧ n ≤ maxLen ∧ Rep es n l ∧ LV (j + 1) ks r rs

theorem FlVs.length : ∀ {es : List (Option IntKind)} {l : List AV}, FlVs es l → l.length = es.length
  | [], l, h => by simp only [FlVs] at h; simp [h]
  | x :: xs, l, ⟨v, r, e, _, h⟩ => by subst e; simp [FlVs.length h]
theorem Rep.length {es : List (Option IntKind)} : ∀ {n : Nat} {l : List AV}, Rep es n l → l.length = n * es.length
  | 0, l, h => by simp only [Rep] at h; simp [h]
  | n + 1, l, ⟨a, b, e, h1, h2⟩ => by subst e; rw [List.length_append, h1.length, Rep.length h2, Nat.succ_mul, Nat.add_comm]

/-- a row of numbers of one kind -/
theorem Rep.ints : ∀ {n : Nat} {l : List AV}, Rep [some .i64] n l → ∃ L : List Int, l = ints L ∧ L.length = n ∧ ∀ x ∈ L, -9223372036854775808 ≤ x ∧ x ≤ 9223372036854775807
  | 0, l, h => by simp only [Rep] at h; exact ⟨[], by simp [h, Sym.ints], rfl, by simp⟩
  | n + 1, l, ⟨a, b, e, ⟨v, r, e1, ⟨x, e2, hx⟩, e3⟩, h2⟩ => by
    simp only [FlVs] at e3
    subst e3; subst e2; subst e1; subst e
    obtain ⟨L, rfl, hl, hb⟩ := Rep.ints h2
    refine ⟨x :: L, by simp [Sym.ints], by simp [hl], fun y hy => ?_⟩
    rcases List.mem_cons.1 hy with rfl | hy
    · simpa [Lit.wf, IntKind.min, IntKind.max, IntKind.bits, IntKind.signed] using hx
    · exact hb y hy

def fk (P : Program) (t : TypeId) : Option (Option IntKind) :=
  match P.underlying t with
  | some (.int k) => some (some k)
  | some .bool => some none
  | _ => none

def fks (P : Program) : List TypeId → Option (List (Option IntKind))
  | [] => some []
  | t :: ts => match fk P t, fks P ts with
    | some x, some xs => some (x :: xs)
    | _, _ => none

def lkT (P : Program) (t : TypeId) : Option LK :=
  match P.underlying t with
  | some (.int k) => some (.f (some k))
  | some .bool => some (.f none)
  | some (.slice e) => match leaves P P.depth e with
    | some ts => match fks P ts with
      | some es => if P.cellsOf e = es.length ∧ 0 < es.length then some (.sl es) else none
      | none => none
    | none => none
  | _ => none

def lkTs (P : Program) : List TypeId → Option (List LK)
  | [] => some []
  | t :: ts => match lkT P t, lkTs P ts with
    | some x, some xs => some (x :: xs)
    | _, _ => none

theorem fks_length {P : Program} : ∀ {ts : List TypeId} {es : List (Option IntKind)}, fks P ts = some es → es.length = ts.length
  | [], es, h => by simp only [fks, Option.some.injEq] at h; simp [← h]
  | t :: ts, es, h => by
    simp only [fks] at h
    split at h
    · rename_i x xs h1 h2
      cases h
      simp [fks_length h2]
    · cases h

section
variable {HH : Type} {enc : TypeId × Value → HH} {P : Program} {W : World} {base : Nat} {sp : Nat → Bool} {held : Bool}

theorem flat_cell {t : TypeId} {x : Option IntKind} (hf : fk P t = some x) {c : Value} (hc : Trods enc P W base sp held t c) : ∃ v, FlV x v ∧ v.flat = true ∧ ∀ ρ, VR ρ v c := by
  obtain ⟨n, y, hy⟩ := hc
  unfold fk at hf
  split at hf
  · rename_i k hu
    cases hf
    obtain ⟨m, e, _, hw⟩ := DataW.trod_int hu hy
    cases e
    exact ⟨.int k m, ⟨m, rfl, hw⟩, rfl, fun ρ => by simp [VR]⟩
  · rename_i hu
    cases hf
    obtain ⟨b, e, _⟩ := DataW.trod_bool hu hy
    cases e
    exact ⟨.bool b, ⟨b, rfl⟩, rfl, fun ρ => by simp [VR]⟩
  · cases hf

theorem flat_cells : ∀ {ts : List TypeId} {es : List (Option IntKind)} {cs : List Value}, fks P ts = some es → LfR (Trods enc P W base sp held) ts cs →
    ∃ l, FlVs es l ∧ l.length = cs.length ∧ ∀ (j : Nat) v, l[j]? = some v → ∃ cv, cs[j]? = some cv ∧ ∀ ρ, VR ρ v cv
  | [], es, cs, h, hl => by
    simp only [fks, Option.some.injEq] at h
    simp only [LfR] at hl
    subst h; subst hl
    exact ⟨[], rfl, rfl, fun j v hj => by simp at hj⟩
  | t :: ts, es, cs, h, ⟨c, r, e, h1, h2⟩ => by
    subst e
    simp only [fks] at h
    split at h
    · rename_i x xs hx hxs
      cases h
      obtain ⟨v, k1, _, k2⟩ := flat_cell hx h1
      obtain ⟨l, q1, q2, q3⟩ := flat_cells hxs h2
      refine ⟨v :: l, ⟨v, l, rfl, k1, q1⟩, by simp [q2], fun j u hj => ?_⟩
      cases j with
      | zero => simp at hj; subst hj; exact ⟨c, rfl, k2⟩
      | succ j => simp at hj; simpa using q3 j u hj
    · cases h

/-- a row in the world -/
def RowAt (W : World) (l : List AV) (cb : CB) : Prop :=
  cb.sh + l.length ≤ cb.sz ∧ (l ≠ [] → ∃ cs ty fz, W.heap[cb.blk]? = some (.cells cs ty fz) ∧ ∀ (j : Nat) v, l[j]? = some v → ∃ cv, cs[cb.sh + j]? = some cv ∧ ∀ ρ, VR ρ v cv)

theorem row_cells {e : TypeId} {ts : List TypeId} {es : List (Option IntKind)} {d m : Nat} (hl : leaves P d e = some ts) (hes : fks P ts = some es) (hc : P.cellsOf e = es.length) (hpos : 0 < es.length) {a : Addr} (hsp : a.spot = none) {cs : Array Value} {ty : TypeId} {fz : Nat × Nat}
    (hW : W.heap[a.block]? = some (.cells cs ty fz)) : ∀ (n i0 : Nat), (∀ i, i0 ≤ i → i < i0 + n → ∃ y, (W.cells? base (a.add (i * P.cellsOf e)) (P.cellsOf e)).bind (DataW.trod enc P W base sp held m e) = some y) →
      ∃ l, Rep es n l ∧ ∀ (j : Nat) v, l[j]? = some v → ∃ cv, cs[a.off + i0 * es.length + j]? = some cv ∧ ∀ ρ, VR ρ v cv
  | 0, i0, _ => ⟨[], rfl, fun j v hj => by simp at hj⟩
  | n + 1, i0, h => by
    obtain ⟨y, hy⟩ := h i0 (Nat.le_refl _) (by omega)
    simp only [Option.bind_eq_some_iff] at hy
    obtain ⟨c1, k1, k2⟩ := hy
    obtain ⟨_, k3, k4⟩ := World.cells?_some k1
    obtain ⟨l1, q1, q2, q3⟩ := flat_cells hes (trod_leaves d e ts m c1 y hl k2)
    obtain ⟨l2, r1, r2⟩ := row_cells hl hes hc hpos hsp hW n (i0 + 1) (fun i h1 h2 => h i (by omega) (by omega))
    have hl1 : l1.length = es.length := q1.length
    refine ⟨l1 ++ l2, ⟨l1, l2, rfl, q1, r1⟩, fun j v hj => ?_⟩
    by_cases hlt : j < l1.length
    · rw [List.getElem?_append_left hlt] at hj
      obtain ⟨cv, s1, s2⟩ := q3 j v hj
      refine ⟨cv, ?_, s2⟩
      have := k4 j (by omega)
      rw [s1, hc] at this
      have hadd : (a.add (i0 * es.length)).add j = ⟨a.block, a.off + i0 * es.length + j, none⟩ := by
        cases a with
        | mk b o s =>
          simp only at hsp
          subst hsp
          rw [Addr.add_none, Addr.add_none]
      rw [hadd, cell_of_row W _ _ _ _ _ hW] at this
      exact this
    · rw [List.getElem?_append_right (by omega)] at hj
      obtain ⟨cv, s1, s2⟩ := r2 _ v hj
      refine ⟨cv, ?_, s2⟩
      rw [← s1]
      congr 1
      rw [Nat.succ_mul]
      omega

theorem slice_cell {t e : TypeId} (hu : P.underlying t = some (.slice e)) {ts : List TypeId} {es : List (Option IntKind)} {d : Nat} (hl : leaves P d e = some ts) (hes : fks P ts = some es) (hc : P.cellsOf e = es.length) (hpos : 0 < es.length)
    {c : Value} (hcell : Trods enc P W base sp held t c) {b0 : Nat} {r : Reach} (hok : Cell.okWide P W r b0 t c) :
    ∃ n l cb, Rep es n l ∧ n ≤ maxLen ∧ RowAt W l cb ∧ ∀ (ρ : Rho) j, ρ (.r j) = some cb → VR ρ (.sl (.r j) 0 n es.length false) c := by
  obtain ⟨m, y, hy⟩ := hcell
  rcases DataW.trod_slice hu hy with ⟨e1, _⟩ | ⟨a, len, cap, elems, rest, m', _, e1, _, _, hle, hcap, hlen, hel, _⟩
  · cases e1
    exact ⟨0, [], ⟨0, 0, 0⟩, rfl, Nat.zero_le _, ⟨by simp, fun h => absurd rfl h⟩, fun ρ j _ => by simp [VR]⟩
  · cases e1
    have hspot : a.spot = none := by
      unfold Cell.okWide at hok
      simp only [hu] at hok
      unfold Cell.ok at hok
      simp only [hu] at hok
      exact hok.2.2.2.1
    have hVR : ∀ (ρ : Rho) j, ρ (.r j) = some ⟨a.block, a.off, a.off + cap * es.length⟩ → VR ρ (.sl (.r j) 0 len es.length false) (.slice (some a) len cap) := fun ρ j hρ => by
      simp only [VR]
      refine .inl ⟨_, a.off, cap, hρ, ?_, fun _ => by simp, hle, by simp, by simp⟩
      cases a with
      | mk b o s => simp only at hspot; subst hspot; rfl
    have hmul : len * es.length ≤ cap * es.length := Nat.mul_le_mul_right _ hle
    by_cases h0 : len = 0
    · subst h0
      exact ⟨0, [], ⟨a.block, a.off, a.off + cap * es.length⟩, rfl, Nat.zero_le _, ⟨by simp, fun h => absurd rfl h⟩, hVR⟩
    · have hfirst : ∃ cs ty fz, W.heap[a.block]? = some (.cells cs ty fz) := by
        have h1 := hel 0 (by omega)
        have hlt : 0 < elems.length := by omega
        rw [List.getElem?_eq_getElem hlt] at h1
        simp only [Option.bind_eq_some_iff] at h1
        obtain ⟨c1, k1, _⟩ := h1
        obtain ⟨_, k3, k4⟩ := World.cells?_some k1
        have h2 := k4 0 (by omega)
        rw [List.getElem?_eq_getElem (by omega)] at h2
        have hb : ((a.add (0 * P.cellsOf e)).add 0).block = a.block := by rw [block_add, block_add]
        unfold World.cell? at h2
        rw [hb] at h2
        split at h2
        · rename_i cs ty fz hh; exact ⟨cs, ty, fz, hh⟩
        · cases h2
      obtain ⟨cs, ty, fz, hW⟩ := hfirst
      obtain ⟨l, q1, q2⟩ := row_cells (enc := enc) (base := base) (sp := sp) (held := held) (m := m') hl hes hc hpos hspot hW len 0 (fun i _ hi => ⟨elems[i]'(by omega), by
        rw [hel i (by omega), List.getElem?_eq_getElem (by omega)]⟩)
      refine ⟨len, l, ⟨a.block, a.off, a.off + cap * es.length⟩, q1, Nat.le_trans hle hcap, ⟨?_, fun _ => ⟨cs, ty, fz, hW, fun j v hj => ?_⟩⟩, hVR⟩
      · simp only [q1.length]; omega
      · simpa using q2 j v hj

theorem open_cells {b0 : Nat} {r : Reach} : ∀ {ts : List TypeId} {ks : List LK} {cs : List Value}, lkTs P ts = some ks → LfR (Trods enc P W base sp held) ts cs → LfR (Cell.okWide P W r b0) ts cs → ∀ j,
    ∃ (avs : List AV) (rows : List (List AV)) (cbs : List CB), LV j ks avs rows ∧ cbs.length = rows.length ∧ (∀ (i : Nat) l cb, rows[i]? = some l → cbs[i]? = some cb → RowAt W l cb) ∧
      ∀ ρ : Rho, (∀ (i : Nat) cb, cbs[i]? = some cb → ρ (.r (j + i)) = some cb) → VRs ρ avs cs
  | [], ks, cs, h, h1, _, j => by
    simp only [lkTs, Option.some.injEq] at h
    simp only [LfR] at h1
    subst h; subst h1
    exact ⟨[], [], [], ⟨rfl, rfl⟩, rfl, fun i l cb h => by simp at h, fun ρ _ => VRs.nil⟩
  | t :: ts, ks, cs, h, ⟨c, q, e, h1, h2⟩, ⟨c', q', e', g1, g2⟩, j => by
    subst e
    cases e'
    simp only [lkTs] at h
    split at h
    · rename_i x xs hx hxs
      cases h
      unfold lkT at hx
      split at hx
      · rename_i k hu
        cases hx
        obtain ⟨avs, rows, cbs, a1, a2, a3, a4⟩ := open_cells hxs h2 g2 j
        obtain ⟨v, k1, _, k2⟩ := flat_cell (x := some k) (by simp [fk, hu]) h1
        exact ⟨v :: avs, rows, cbs, ⟨v, avs, rfl, k1, a1⟩, a2, a3, fun ρ hρ => VRs.cons (k2 ρ) (a4 ρ hρ)⟩
      · rename_i hu
        cases hx
        obtain ⟨avs, rows, cbs, a1, a2, a3, a4⟩ := open_cells hxs h2 g2 j
        obtain ⟨v, k1, _, k2⟩ := flat_cell (x := none) (by simp [fk, hu]) h1
        exact ⟨v :: avs, rows, cbs, ⟨v, avs, rfl, k1, a1⟩, a2, a3, fun ρ hρ => VRs.cons (k2 ρ) (a4 ρ hρ)⟩
      · rename_i el hu
        split at hx
        · rename_i us hus
          split at hx
          · rename_i es hes
            split at hx
            · rename_i hc
              cases hx
              obtain ⟨avs, rows, cbs, a1, a2, a3, a4⟩ := open_cells hxs h2 g2 (j + 1)
              obtain ⟨n, l, cb, b1, b2, b3, b4⟩ := slice_cell hu hus hes hc.1 hc.2 h1 g1
              refine ⟨.sl (.r j) 0 n es.length false :: avs, l :: rows, cb :: cbs, ⟨n, l, avs, rows, rfl, rfl, b2, b1, a1⟩, by simp [a2], fun i l' cb' hi hi' => ?_, fun ρ hρ => VRs.cons (b4 ρ j (by simpa using hρ 0 cb rfl)) (a4 ρ fun i cb' hi => ?_)⟩
              · cases i with
                | zero => simp at hi hi'; subst hi; subst hi'; exact b3
                | succ i => simp at hi hi'; exact a3 i l' cb' hi hi'
              · have := hρ (i + 1) cb' (by simpa using hi)
                rw [show j + 1 + i = j + (i + 1) by omega]; exact this
            · cases hx
          · cases hx
        · cases hx
      · cases hx
    · cases h

end

/-- the rows stand to the world -/
theorem rows_SR {W : World} {rows : List (List AV)} {cbs : List CB} (hl : cbs.length = rows.length) (hr : ∀ (i : Nat) l cb, rows[i]? = some l → cbs[i]? = some cb → RowAt W l cb) :
    SR (fun b => match b with | .r n => cbs[n]? | .o _ => none) (H.get ⟨rows, []⟩) W := by
  refine ⟨fun b l hb hz => ?_, fun n b l l' hn => (by simp [H.get] at hn), fun n cb hn => (by cases hn), fun {b l} hb => ?_⟩
  · cases b with
    | o n => simp [H.get] at hb
    | r n =>
      simp only [H.get] at hb
      have hlt := (List.getElem?_eq_some_iff.mp hb).1
      have hcb : cbs[n]? = some (cbs[n]'(by omega)) := by simp [hl, hlt]
      obtain ⟨h1, h2⟩ := hr n l _ hb hcb
      obtain ⟨cs, ty, fz, k1, k2⟩ := h2 (fun e => by have := hz e; cases this)
      exact ⟨_, cs, ty, fz, hcb, k1, fun j v hj => by obtain ⟨cv, q1, q2⟩ := k2 j v hj; exact ⟨cv, q1, q2 _⟩, h1, fun h => by cases h⟩
  · cases b with
    | o n => simp [H.get] at hb
    | r n =>
      simp only [H.get] at hb
      have hlt := (List.getElem?_eq_some_iff.mp hb).1
      exact ⟨cbs[n]'(by omega), by simp [hl, hlt]⟩

/-! the arguments -/

/-- which parameters are rows of cells, and how many -/
def isAggT (P : Program) (t : TypeId) : Bool :=
  match P.underlying t with
  | some (.struct _) | some (.array _ _) => true
  | _ => false

def group : List (Option Nat) → List AV → List AV
  | [], _ => []
  | none :: s, l => l.take 1 ++ group s (l.drop 1)
  | some n :: s, l => .agg (l.take n) :: group s (l.drop n)

/-- a parameter's cells, and how it is handed over -/
def parT (P : Program) (t : TypeId) : Option (List TypeId × Option Nat) :=
  match leaves P P.depth t with
  | some ts =>
    match isAggT P t with
    | true => if P.cellTypes P.depth t = some ts ∧ P.cellsOf t = ts.length then some (ts, some ts.length) else none
    | false => if ts = [t] then some (ts, none) else none
  | none => none

def parTs (P : Program) : List TypeId → Option (List TypeId × List (Option Nat))
  | [] => some ([], [])
  | t :: ts => match parT P t, parTs P ts with
    | some (us, g), some (vs, gs) => some (us ++ vs, g :: gs)
    | _, _ => none

section
variable {HH : Type} {enc : TypeId × Value → HH} {P : Program} {W : World} {base : Nat} {sp : Nat → Bool} {held : Bool}

theorem isAggT_ok {t : TypeId} (h : isAggT P t = false) {r : Reach} {b0 : Nat} {v : Value} (hv : Value.okWide P W r b0 t v) : Cell.okWide P W r b0 t v := by
  unfold isAggT at h
  unfold Value.okWide at hv
  split at h
  · cases h
  · cases h
  · rename_i h1 h2
    split at hv
    · rename_i h3; exact absurd h3 (h1 _)
    · rename_i h3; exact absurd h3 (h2 _ _)
    · exact hv

theorem agg_cells {t : TypeId} (h : isAggT P t = true) {r : Reach} {b0 : Nat} {v : Value} (hv : Value.okWide P W r b0 t v) : ∃ cs : Array Value, v = .agg cs ∧ cs.size = P.cellsOf t ∧ Row.okWide P W r b0 t cs := by
  unfold isAggT at h
  unfold Value.okWide at hv
  split at h
  · rename_i h1; simp only [h1] at hv; exact hv
  · rename_i h1; simp only [h1] at hv; exact hv
  · cases h

theorem group_VRs {r : Reach} {b0 : Nat} : ∀ {pts : List TypeId} {ts : List TypeId} {sh : List (Option Nat)} {vs : List Value} {ds : List (DataW HH)} {ps : List MemPlace},
    parTs P pts = some (ts, sh) → DataW.TrodAll enc P W base sp held pts vs ds ps → (∀ (j : Nat) t v, pts[j]? = some t → vs[j]? = some v → Value.okWide P W r b0 t v) →
    ∃ cs, LfR (Trods enc P W base sp held) ts cs ∧ LfR (Cell.okWide P W r b0) ts cs ∧ ∀ (ρ : Rho) avs, VRs ρ avs cs → VRs ρ (group sh avs) vs
  | [], ts, sh, vs, ds, ps, h, ht, _ => by
    simp only [parTs, Option.some.injEq, Prod.mk.injEq] at h
    obtain ⟨rfl, rfl⟩ := h
    obtain ⟨rfl, rfl, rfl⟩ := trodAll_nil ht
    exact ⟨[], rfl, rfl, fun ρ avs _ => VRs.nil⟩
  | t :: pts, ts, sh, vs, ds, ps, h, ht, hok => by
    simp only [parTs] at h
    split at h
    · rename_i us g vs' gs h1 h2
      simp only [Option.some.injEq, Prod.mk.injEq] at h
      obtain ⟨rfl, rfl⟩ := h
      obtain ⟨v, vr, d, dr, p, q, rfl, rfl, rfl, k1, k2⟩ := trodAll_cons ht
      obtain ⟨cs2, a1, a2, a3⟩ := group_VRs h2 k2 (fun j t v hj hv => hok (j + 1) t v (by simpa using hj) (by simpa using hv))
      have hv := hok 0 t v rfl rfl
      unfold parT at h1
      split at h1
      · rename_i us' hl
        obtain ⟨n, hn⟩ := k1
        have hleaf := trod_leaves _ _ _ _ _ _ hl hn
        split at h1
        · rename_i hag
          split at h1
          · rename_i hc
            cases h1
            obtain ⟨cs, rfl, hsz, tss, hct, _, hcells⟩ := agg_cells hag hv
            rw [hc.1] at hct
            cases hct
            have hcl : cs.toList.length = us.length := by simpa [hc.2] using hsz
            refine ⟨cs.toList ++ cs2, ?_, ?_, fun ρ avs hρ => ?_⟩
            · exact (by simpa [Value.cells] using hleaf : LfR _ us cs.toList).append a1
            · refine LfR.append (LfR.of_get hcl fun i u c hu hc' => ?_) a2
              obtain ⟨u', e1, e2⟩ := hcells i c (by simpa using hc')
              have hlt : i < us.length := (List.getElem?_eq_some_iff.mp hu).1
              rw [Nat.mod_eq_of_lt hlt, hu] at e1
              cases e1
              exact e2
            · have hlen := hρ.length
              simp only [group]
              have h3 := hρ.take us.length
              have h4 := hρ.drop us.length
              have e3 : (cs.toList ++ cs2).take us.length = cs.toList := by rw [← hcl, List.take_left]
              have e4 : (cs.toList ++ cs2).drop us.length = cs2 := by rw [← hcl, List.drop_left]
              rw [e3] at h3
              rw [e4] at h4
              refine VRs.cons ?_ (a3 ρ _ h4)
              simp only [VR]
              exact ⟨cs.toList, by simp, h3⟩
          · cases h1
        · rename_i hag
          split at h1
          · rename_i hc
            cases h1
            subst hc
            obtain ⟨c, r, e1, e2, e3⟩ := hleaf
            simp only [LfR] at e3
            subst e3
            have hcv : c = v := by
              have hcell := isAggT_ok hag hv
              have hn2 : ¬ ∃ cs, v = .agg cs := by
                rintro ⟨cs, rfl⟩
                unfold Cell.okWide at hcell
                unfold Cell.ok at hcell
                split at hcell <;> simp_all
              cases v <;> simp [Value.cells] at e1 <;> first | exact e1.symm | (exfalso; exact hn2 ⟨_, rfl⟩)
            subst hcv
            refine ⟨c :: cs2, ⟨c, cs2, rfl, e2, a1⟩, ⟨c, cs2, rfl, isAggT_ok hag hv, a2⟩, fun ρ avs hρ => ?_⟩
            simp only [group]
            have h3 := hρ.take 1
            have h4 := hρ.drop 1
            simp only [List.take_succ_cons, List.take_zero, List.drop_succ_cons, List.drop_zero] at h3 h4
            exact (h3.append (a3 ρ _ h4) : VRs ρ _ ([c] ++ vr))
          · cases h1
      · cases h1
    · cases h

/-- a call of a function whose contract holds for any arguments -/
theorem law_calls {k : FuncId} {fn : Func} {pts ts : List TypeId} {sh : List (Option Nat)} {ks : List LK} {args : Array Value} {ds gs : List (DataW HH)} {before : List MemPlace} {b0 : Nat} {apart : Bool}
    (hp : fn.params.toList = pts) (hpar : parTs P pts = some (ts, sh)) (hks : lkTs P ts = some ks)
    (hlaw : ∀ avs rows, LV 0 ks avs rows → SoundC P k (group sh avs) ⟨rows, []⟩ { val := .bool true })
    (hval : ∀ (j : Nat) t v, fn.params[j]? = some t → args[j]? = some v → Value.okWide P W .any b0 t v)
    (hW : DataW.Whole enc P fn.params.toList [] apart W args.toList ds gs before) :
    Calls P k args W fun e W' => e = .returned (.bool true) ∧ Below W.heap.size W W' := by
  obtain ⟨p, q, hA, _, _, _, _⟩ := hW
  rw [hp] at hA
  obtain ⟨cs, c1, c2, c3⟩ := group_VRs (r := .any) (b0 := b0) hpar hA (fun j t v hj hv => hval j t v (by rw [← hp] at hj; simpa using hj) (by simpa using hv))
  obtain ⟨avs, rows, cbs, a1, a2, a3, a4⟩ := open_cells hks c1 c2 0
  have hSR := rows_SR a2 a3
  have hs := (hlaw avs rows a1).2 _ W args.toList (c3 _ _ (a4 _ fun i cb hi => by simpa using hi)) hSR ⟨fun n _ => rfl, fun n hn => by simp only; rw [List.getElem?_eq_none]; simp only at hn; omega⟩
  simp only [Array.toArray_toList] at hs
  refine hs.mono fun e W' ⟨cv, ρ', he, hv, _, hTr, _⟩ => ?_
  simp only [VR] at hv
  subst hv
  exact ⟨he, ⟨hTr.os, hTr.tape, hTr.output, hTr.size, fun i hi => hTr.frame i hi fun n cb h => by cases h⟩⟩

/-- what a law says of the worlds: it says true, and its arguments read as before -/
theorem law_post {f : Func} {s : ChangeSpec} {W' : World} {args : Array Value} {ds gs : List (DataW HH)} {before : List MemPlace} {t : TypeId}
    (K : Kids P (· < P.types.size)) (hz : ∀ t e, t < P.types.size → P.underlying t = some (.slice e) → 0 < P.cellsOf e) (hts : ∀ t ∈ f.params.toList, t < P.types.size)
    (hvars : s.vars = []) (hr : f.resultTypes = #[t]) (ht : P.underlying t = some .bool)
    (hs : (s.fn HH (ds ++ gs)).results = [.lit (.bool true)] ∧ (s.fn HH (ds ++ gs)).args = ds ∧ (s.fn HH (ds ++ gs)).vars = [])
    (hW : DataW.Whole enc P f.params.toList s.vars false W args.toList ds gs before) (hB : Below W.heap.size W W') :
    s.post enc P f false true false false W args (.bool true) W' := by
  have hlt := hW.lt
  have hW0 := hW
  obtain ⟨p, q, hA, hV, hpq, hfz, hnd⟩ := hW
  rw [hvars] at hV
  obtain ⟨rfl, rfl⟩ := trodVars_none hV
  simp only [List.append_nil] at hpq
  subst hpq
  have carry : ∀ {ts : List TypeId} {vs : List Value} {ds : List (DataW HH)} {ps : List MemPlace}, DataW.TrodAll enc P W 0 (fun _ => true) true ts vs ds ps → (∀ x ∈ ps, x.block < W.heap.size) → DataW.TrodAll enc P W' 0 (fun _ => true) true ts vs ds ps := by
    intro ts
    induction ts with
    | nil => intro vs ds ps h _; obtain ⟨rfl, rfl, rfl⟩ := trodAll_nil h; exact rfl
    | cons t ts ih =>
      intro vs ds ps h hl
      obtain ⟨v, vr, d, dr, p, q, rfl, rfl, rfl, ⟨n, k1⟩, k2⟩ := trodAll_cons h
      exact ⟨p, q, ⟨n, DataW.trod_carry n _ _ _ k1 fun x hx => hB.same (hl x (by simp [show x ∈ p from hx]))⟩, ih k2 (fun x hx => hl x (by simp [hx])), rfl⟩
  have hA' := carry hA hlt
  refine ⟨ds, [], before, [], before, [], hW0, ?_, ?_, ?_, ?_, fun h => by cases h⟩
  · rw [hs.1, hr]
    exact trodAll_mk1 (shut_bool ht true)
  · rw [hs.2.1]
    exact DataW.TrodAll.respare K hz hts hA' (fun x hx => by simpa using hlt x hx)
  · rw [hs.2.2, hvars]
    exact rfl
  · exact World.keptBut_mono (fun x hx => ⟨hx, .inr (.inl hx)⟩) (hB.frame (· ∈ before))
end
end Go.Sym

/- Closed facts of the program, each by the kernel. -/
namespace Go.Proofs.Ytnkijhpikeokfaa
open Go Go.ChangeShapes Go.WideShapes
namespace Closed
theorem laid : laidOutB Try.prog = true := by kernel_rfl
theorem rowed : mapsRowed Try.prog = true := by kernel_rfl
theorem plain : Try.prog.plainKeys = true := by kernel_rfl
theorem heard : Try.prog.stopsHeard = true := by kernel_rfl
theorem enter : Try.prog.mayEnter = true := by kernel_rfl
theorem final : Try.prog.liftsFinal = false := by kernel_rfl
theorem own : ownKnob Try.prog.godebug = none := by kernel_rfl
theorem kids : Kids Try.prog (· < Try.prog.types.size) := kids_rows (by kernel_rfl) (by kernel_rfl)
theorem full : ∀ t e, t < Try.prog.types.size → Try.prog.underlying t = some (.slice e) → 0 < Try.prog.cellsOf e := slices_full_of Try.prog (by kernel_rfl)
end Closed
end Go.Proofs.Ytnkijhpikeokfaa
