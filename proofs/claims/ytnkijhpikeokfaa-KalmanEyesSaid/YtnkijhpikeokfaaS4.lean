/- Each operation is sound (first part): moves, new blocks, loads, stores, fields, indexes, numbers. -/
import Derived.Test.YtnkijhpikeokfaaS3
set_option linter.unusedSimpArgs false
set_option linter.unusedVariables false
namespace Go.Sym
open Go

section
variable {P : Program} {ρ : Rho} {g : Gh} {w : World} (h : SR ρ g w) {ev : Operand → AV} {cev : Operand → Value} (hev : ∀ x, VR ρ (ev x) (cev x))
include h hev

theorem s_move (x : Operand) {o : Oper} (ho : o.op = .move x ∨ o.op = .assign x) : Comes P ρ g w (execOp cev o) (ev x) {} := by
  refine Comes.pure h (cv := cev x) ?_ (hev x) rfl rfl rfl rfl
  rcases ho with ho | ho <;> simp [execOp, ho]

theorem s_pick (c a b : Operand) {o : Oper} (ho : o.op = .pick c a b) {t : Bool} (hc : ev c = .bool t) : Comes P ρ g w (execOp cev o) (if t then ev a else ev b) {} := by
  have h1 := hev c
  rw [hc] at h1
  simp only [VR] at h1
  refine Comes.pure h (cv := if t then cev a else cev b) ?_ (by cases t <;> simp [hev]) rfl rfl rfl rfl
  cases t <;> simp [execOp, ho, h1, asBool]

theorem s_alloc (t : TypeId) {o : Oper} (ho : o.op = .alloc t) {nm : Nat} (hn : ρ (.o nm) = none) {l : List AV} (hl : tzero P t = some l) :
    Comes P ρ g w (execOp cev o) (.ptr (.o nm) 0) { newo := [(nm, l)] } := by
  have := hev (.tmp 0)
  obtain ⟨i, v, hi, hz, rfl⟩ := tzero_some hl
  refine Comes.new hn (cs := v.cells) (ty := t) (cv := .pointer (some ⟨w.heap.size, 0, none⟩)) ⟨h, Tr.refl _ _⟩ ?_ (fun j u hj => ?_) ?_
  · simp [execOp, ho, Instr.alloc, run_zeroValue hi hz, newVar, newRow]
  · have := (VRs.consts ρ v).get j u hj
    simpa using this
  · simp [VR, Rho.upd]

theorem s_box (t : TypeId) (x : Operand) {o : Oper} (ho : o.op = .box t x) {nm : Nat} (hn : ρ (.o nm) = none) {l : List AV} (hl : (ev x).cells? = some l) :
    Comes P ρ g w (execOp cev o) (.ptr (.o nm) 0) { newo := [(nm, l)] } := by
  have hc := VR.cells (hev x) hl
  refine Comes.new hn (cs := (cev x).cells) (ty := t) (cv := .pointer (some ⟨w.heap.size, 0, none⟩)) ⟨h, Tr.refl _ _⟩ ?_ (fun j u hj => ?_) ?_
  · simp [execOp, ho, Instr.box, newVar, newRow]
  · have := hc.get j u hj
    simpa using this
  · simp [VR, Rho.upd]

omit h hev in
theorem patch_length : ∀ (cs l : List AV) (off : Nat), (patch l off cs).length = l.length
  | [], l, off => rfl
  | c :: cs, l, off => by simp [patch, patch_length cs]

/-- the model's way of laying a value's cells into a row -/
def laid (cs : Array Value) (off : Nat) (v : List Value) : Array Value := (v.zipIdx.foldl (fun cs (c, j) => cs.setIfInBounds (off + j) c) cs)

omit h hev in
theorem laid_patch {ρ : Rho} : ∀ (v : List Value) (a : List AV) (_ : VRs ρ a v) (l : List AV) (cs : Array Value) (off : Nat) (_ : VRs ρ l cs.toList) (k : Nat),
    VRs ρ (patch l (off + k) a) ((v.zipIdx k).foldl (fun cs (c, j) => cs.setIfInBounds (off + j) c) cs).toList
  | [], a, ha, l, cs, off, hl, k => by
    cases a with
    | nil => simpa [patch] using hl
    | cons a as => simp [VRs] at ha
  | v :: vs, [], ha, l, cs, off, hl, k => by simp [VRs] at ha
  | v :: vs, a :: as, ha, l, cs, off, hl, k => by
    simp only [VRs] at ha
    obtain ⟨c, cs', e, h1, h2⟩ := ha
    cases e
    simp only [patch, List.zipIdx_cons, List.foldl_cons]
    exact laid_patch vs as h2 (l.set (off + k) a) (cs.setIfInBounds (off + k) v) off (by simpa using hl.set (off + k) h1) (k + 1)

omit h hev in
theorem s_fill {ρ : Rho} {place : Nat → Option (Nat × Nat)} : ∀ (parts : List (Nat × AV)) (cparts : List (Nat × Value)) (_ : parts.map (·.1) = cparts.map (·.1)) (_ : VRs ρ (parts.map (·.2)) (cparts.map (·.2)))
    (l l' : List AV) (cs : Array Value) (_ : VRs ρ l cs.toList) (_ : fillA place l parts = some l'), ∃ cs', Instr.fill place cs cparts = some cs' ∧ VRs ρ l' cs'.toList
  | [], [], _, _, l, l', cs, hl, hf => by
    simp only [fillA, Option.some.injEq] at hf
    subst hf
    exact ⟨cs, rfl, hl⟩
  | [], _ :: _, h1, _, _, _, _, _, _ => by simp at h1
  | _ :: _, [], h1, _, _, _, _, _, _ => by simp at h1
  | (i, v) :: r, (j, cv) :: cr, h1, h2, l, l', cs, hl, hf => by
    simp only [List.map_cons, List.cons.injEq] at h1
    obtain ⟨rfl, h1⟩ := h1
    simp only [List.map_cons, VRs] at h2
    obtain ⟨c, cs', e, hv, h2⟩ := h2
    cases e
    simp only [fillA] at hf
    split at hf
    · rename_i off n vs hp hvs
      split at hf
      · rename_i hc
        have hcells := VR.cells hv hvs
        have hlen := hcells.length
        have hll := hl.length
        simp only [Array.length_toList] at hlen hll
        have hlaid := laid_patch cv.cells.toList vs hcells l cs off hl 0
        obtain ⟨cs'', h5, h6⟩ := s_fill r cr h1 h2 _ _ _ hlaid hf
        refine ⟨cs'', ?_, h6⟩
        simp only [Instr.fill, hp]
        rw [if_neg]
        · rw [← h5]
          congr 1
          rw [← Array.foldl_toList, Array.toList_zipIdx]
        · simp only [Bool.or_eq_true, decide_eq_true_eq, ne_eq, not_or]
          omega
      · cases hf
    · cases hf

omit h hev in
theorem run_places {w : World} : ∀ (L : List Field) (pl : List (Nat × Nat)), places P (L.map fun f => (f.offset, f.type)) = some pl →
    (L.mapM (m := Sem) fun f => do pure (f.offset, ← sizeOf f.type)).run P w = .ok pl w
  | [], pl, hp => by simp only [List.map_nil, places, Option.some.injEq] at hp; subst hp; rfl
  | f :: L, pl, hp => by
    simp only [List.map_cons, places] at hp
    split at hp
    · rename_i s l hs hl
      cases hp
      simp only [List.mapM_cons, Sem.run_bind, run_sizeOf hs, Result.andThen_ok, Sem.run_pure, run_places L l hl]
    · cases hp

omit h in
theorem s_parts (parts : Array (Nat × Operand)) : (parts.toList.map fun p => (p.1, ev p.2)).map (·.1) = (parts.map fun p => (p.1, cev p.2)).toList.map (·.1) ∧
    VRs ρ ((parts.toList.map fun p => (p.1, ev p.2)).map (·.2)) ((parts.map fun p => (p.1, cev p.2)).toList.map (·.2)) := by
  refine ⟨by simp, ?_⟩
  simp only [List.map_map, Array.toList_map]
  refine VRs.of_get (by simp) fun i v hi => ?_
  simp only [List.getElem?_map, Option.map_eq_some_iff, Function.comp] at hi ⊢
  obtain ⟨a, ha, rfl⟩ := hi
  exact ⟨_, ⟨a, ha, rfl⟩, hev _⟩

theorem s_build_struct (t : TypeId) (parts : Array (Nat × Operand)) {o : Oper} (ho : o.op = .build t parts) {fs : List (Nat × TypeId)} (ht : tk P t = some (.st fs)) {z l : List AV} (hz : tzero P t = some z)
    {pl : List (Nat × Nat)} (hpl : places P fs = some pl) (hf : fillA (fun i => pl[i]?) z (parts.toList.map fun p => (p.1, ev p.2)) = some l) : Comes P ρ g w (execOp cev o) (.agg l) {} := by
  obtain ⟨fs', hu, rfl⟩ := tk_st ht
  obtain ⟨i, v, hi, hzv, rfl⟩ := tzero_some hz
  obtain ⟨p1, p2⟩ := s_parts hev (ρ := ρ) parts
  obtain ⟨cs', h1, h2⟩ := s_fill (ρ := ρ) _ _ p1 p2 _ _ v.cells (VRs.consts ρ v) hf
  refine Comes.pure h (cv := .agg cs') ?_ (by simp only [VR]; exact ⟨cs'.toList, by simp, h2⟩) rfl rfl rfl rfl
  have hm' : (fs'.mapM (m := Sem) fun f => do pure (f.offset, ← sizeOf f.type)).run P w = .ok pl.toArray w := by
    rw [Array.mapM_eq_mapM_toList]
    simp only [Sem.run_map, run_places _ _ hpl, Result.andThen_ok]
  simp only [execOp, ho, Instr.build, Sem.run_bind, run_zeroValue hi hzv, Result.andThen_ok, run_underlying hu, hm', List.getElem?_toArray]
  simp only [h1, Sem.run_pure, Result.andThen_ok]

theorem s_build_array (t : TypeId) (parts : Array (Nat × Operand)) {o : Oper} (ho : o.op = .build t parts) {n : Nat} {e : TypeId} (ht : tk P t = some (.arr n e)) {z l : List AV} (hz : tzero P t = some z)
    {s : Nat} (hs : tsize P e = some s) (hf : fillA (fun i => some (i * s, s)) z (parts.toList.map fun p => (p.1, ev p.2)) = some l) : Comes P ρ g w (execOp cev o) (.agg l) {} := by
  have hu := tk_arr ht
  obtain ⟨i, v, hi, hzv, rfl⟩ := tzero_some hz
  obtain ⟨p1, p2⟩ := s_parts hev (ρ := ρ) parts
  obtain ⟨cs', h1, h2⟩ := s_fill (ρ := ρ) _ _ p1 p2 _ _ v.cells (VRs.consts ρ v) hf
  refine Comes.pure h (cv := .agg cs') ?_ (by simp only [VR]; exact ⟨cs'.toList, by simp, h2⟩) rfl rfl rfl rfl
  simp only [execOp, ho, Instr.build, Sem.run_bind, run_zeroValue hi hzv, Result.andThen_ok, run_underlying hu, run_sizeOf hs]
  simp only [h1, Sem.run_pure, Result.andThen_ok]

omit h hev in
theorem zeros_VRs {ρ : Rho} (v : Value) (n : Nat) (hv : 0 < v.cells.size ∨ n = 0) : VRs ρ (zeros (v.cells.toList.map constA) n) (((Array.range n).map fun i => v.cells[i % v.cells.size]!).toList) := by
  have key : VRs ρ ((List.range n).map fun i => (v.cells.toList.map constA).getD (i % (v.cells.toList.map constA).length) .top) (((Array.range n).map fun i => v.cells[i % v.cells.size]!).toList) := by
    refine VRs.of_get (by simp) fun i a hi => ?_
    simp only [List.getElem?_map, Option.map_eq_some_iff] at hi
    obtain ⟨j, hj, rfl⟩ := hi
    obtain ⟨hj1, hj2⟩ := List.getElem?_eq_some_iff.mp hj
    simp only [List.length_range] at hj1
    simp only [List.getElem_range] at hj2
    subst hj2
    refine ⟨v.cells[i % v.cells.size]!, by simp [hj1], ?_⟩
    have hpos : 0 < v.cells.size := by omega
    have hlt : i % v.cells.size < v.cells.size := Nat.mod_lt _ hpos
    have hg := (VRs.consts ρ v).get (i % v.cells.size) (constA v.cells[i % v.cells.size]) (by simp [hlt])
    obtain ⟨cv, h1, h2⟩ := hg
    simp only [Array.getElem?_toList, hlt, Array.getElem?_eq_getElem, Option.some.injEq] at h1
    subst h1
    simpa [hlt] using h2
  unfold zeros
  split
  · rename_i u hu
    have : (List.replicate n u) = (List.range n).map fun i => (v.cells.toList.map constA).getD (i % (v.cells.toList.map constA).length) .top := by
      rw [hu]
      refine List.ext_getElem (by simp) fun i h1 h2 => ?_
      simp [Nat.mod_one]
    rw [this]; exact key
  · exact key

theorem s_buildSlice (t : TypeId) (n : Nat) (parts : Array (Nat × Operand)) {o : Oper} (ho : o.op = .buildSlice t n parts) {nm : Nat} (hn : ρ (.o nm) = none) {e : TypeId} (ht : tk P t = some (.sl e)) {s : Nat} (hs : tsize P e = some s)
    {z l : List AV} (hz : tzero P e = some z) (hzl : 0 < z.length ∨ n * s = 0) (hb : n * s ≤ 2 ^ 24) (hf : fillA (fun i => some (i * s, s)) (zeros z (n * s)) (parts.toList.map fun p => (p.1, ev p.2)) = some l) :
    Comes P ρ g w (execOp cev o) (.sl (.o nm) 0 n s true) { newo := [(nm, l)] } := by
  have hu := tk_sl ht
  obtain ⟨i, v, hi, hzv, rfl⟩ := tzero_some hz
  obtain ⟨p1, p2⟩ := s_parts hev (ρ := ρ) parts
  have hz0 := zeros_VRs (ρ := ρ) v (n * s) (by simpa using hzl)
  obtain ⟨cs', h1, h2⟩ := s_fill (ρ := ρ) _ _ p1 p2 _ _ _ hz0 hf
  have hsize : cs'.size = n * s := by
    have hfl : ∀ (parts : List (Nat × AV)) (l l' : List AV), fillA (fun i => some (i * s, s)) l parts = some l' → l'.length = l.length := by
      intro parts
      induction parts with
      | nil => intro l l' hh; simp only [fillA, Option.some.injEq] at hh; rw [hh]
      | cons p ps ih =>
        intro l l' hh
        obtain ⟨i, v⟩ := p
        simp only [fillA] at hh
        split at hh
        · split at hh
          · rw [ih _ _ hh, patch_length]
          · cases hh
        · cases hh
    have e1 := h2.length
    have e2 := hfl _ _ _ hf
    have e3 := hz0.length
    simp only [Array.length_toList] at e1 e3
    simp at e3
    omega
  refine Comes.new hn (cs := cs') (ty := e) (cv := .slice (some ⟨w.heap.size, 0, none⟩) n n) ⟨h, Tr.refl _ _⟩ ?_ (fun j u hj => by simpa using h2.get j u hj) ?_
  · simp only [execOp, ho, Instr.buildSlice, Sem.run_bind, run_underlying hu, Result.andThen_ok, run_sizeOf hs]
    rw [if_neg (by omega)]
    by_cases h0 : n * s = 0
    · simp only [h0, if_true, Sem.run_bind, Sem.run_pure, Result.andThen_ok]
      have harr : ((Array.range 0).map fun x => (#[] : Array Value)[x % (#[] : Array Value).size]!) = ((Array.range (n * s)).map fun x => v.cells[x % v.cells.size]!) := by simp [h0]
      rw [harr]
      simp only [h1]
      simp [newRow]
    · simp only [h0, if_false, Sem.run_bind, Sem.run_pure, Result.andThen_ok, run_zeroValue hi hzv]
      simp only [h1]
      simp [newRow]
  · simp only [VR, Rho.upd, if_true, Option.some.injEq]
    exact .inl ⟨_, 0, n, rfl, rfl, fun _ => rfl, Nat.le_refl _, fun _ => rfl, by simp [hsize]⟩

end
end Go.Sym
