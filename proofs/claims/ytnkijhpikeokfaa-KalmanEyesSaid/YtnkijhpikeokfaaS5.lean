/- Each operation is sound (second part): loads, stores, fields, indexes, numbers, slices. -/
import Derived.Test.YtnkijhpikeokfaaS4
set_option linter.unusedSimpArgs false
set_option linter.unusedVariables false
namespace Go.Sym
open Go

section
variable {P : Program} {ρ : Rho} {g : Gh} {w : World} (h : SR ρ g w) {ev : Operand → AV} {cev : Operand → Value} (hev : ∀ x, VR ρ (ev x) (cev x))

include h in
theorem run_loadCells_SR {b : BId} {l : List AV} (hb : g b = some l) {cb : CB} (hc : ρ b = some cb) {off n : Nat} (hn : off + n ≤ l.length) :
    ∃ cs, (loadCells ⟨cb.blk, cb.sh + off, none⟩ n).run P w = .ok cs.toArray w ∧ VRs ρ ((l.drop off).take n) cs := by
  have hex : ∀ j, j < n → ∃ cv, w.cell? ⟨cb.blk, cb.sh + off + j, none⟩ = some cv ∧ ∀ v, l[off + j]? = some v → VR ρ v cv := by
    intro j hj
    obtain ⟨cv, h1, h2⟩ := SR.cell h hb hc (j := off + j) (v := l[off + j]'(by omega)) (by simp)
    refine ⟨cv, by rw [← h1]; congr 2; omega, fun v hv => ?_⟩
    rw [List.getElem?_eq_getElem (by omega)] at hv; cases hv; exact h2
  refine ⟨(List.range n).map fun j => (w.cell? ⟨cb.blk, cb.sh + off + j, none⟩).getD undef, ?_, ?_⟩
  · have := run_loadCells_list (P := P) w ⟨cb.blk, cb.sh + off, none⟩ ((List.range n).map fun j => (w.cell? ⟨cb.blk, cb.sh + off + j, none⟩).getD undef) (fun j v hj => by
      simp only [List.getElem?_map, Option.map_eq_some_iff] at hj
      obtain ⟨i, hi, rfl⟩ := hj
      obtain ⟨h1, h2⟩ := List.getElem?_eq_some_iff.mp hi
      simp only [List.length_range] at h1
      simp only [List.getElem_range] at h2
      subst h2
      obtain ⟨cv, h3, _⟩ := hex j h1
      rw [Addr.add_none, h3]; rfl)
    simpa using this
  · refine VRs.of_get (by simp; omega) fun j v hj => ?_
    rw [List.getElem?_take] at hj
    split at hj
    · rename_i hlt
      rw [List.getElem?_drop] at hj
      obtain ⟨cv, h3, h4⟩ := hex j hlt
      exact ⟨cv, by simp [hlt, h3], h4 v hj⟩
    · cases hj

include h hev in
theorem s_load_agg (t : TypeId) (a : Operand) {o : Oper} (ho : o.op = .load t a) {b : BId} {off : Nat} (ha : ev a = .ptr b off) {l : List AV} (hb : g b = some l) {k : TK} (hk : tk P t = some k) {n : Nat} (hn : tsize P t = some n)
    (hka : k.agg = true) (hl : off + n ≤ l.length) : Comes P ρ g w (execOp cev o) (.agg ((l.drop off).take n)) { rd := [(b, off, n)] } := by
  have h1 := hev a
  rw [ha] at h1
  simp only [VR] at h1
  obtain ⟨cb, hc, e⟩ := h1
  obtain ⟨cs, h2, h3⟩ := run_loadCells_SR h (P := P) hb hc hl
  refine Comes.pure h (cv := .agg cs.toArray) ?_ (by simp only [VR]; exact ⟨cs, rfl, h3⟩) rfl rfl rfl rfl
  simp [execOp, ho, Instr.loadAt, e, Instr.sureAddr, loadVar, run_isAgg hk, hka, run_sizeOf hn, h2]

include h hev in
theorem s_load (t : TypeId) (a : Operand) {o : Oper} (ho : o.op = .load t a) {b : BId} {off : Nat} (ha : ev a = .ptr b off) {l : List AV} (hb : g b = some l) {k : TK} (hk : tk P t = some k)
    (hka : k.agg = false) {v : AV} (hl : l[off]? = some v) : Comes P ρ g w (execOp cev o) v { rd := [(b, off, 1)] } := by
  have h1 := hev a
  rw [ha] at h1
  simp only [VR] at h1
  obtain ⟨cb, hc, e⟩ := h1
  obtain ⟨cv, h2, h3⟩ := SR.cell h hb hc hl
  refine Comes.pure h (cv := cv) ?_ h3 rfl rfl rfl rfl
  simp [execOp, ho, Instr.loadAt, e, Instr.sureAddr, loadVar, run_isAgg hk, hka, h2]

theorem run_storeCells_SR {n : Nat} {cb : CB} (hc : ρ (.o n) = some cb) : ∀ (cs : List AV) (vs : List Value) (_ : VRs ρ cs vs) (_ : cs.all AV.scalar = true) (off i : Nat) (g : Gh) (w : World) (_ : SR ρ g w) (l : List AV) (_ : g (.o n) = some l)
    (_ : off + i + cs.length ≤ l.length), ∃ w', (storeCells ⟨cb.blk, cb.sh + off, none⟩ vs i).run P w = .ok () w' ∧ SR ρ (g.upd (.o n) (some (patch l (off + i) cs))) w' ∧ Tr ρ ρ w w'
  | [], vs, hvs, _, off, i, g, w, h, l, hl, _ => by
    simp only [VRs] at hvs; subst hvs
    refine ⟨w, rfl, ?_, Tr.refl _ _⟩
    have : g.upd (.o n) (some (patch l (off + i) [])) = g := by
      funext b; unfold Gh.upd; split
      · rename_i e; subst e; exact hl.symm
      · rfl
    rw [this]; exact h
  | c :: cs, vs, hvs, hs, off, i, g, w, h, l, hl, hlen => by
    simp only [VRs] at hvs
    obtain ⟨v, vs', rfl, hv, hvs⟩ := hvs
    simp only [List.all_cons, Bool.and_eq_true] at hs
    simp only [List.length_cons] at hlen
    obtain ⟨h1, h2, ⟨u, h3⟩, h4⟩ := SR.setCell h hl hc (j := off + i) (by omega) hv
    obtain ⟨w', h5, h6, h7⟩ := run_storeCells_SR hc cs vs' hvs hs.2 off (i + 1) _ _ h1 (l.set (off + i) c) (by simp [Gh.upd]) (by simp; omega)
    refine ⟨w', ?_, ?_, h2.trans h7⟩
    · simp only [storeCells, Sem.run_bind, Addr.add_none, run_store P w _ v _ (hv.oneCell hs.1)]
      have e : cb.sh + off + i = cb.sh + (off + i) := by omega
      rw [e, h3]
      simp only [h4, Bool.false_eq_true, if_false, Result.andThen_ok]
      exact h5
    · have e : (g.upd (.o n) (some (l.set (off + i) c))).upd (.o n) (some (patch (l.set (off + i) c) (off + (i + 1)) cs)) = g.upd (.o n) (some (patch l (off + i) (c :: cs))) := by
        funext b; unfold Gh.upd; split <;> rfl
      rw [← e]; exact h6

theorem Eff.app_wr (g : Gh) (rd : List (BId × Nat × Nat)) (n off : Nat) (cs l : List AV) (hl : g (.o n) = some l) : ({ rd := rd, wr := [(n, off, cs)] } : Eff).app g = g.upd (.o n) (some (patch l off cs)) := by
  funext b
  cases b with
  | r m => simp [Eff.app, lk, Gh.upd]
  | o m =>
    simp only [Eff.app, lk, Gh.upd]
    by_cases e : n = m
    · subst e; simp [hl, patchAll]
    · have e' : ¬ (BId.o m = BId.o n) := fun h => e (by cases h; rfl)
      simp only [e', if_false]
      cases g (BId.o m) <;> simp [patchAll, e]

include h hev in
theorem s_store (t : TypeId) (a x : Operand) {o : Oper} (ho : o.op = .store t a x) {n off : Nat} (ha : ev a = .ptr (.o n) off) {cs : List AV} (hcs : (ev x).cells? = some cs) {l : List AV} (hb : g (.o n) = some l)
    (hsz : tsize P t = some cs.length) (hl : off + cs.length ≤ l.length) (hs : cs.all AV.scalar = true) : Comes P ρ g w (execOp cev o) (.tuple []) { wr := [(n, off, cs)] } := by
  have h1 := hev a
  rw [ha] at h1
  simp only [VR] at h1
  obtain ⟨cb, hc, e⟩ := h1
  have h2 := VR.cells (hev x) hcs
  obtain ⟨w', h3, h4, h5⟩ := run_storeCells_SR (P := P) hc cs _ h2 hs off 0 g w h l hb (by omega)
  refine ⟨.skip, w', ρ, ?_, .inr ⟨rfl, rfl⟩, by rw [Eff.app_wr g [] n off cs l hb]; simpa using h4, h5, fun b hb _ => hb⟩
  have hlen := h2.length
  simp only [Array.length_toList] at hlen
  simp [execOp, ho, Instr.storeAt, e, Instr.sureAddr, storeVar, run_sizeOf hsz, hlen, h3]

include h hev

theorem s_nilCheck (x : Operand) {o : Oper} (ho : o.op = .nilCheck x) (hx : (∃ b off, ev x = .ptr b off) ∨ ∃ f a b, ev x = .func f a b) : Comes P ρ g w (execOp cev o) (ev x) {} := by
  refine Comes.pure h (cv := cev x) ?_ (hev x) rfl rfl rfl rfl
  have h1 := hev x
  rcases hx with ⟨b, off, e⟩ | ⟨f, a, b, e⟩
  · rw [e] at h1; simp only [VR] at h1
    obtain ⟨cb, _, e⟩ := h1
    simp [execOp, ho, e]
  · rw [e] at h1; simp only [VR] at h1
    obtain ⟨a', b', e, _⟩ := h1
    simp [execOp, ho, e]

theorem s_fieldAddr (t : TypeId) (x : Operand) (f : Nat) {o : Oper} (ho : o.op = .fieldAddr t x f) {b : BId} {off : Nat} (hx : ev x = .ptr b off) {fs : List (Nat × TypeId)} (ht : tk P t = some (.st fs)) {oo : Nat} {ft : TypeId}
    (hf : fs[f]? = some (oo, ft)) {s : Nat} (hs : tsize P ft = some s) (hs0 : s ≠ 0) : Comes P ρ g w (execOp cev o) (.ptr b (off + oo)) {} := by
  obtain ⟨fs', hu, rfl⟩ := tk_st ht
  simp only [List.getElem?_map, Option.map_eq_some_iff, Prod.mk.injEq, Array.getElem?_toList] at hf
  obtain ⟨fd, hfd, rfl, rfl⟩ := hf
  have h1 := hev x
  rw [hx] at h1
  simp only [VR] at h1
  obtain ⟨cb, hc, e⟩ := h1
  refine Comes.pure h (cv := .pointer (some ⟨cb.blk, cb.sh + off + fd.offset, none⟩)) ?_ (by simp only [VR]; exact ⟨cb, hc, by rw [Nat.add_assoc]⟩) rfl rfl rfl rfl
  simp [execOp, ho, Instr.fieldAt, run_underlying hu, hfd, e, Instr.sureAddr, fieldPlace, run_sizeOf hs, hs0, Addr.add_none]

theorem s_field (t : TypeId) (x : Operand) (f : Nat) {o : Oper} (ho : o.op = .field t x f) {l : List AV} (hx : ev x = .agg l) {fs : List (Nat × TypeId)} (ht : tk P t = some (.st fs)) {oo : Nat} {ft : TypeId}
    (hf : fs[f]? = some (oo, ft)) {v : AV} (hp : part? P ft l oo = some v) : Comes P ρ g w (execOp cev o) v {} := by
  obtain ⟨fs', hu, rfl⟩ := tk_st ht
  simp only [List.getElem?_map, Option.map_eq_some_iff, Prod.mk.injEq, Array.getElem?_toList] at hf
  obtain ⟨fd, hfd, rfl, rfl⟩ := hf
  have h1 := hev x
  rw [hx] at h1
  simp only [VR] at h1
  obtain ⟨cs, e, hcs⟩ := h1
  obtain ⟨cv, h2, h3⟩ := run_part h hcs hp
  refine Comes.pure h (cv := cv) ?_ h3 rfl rfl rfl rfl
  simp [execOp, ho, Instr.field, run_underlying hu, hfd, e, asAgg, h2]

theorem s_indexAddr_sl (t : TypeId) (x i : Operand) {o : Oper} (ho : o.op = .indexAddr t x i) {e : TypeId} (ht : tk P t = some (.sl e)) {b : BId} {off n z : Nat} {full : Bool} (hx : ev x = .sl b off n z full) {k : IntKind} {j : Int}
    (hi : ev i = .int k j) {s : Nat} (hs : tsize P e = some s) (h0 : 0 ≤ j) (h1 : j < n) : Comes P ρ g w (execOp cev o) (.ptr b (off + j.toNat * s)) {} := by
  have hu := tk_sl ht
  have e1 := hev x
  rw [hx] at e1
  simp only [VR] at e1
  rcases e1 with ⟨cb, y, cap, hc, e1, hy, _⟩ | ⟨e0, _⟩
  case inr => omega
  have e2 := hev i
  rw [hi] at e2
  simp only [VR] at e2
  have hy := hy (by omega)
  subst hy
  refine Comes.pure h (cv := .pointer (some ⟨cb.blk, cb.sh + off + j.toNat * s, none⟩)) ?_ (by simp only [VR]; exact ⟨cb, hc, by rw [Nat.add_assoc]⟩) rfl rfl rfl rfl
  simp [execOp, ho, Instr.indexAt, asIntOf, run_underlying hu, e1, e2, h0, h1, run_sizeOf hs, Addr.add_none]

theorem s_indexAddr_arr (t : TypeId) (x i : Operand) {o : Oper} (ho : o.op = .indexAddr t x i) {e : TypeId} {n : Nat} (ht : tk P t = some (.arr n e)) {b : BId} {off : Nat} (hx : ev x = .ptr b off) {k : IntKind} {j : Int}
    (hi : ev i = .int k j) {s : Nat} (hs : tsize P e = some s) (h0 : 0 ≤ j) (h1 : j < n) : Comes P ρ g w (execOp cev o) (.ptr b (off + j.toNat * s)) {} := by
  have hu := tk_arr ht
  have e1 := hev x
  rw [hx] at e1
  simp only [VR] at e1
  obtain ⟨cb, hc, e1⟩ := e1
  have e2 := hev i
  rw [hi] at e2
  simp only [VR] at e2
  refine Comes.pure h (cv := .pointer (some ⟨cb.blk, cb.sh + off + j.toNat * s, none⟩)) ?_ (by simp only [VR]; exact ⟨cb, hc, by rw [Nat.add_assoc]⟩) rfl rfl rfl rfl
  simp [execOp, ho, Instr.indexAt, asIntOf, run_underlying hu, e1, e2, h0, h1, run_sizeOf hs, Addr.add_none, Instr.sureAddr]

theorem s_index (t : TypeId) (x i : Operand) {o : Oper} (ho : o.op = .index t x i) {e : TypeId} {n : Nat} (ht : tk P t = some (.arr n e)) {l : List AV} (hx : ev x = .agg l) {k : IntKind} {j : Int}
    (hi : ev i = .int k j) {s : Nat} (hs : tsize P e = some s) (h0 : 0 ≤ j) (h1 : j < n) {v : AV} (hp : part? P e l (j.toNat * s) = some v) : Comes P ρ g w (execOp cev o) v {} := by
  have hu := tk_arr ht
  have e1 := hev x
  rw [hx] at e1
  simp only [VR] at e1
  obtain ⟨cs, e1, hcs⟩ := e1
  have e2 := hev i
  rw [hi] at e2
  simp only [VR] at e2
  obtain ⟨cv, h2, h3⟩ := run_part h hcs hp
  refine Comes.pure h (cv := cv) ?_ h3 rfl rfl rfl rfl
  simp [execOp, ho, Instr.index, asIntOf, run_underlying hu, e1, e2, h0, h1, run_sizeOf hs, h2]

theorem s_extract (x : Operand) (i : Nat) {o : Oper} (ho : o.op = .extract x i) {l : List AV} (hx : ev x = .tuple l) {v : AV} (hv : l[i]? = some v) : Comes P ρ g w (execOp cev o) v {} := by
  have e1 := hev x
  rw [hx] at e1
  simp only [VR] at e1
  obtain ⟨cs, e1, hcs⟩ := e1
  obtain ⟨cv, h2, h3⟩ := hcs.get i v hv
  refine Comes.pure h (cv := cv) ?_ h3 rfl rfl rfl rfl
  simp [execOp, ho, Instr.extract, e1, h2]

theorem s_makeFunc (f : FuncId) (first cap : Array Operand) {o : Oper} (ho : o.op = .makeFunc (.func f) first cap) : Comes P ρ g w (execOp cev o) (.func f (first.toList.map ev) (cap.toList.map ev)) {} := by
  have hm : ∀ (xs : Array Operand), VRs ρ (xs.toList.map ev) (xs.toList.map cev) := fun xs =>
    VRs.of_get (by simp) fun i v hi => by
      simp only [List.getElem?_map, Option.map_eq_some_iff] at hi ⊢
      obtain ⟨a, ha, rfl⟩ := hi
      exact ⟨_, ⟨a, ha, rfl⟩, hev a⟩
  refine Comes.pure h (cv := .func (.func f) (first.map cev) (cap.map cev)) ?_ ?_ rfl rfl rfl rfl
  · simp [execOp, ho, Instr.makeFunc]
  · simp only [VR]
    have ha : ∀ xs : Array Operand, xs.map cev = (xs.toList.map cev).toArray := fun xs => by apply Array.ext'; simp
    exact ⟨first.toList.map cev, cap.toList.map cev, by rw [ha, ha], hm first, hm cap⟩

theorem s_convert (src dst : TypeId) (x : Operand) {o : Oper} (ho : o.op = .convert src dst x) {k0 : TK} (hs : tk P src = some k0) {k k' : IntKind} (hd : tk P dst = some (.int k)) {n : Int} (hx : ev x = .int k' n) :
    Comes P ρ g w (execOp cev o) (.int k (k.wrap n)) {} := by
  obtain ⟨d, hd0, _⟩ := tk_some hs
  have hu := tk_int hd
  have e1 := hev x
  rw [hx] at e1
  simp only [VR] at e1
  refine Comes.pure h (cv := .int k (k.wrap n)) ?_ (by simp [VR]) rfl rfl rfl rfl
  simp [execOp, ho, convert, run_underlying hd0, run_underlying hu, e1, Conv.intToInt]

theorem s_unOp (op : UnOp) (t : TypeId) (x : Operand) {o : Oper} (ho : o.op = .unOp op t x) {v : AV} (hv : unA op (ev x) = some v) : Comes P ρ g w (execOp cev o) v {} := by
  have e1 := hev x
  unfold unA at hv
  split at hv
  · rename_i k n hx
    rw [hx] at e1; simp only [VR] at e1
    cases hv
    refine Comes.pure h (cv := .int k (k.wrap (0 - n))) ?_ (by simp [VR]) rfl rfl rfl rfl
    simp [execOp, ho, Op.unary, e1, Op.intArith]
  · rename_i b hx
    rw [hx] at e1; simp only [VR] at e1
    cases hv
    refine Comes.pure h (cv := .bool (!b)) ?_ (by simp [VR]) rfl rfl rfl rfl
    simp [execOp, ho, Op.unary, e1]
  · cases hv

end
end Go.Sym
