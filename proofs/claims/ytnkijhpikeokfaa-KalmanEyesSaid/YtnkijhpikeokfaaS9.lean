/- Each operation is sound (sixth part): len, min, max, append, copy; then all of them together. -/
import Derived.Test.YtnkijhpikeokfaaS8
set_option linter.unusedSimpArgs false
set_option linter.unusedVariables false
namespace Go.Sym
open Go

section
variable {P : Program} {ρ : Rho} {g : Gh} {w : World} (h : SR ρ g w)

theorem len_run {t : TypeId} {ts : List TypeId} {ty : TypeId} {x : AV} {cx : Value} {xs : List Value} (hx : VR ρ x cx) {k : TK} (ht : tk P t = some k) {n : Int}
    (hn : (∃ e b off m z f, k = .sl e ∧ x = .sl b off m z f ∧ n = m) ∨ (∃ e, k = .sl e ∧ x = .nilsl ∧ n = 0) ∨ (∃ s, k = .str ∧ x = .str s ∧ n = s.size) ∨ (∃ m e, k = .arr m e ∧ n = m)) :
    (Builtin.len_ (t :: ts).toArray ty (cx :: xs).toArray).run P w = .ok (.int .i64 n) w := by
  rcases hn with ⟨e, b, off, m, z, f, rfl, rfl, rfl⟩ | ⟨e, rfl, rfl, rfl⟩ | ⟨s, rfl, rfl, rfl⟩ | ⟨m, e, rfl, rfl⟩
  · have hu := tk_sl ht
    simp only [VR] at hx
    rcases hx with ⟨cb, y, cap, _, rfl, _⟩ | ⟨rfl, rfl⟩ <;> simp [Builtin.len_, run_underlying hu, goInt]
  · have hu := tk_sl ht
    simp only [VR] at hx
    subst hx
    simp [Builtin.len_, run_underlying hu, goInt]
  · have hu := tk_str ht
    simp only [VR] at hx
    subst hx
    simp [Builtin.len_, run_underlying hu, goInt]
  · have hu := tk_arr ht
    simp [Builtin.len_, run_underlying hu, goInt]

include h
/-- the cells of a slice that stands to a row of cells, read -/
theorem firstCells_SR {b : BId} {off n m z cap : Nat} {y : Nat} {l : List AV} (hb : g b = some l) {cb : CB} (hc : ρ b = some cb) (hy : m ≠ 0 → y = cb.sh + off) (hm : m ≠ 0 ∨ n * z = 0) (hl : off + n * z ≤ l.length) :
    ∃ cs, (Builtin.firstCells z n (.slice (some ⟨cb.blk, y, none⟩) m cap)).run P w = .ok cs.toArray w ∧ VRs ρ ((l.drop off).take (n * z)) cs := by
  by_cases h0 : n * z = 0
  · refine ⟨[], ?_, by rw [h0]; simp [VRs]⟩
    simp [Builtin.firstCells, h0, loadCells, loadCellsFrom]
  · have := hy (by omega)
    subst this
    exact run_loadCells_SR h hb hc hl

theorem SR.growCells {n : Nat} (hn : ρ (.o n) = none) {l : List AV} {cs : List Value} (hl : VRs ρ l cs) {rest : Array Value} (ty : TypeId) :
    SR (ρ.upd (.o n) ⟨w.drew.heap.size, 0, (cs.toArray ++ rest).size⟩) (g.upd (.o n) (some l)) (w.drew.alloc (.cells (cs.toArray ++ rest) ty)) ∧
    Tr ρ (ρ.upd (.o n) ⟨w.drew.heap.size, 0, (cs.toArray ++ rest).size⟩) w (w.drew.alloc (.cells (cs.toArray ++ rest) ty)) := by
  have h2 := SR.alloc h.drew hn (cs := cs.toArray ++ rest) (l := l) _ rfl (fun j v hj => by
    obtain ⟨cv, h1, h2⟩ := hl.get j v hj
    refine ⟨cv, ?_, h2⟩
    rw [Array.getElem?_append_left (by simpa using (List.getElem?_eq_some_iff.mp h1).1)]
    simpa using h1) ty
  exact ⟨h2.1, (Tr.drew ρ w).trans h2.2⟩

theorem Comes.grow {s : Sem Next} {rd : List (BId × Nat × Nat)} {n : Nat} {l : List AV} (hn : ρ (.o n) = none) {cs : List Value} {rest : Array Value} {ty : TypeId} {len cap z : Nat}
    (hr : s.run P w = .ok (.value (.slice (some ⟨w.heap.size, 0, none⟩) len cap)) (w.drew.alloc (.cells (cs.toArray ++ rest) ty))) (hl : VRs ρ l cs) (hcap : len ≤ cap) (hsz : cap * z ≤ (cs.toArray ++ rest).size) :
    Comes P ρ g w s (.sl (.o n) 0 len z false) { rd := rd, newo := [(n, l)] } := by
  obtain ⟨h1, h2⟩ := SR.growCells h hn hl (rest := rest) ty
  refine ⟨_, _, _, hr, .inl ⟨_, rfl, ?_⟩, by rw [Eff.app_new]; exact h1, h2, fun b hb he => ?_⟩
  · simp only [VR, Rho.upd, if_true, Option.some.injEq]
    exact .inl ⟨_, 0, cap, rfl, rfl, fun _ => rfl, hcap, (by simp), (by simpa using hsz)⟩
  · unfold Rho.upd
    split
    · rename_i e; subst e; simp [Eff.news, lk] at he
    · exact hb

omit h in
theorem append_grow_run {t u ty e e' : TypeId} {i : TypeInfo} {z : Value} (ht : P.underlying t = some (.slice e)) (hu : P.underlying u = some (.slice e')) (hi : P.info? e = some i) (hz : i.zero = some z)
    (base : Option Addr) (sLen sCap n c : Nat) (b : Addr) {olds news : List Value} (ho : (Builtin.firstCells i.size sLen (.slice base sLen sCap)).run P w.drew = .ok olds.toArray w.drew)
    (hn : (Builtin.firstCells i.size n (.slice (some b) n c)).run P w.drew = .ok news.toArray w.drew) (hg : sCap < sLen + n) (h63 : sLen + n ≤ 2 ^ 46) (h48 : (sLen + n) * i.bytes ≤ 2 ^ 46) :
    (Builtin.append_ #[t, u] ty #[.slice base sLen sCap, .slice (some b) n c]).run P w =
      .ok (.slice (some ⟨w.heap.size, 0, none⟩) (sLen + n) (grownCap w (sLen + n) sCap e))
        (w.drew.alloc (.cells ((olds ++ news).toArray ++ Builtin.zeroCells z.cells (grownCap w (sLen + n) sCap e - (sLen + n))) e)) := by
  have hn' : ¬ (sLen + n ≤ sCap) := by omega
  have h63' : ¬ (9223372036854775807 < ((sLen : Int) + (n : Int))) := by omega
  have h48' : ¬ (281474976710656 < Builtin.nextslicecap (sLen + n) sCap * i.bytes) := by
    have := growslice_fits (need := sLen + n) (old := sCap) (bytes := i.bytes) hg (by omega)
    omega
  simp [Builtin.append_, run_underlying ht, run_underlying hu, sizeOf, typeInfo, zeroValue, hi, hz, Builtin.lenOf, hn', h63', h48', Question.forced, hn, ho, newRow, grownCap]
  congr 2
  apply Array.ext'
  simp [List.append_assoc]

omit h in
theorem append_room_run {t u ty e e' : TypeId} {i : TypeInfo} (ht : P.underlying t = some (.slice e)) (hu : P.underlying u = some (.slice e')) (hi : P.info? e = some i)
    (a : Addr) (sLen sCap n c : Nat) (b : Addr) {news : List Value} {w' : World}
    (hn : (Builtin.firstCells i.size n (.slice (some b) n c)).run P w = .ok news.toArray w) (hg : sLen + n ≤ sCap) (hst : (storeCells (a.add (sLen * i.size)) news 0).run P w = .ok () w') :
    (Builtin.append_ #[t, u] ty #[.slice (some a) sLen sCap, .slice (some b) n c]).run P w = .ok (.slice (some a) (sLen + n) sCap) w' := by
  simp [Builtin.append_, run_underlying ht, run_underlying hu, sizeOf, typeInfo, hi, Builtin.lenOf, hg, hn, hst]

omit h in
theorem append_none_run {t u ty e e' : TypeId} {i : TypeInfo} (ht : P.underlying t = some (.slice e)) (hu : P.underlying u = some (.slice e')) (hi : P.info? e = some i)
    (base : Option Addr) (sLen sCap : Nat) (x : Value) (hx : (x = .slice none 0 0) ∨ ∃ b c, x = .slice (some b) 0 c) (hc : sLen ≤ sCap) :
    (Builtin.append_ #[t, u] ty #[.slice base sLen sCap, x]).run P w = .ok (.slice base sLen sCap) w := by
  rcases hx with rfl | ⟨b, c, rfl⟩ <;> cases base <;>
    simp [Builtin.append_, run_underlying ht, run_underlying hu, sizeOf, typeInfo, hi, Builtin.lenOf, hc, Builtin.firstCells, loadCells, loadCellsFrom, storeCells]

omit h in
theorem tsize_info {t : TypeId} {n : Nat} (hs : tsize P t = some n) : ∃ i, P.info? t = some i ∧ i.size = n := by
  unfold tsize at hs
  cases hi : P.info? t with
  | none => simp [hi] at hs
  | some i => simp [hi] at hs; exact ⟨i, rfl, hs⟩

omit h in
theorem zeroCells_size (z : Array Value) (n : Nat) : (Builtin.zeroCells z n).size = n * z.size := by simp [Builtin.zeroCells]

omit h in
theorem grownCap_le' (w : World) (need old : Nat) (e : TypeId) : need ≤ grownCap w need old e := by
  simp only [grownCap, Question.cut]; omega


def clip (l : List AV) (off n : Nat) : List AV := (l.drop off).take n

omit h in
theorem Eff.app_kill (g : Gh) (rd : List (BId × Nat × Nat)) (n k : Nat) (l : List AV) : ({ rd := rd, kill := [k], newo := [(n, l)] } : Eff).app g = (g.upd (.o k) none).upd (.o n) (some l) := by
  funext b
  cases b with
  | r m => simp [Eff.app, lk, Gh.upd]
  | o m =>
    simp only [Eff.app, lk, Gh.upd]
    by_cases e : n = m
    · subst e; simp
    · have e' : ¬ (BId.o m = BId.o n) := fun h => e (by cases h; rfl)
      simp only [e, if_false, e']
      by_cases ek : m = k
      · subst ek; simp
      · have ek' : ¬ (BId.o m = BId.o k) := fun h => ek (by cases h; rfl)
        simp only [ek', if_false]
        cases g (BId.o m) <;> simp [patchAll, ek]

/-- append onto nothing -/
theorem s_append_nil {t u ty e e' : TypeId} {z by_ : Nat} (ht : tk P t = some (.sl e)) (hu : tk P u = some (.sl e')) (hz : tsize P e = some z) (hby : tbytes P e = some by_) {z0 : List AV} (hz0 : tzero P e = some z0) (hzl : z0.length = z)
    {b : BId} {off n z' : Nat} {f : Bool} {x : Value} (hx : VR ρ (.sl b off n z' f) x) (hn : n ≠ 0) {l : List AV} (hb : g b = some l) (hl : off + n * z ≤ l.length)
    (h1 : n * by_ ≤ 2 ^ 46) (h2 : n ≤ 2 ^ 46) {nm : Nat} (hnm : ρ (.o nm) = none) {rd : List (BId × Nat × Nat)} {s : Sem Next} (hs : s = (do pure (.value (← Builtin.append_ #[t, u] ty #[.slice none 0 0, x])))) :
    Comes P ρ g w s (.sl (.o nm) 0 n z false) { rd := rd, newo := [(nm, clip l off (n * z))] } := by
  obtain ⟨i, hi, rfl⟩ := tsize_info hz
  have hbyi : i.bytes = by_ := by simpa [tbytes, hi] using hby
  obtain ⟨i', v, hi', hzv, rfl⟩ := tzero_some hz0
  rw [hi] at hi'; cases hi'
  simp only [VR] at hx
  rcases hx with ⟨cb, y, cap, hc, rfl, hy, hcap, _, _⟩ | ⟨e0, _⟩
  case inr => exact absurd e0 hn
  obtain ⟨cs, hr, hcs⟩ := firstCells_SR h.drew (P := P) hb hc (cap := cap) (m := n) hy (.inl hn) hl
  have ho : (Builtin.firstCells i.size 0 (.slice none 0 0)).run P w.drew = .ok ([] : List Value).toArray w.drew := by simp [Builtin.firstCells]
  have hrun := append_grow_run (ty := ty) (tk_sl ht) (tk_sl hu) hi hzv none 0 0 n cap ⟨cb.blk, y, none⟩ ho hr (by omega) (by omega) (by rw [hbyi]; simpa using h1)
  have hlen := hcs.length
  have hlen2 : (clip l off (n * i.size)).length = n * i.size := by simp [clip]; omega
  have hg := grownCap_le' w n 0 e
  refine Comes.grow h hnm (cs := cs) (rest := Builtin.zeroCells v.cells (grownCap w n 0 e - n)) (ty := e) (cap := grownCap w n 0 e) ?_ hcs hg ?_
  · rw [hs]
    simp only [Nat.zero_add, List.nil_append] at hrun
    simp [hrun]
  · have hvz : v.cells.size = i.size := by simpa using hzl
    have e1 : grownCap w n 0 e * i.size = n * i.size + (grownCap w n 0 e - n) * i.size := by rw [← Nat.add_mul]; congr 1; omega
    simp only [Array.size_append, List.size_toArray, zeroCells_size, hvz]
    change (clip l off (n * i.size)).length = _ at hlen2
    rw [e1]
    unfold clip at hlen2
    omega

omit h in
theorem clip_VRs {l : List AV} {cs : List Value} (h : VRs ρ l cs) (off n : Nat) : VRs ρ (clip l off n) ((cs.drop off).take n) := (h.drop off).take n

/-- append onto a row that is full: a new row -/
theorem s_append_grow {t u ty e e' : TypeId} {z by_ : Nat} (ht : tk P t = some (.sl e)) (hu : tk P u = some (.sl e')) (hz : tsize P e = some z) (hby : tbytes P e = some by_) {z0 : List AV} (hz0 : tzero P e = some z0) (hzl : z0.length = z)
    {b : BId} {off n z' : Nat} {f : Bool} {x : Value} (hx : VR ρ (.sl b off n z' f) x) (hn : n ≠ 0) {l : List AV} (hb : g b = some l) (hl : off + n * z ≤ l.length)
    {b2 : BId} {off2 m z2 : Nat} {f2 : Bool} {x2 : Value} (hx2 : VR ρ (.sl b2 off2 m z2 f2) x2) {l2 : List AV} (hb2 : g b2 = some l2) (hl2 : off2 + m * z ≤ l2.length)
    (h1 : (m + n) * by_ ≤ 2 ^ 46) (h2 : m + n ≤ 2 ^ 46) {nm : Nat} (hnm : ρ (.o nm) = none) {rd : List (BId × Nat × Nat)} {s : Sem Next} (hs : s = (do pure (.value (← Builtin.append_ #[t, u] ty #[x2, x]))))
    (hroom : ∀ base cap, x2 = .slice base m cap → cap < m + n) :
    Comes P ρ g w s (.sl (.o nm) 0 (m + n) z false) { rd := rd, newo := [(nm, clip l2 off2 (m * z) ++ clip l off (n * z))] } := by
  obtain ⟨i, hi, rfl⟩ := tsize_info hz
  have hbyi : i.bytes = by_ := by simpa [tbytes, hi] using hby
  obtain ⟨i', v, hi', hzv, rfl⟩ := tzero_some hz0
  rw [hi] at hi'; cases hi'
  have hx0 := hx
  simp only [VR] at hx hx2
  rcases hx2 with ⟨cb2, y2, cap2, hc2, rfl, hy2, hcap2, _, _⟩ | ⟨e0, rfl⟩
  case inr =>
    subst e0
    have hnil := s_append_nil (nm := nm) (rd := rd) h ht hu hz hby hz0 hzl hx0 hn hb hl (by simpa using h1) (by simpa using h2) hnm hs
    simpa [clip] using hnil
  rcases hx with ⟨cb, y, cap, hc, rfl, hy, hcap, _, _⟩ | ⟨e0, _⟩
  case inr => exact absurd e0 hn
  obtain ⟨cs, hr, hcs⟩ := firstCells_SR h.drew (P := P) hb hc (cap := cap) (m := n) hy (.inl hn) hl
  obtain ⟨cs2, hr2, hcs2⟩ := firstCells_SR h.drew (P := P) hb2 hc2 (cap := cap2) (m := m) (n := m) (z := i.size) hy2 (by by_cases e : m = 0 <;> simp [e]) hl2
  have hrun := append_grow_run (ty := ty) (tk_sl ht) (tk_sl hu) hi hzv (some ⟨cb2.blk, y2, none⟩) m cap2 n cap ⟨cb.blk, y, none⟩ hr2 hr (hroom _ _ rfl) h2 (by rw [hbyi]; exact h1)
  have hlen := hcs.length
  have hlen2 := hcs2.length
  have k1 : (List.take (n * i.size) (List.drop off l)).length = n * i.size := by simp; omega
  have k2 : (List.take (m * i.size) (List.drop off2 l2)).length = m * i.size := by simp; omega
  have hg := grownCap_le' w (m + n) cap2 e
  refine Comes.grow h hnm (cs := cs2 ++ cs) (rest := Builtin.zeroCells v.cells (grownCap w (m + n) cap2 e - (m + n))) (ty := e) (cap := grownCap w (m + n) cap2 e) ?_ (hcs2.append hcs) hg ?_
  · rw [hs]; simp [hrun]
  · have hvz : v.cells.size = i.size := by simpa using hzl
    have e1 : grownCap w (m + n) cap2 e * i.size = m * i.size + n * i.size + (grownCap w (m + n) cap2 e - (m + n)) * i.size := by rw [← Nat.add_mul, ← Nat.add_mul]; congr 1; omega
    simp only [Array.size_append, List.size_toArray, zeroCells_size, hvz, List.length_append]
    rw [e1]
    omega

/-- append into the room behind a row of one's own: its old name is over -/
theorem s_append_room {t u ty e e' : TypeId} {z : Nat} (ht : tk P t = some (.sl e)) (hu : tk P u = some (.sl e')) (hz : tsize P e = some z)
    {b : BId} {off n z' : Nat} {f : Bool} {x : Value} (hx : VR ρ (.sl b off n z' f) x) (hn : n ≠ 0) {l : List AV} (hb : g b = some l) (hl : off + n * z ≤ l.length) (hsc : (clip l off (n * z)).all AV.scalar = true)
    {k off2 m : Nat} {f2 : Bool} {x2 : Value} (hx2 : VR ρ (.sl (.o k) off2 m z f2) x2) {l2 : List AV} (hb2 : g (.o k) = some l2) (hl2 : off2 + m * z ≤ l2.length)
    {nm : Nat} (hnm : ρ (.o nm) = none) {rd : List (BId × Nat × Nat)} {s : Sem Next} (hs : s = (do pure (.value (← Builtin.append_ #[t, u] ty #[x2, x]))))
    (hroom : ∀ base cap, x2 = .slice base m cap → m + n ≤ cap) :
    Comes P ρ g w s (.sl (.o nm) 0 (m + n) z false) { rd := rd, kill := [k], newo := [(nm, clip l2 off2 (m * z) ++ clip l off (n * z))] } := by
  obtain ⟨i, hi, rfl⟩ := tsize_info hz
  have hx2' := hx2
  simp only [VR] at hx hx2
  rcases hx with ⟨cb, y, cap, hc, rfl, hy, hcap, _, _⟩ | ⟨e0, _⟩
  case inr => exact absurd e0 hn
  rcases hx2 with ⟨cb2, y2, cap2, hc2, rfl, hy2, hcap2, _, hown2⟩ | ⟨e0, rfl⟩
  case inr =>
    subst e0
    have := hroom _ _ rfl
    omega
  have hroom := hroom _ _ rfl
  obtain ⟨cs, hr, hcs⟩ := firstCells_SR h (P := P) hb hc (cap := cap) (m := n) hy (.inl hn) hl
  obtain ⟨cb', ca, ty', fz, k1, k2, k3, k6, k4⟩ := h.cells _ _ hb2 (fun _ => rfl)
  rw [hc2] at k1; cases k1
  obtain ⟨k5, rfl⟩ := k4 rfl
  have hlen := hcs.length
  have hcl : (List.take (n * i.size) (List.drop off l)).length = n * i.size := by simp; omega
  have hcap2z : (m + n) * i.size ≤ cap2 * i.size := Nat.mul_le_mul_right _ hroom
  have hmn : (m + n) * i.size = m * i.size + n * i.size := Nat.add_mul _ _ _
  -- the row as seen from the slice's beginning, all of it
  have hk2 : ρ.le ((ρ.upd (.o nm) ⟨cb2.blk, y2, cb2.sz⟩)) := Rho.le_upd hnm _
  let L : List AV := clip l2 off2 (m * i.size) ++ List.replicate (n * i.size) .top
  have hL : L.length = m * i.size + n * i.size := by simp [L, clip]; omega
  let ρ' := ρ.upd (.o nm) ⟨cb2.blk, y2, cb2.sz⟩
  let g' := (g.upd (.o k) none).upd (.o nm) (some L)
  have hgk : ∀ b l, g' b = some l → b ≠ .o nm → g b = some l ∧ b ≠ .o k := by
    intro b l hbl hne
    simp only [g', Gh.upd, hne, if_false] at hbl
    split at hbl
    · cases hbl
    · rename_i e; exact ⟨hbl, e⟩
  have hSR : SR ρ' g' w := by
    refine ⟨fun b l' hb' hz' => ?_, fun q b l1 l3 hq hb' hz' hne cb1 cb3 hc1 hc3 => ?_, fun q cb1 hb1 => ?_, fun {b l'} hb' => ?_⟩
    · by_cases e : b = .o nm
      · subst e
        simp only [g', Gh.upd, if_true, Option.some.injEq] at hb'
        subst hb'
        refine ⟨⟨cb2.blk, y2, cb2.sz⟩, ca, ty', (0, 0), by simp [ρ', Rho.upd], k2, fun j v hj => ?_, by simp only; omega, fun _ => ⟨k5, rfl⟩⟩
        have hjl := (List.getElem?_eq_some_iff.mp hj).1
        rw [hL] at hjl
        by_cases hjm : j < m * i.size
        · have hyy := hy2 (fun e => by rw [e, Nat.zero_mul] at hjm; omega)
          have hjj : L[j]? = l2[off2 + j]? := by
            simp only [L, clip]
            rw [List.getElem?_append_left (by simp; omega), List.getElem?_take, if_pos hjm, List.getElem?_drop]
          rw [hjj] at hj
          obtain ⟨cv, h5, h6⟩ := k3 (off2 + j) v hj
          exact ⟨cv, by rw [hyy, Nat.add_assoc]; exact h5, VR.ext hk2 _ _ h6⟩
        · have hv : v = .top := by
            simp only [L, clip] at hj
            rw [List.getElem?_append_right (by simp; omega)] at hj
            rw [List.getElem?_replicate] at hj
            split at hj
            · cases hj; rfl
            · cases hj
          subst hv
          have : y2 + j < ca.size := by rw [k5]; omega
          exact ⟨ca[y2 + j], by simp [this], by simp [VR]⟩
      · obtain ⟨hb1, hbk⟩ := hgk b l' hb' e
        obtain ⟨cb1, c1, t1, f1, q1, q2, q3, q4⟩ := h.cells b l' hb1 hz'
        exact ⟨cb1, c1, t1, f1, hk2 _ _ q1, q2, fun j v hj => by
          obtain ⟨cv, q5, q6⟩ := q3 j v hj
          exact ⟨cv, q5, VR.ext hk2 _ _ q6⟩, q4⟩
    · have hrr : ∀ b', b' ≠ .o nm → ∀ c, ρ' b' = some c → ρ b' = some c := fun b' hb c hc => by simpa [ρ', Rho.upd, hb] using hc
      have hnew : ∀ c, ρ' (.o nm) = some c → c.blk = cb2.blk := fun c hc => by
        simp only [ρ', Rho.upd, if_true, Option.some.injEq] at hc
        rw [← hc]
      by_cases e1 : BId.o q = .o nm
      · have hbn : b ≠ .o nm := fun e => hne (by rw [e, e1])
        obtain ⟨hb1, hbk⟩ := hgk b l3 hb' hbn
        rw [e1] at hc1
        rw [hnew _ hc1]
        exact h.sep k b l2 l3 hb2 hb1 hz' hbk cb2 cb3 hc2 (hrr b hbn _ hc3)
      · obtain ⟨hq1, hqk⟩ := hgk (.o q) l1 hq e1
        by_cases e2 : b = .o nm
        · rw [e2] at hc3
          rw [hnew _ hc3]
          exact fun e => h.sep k (.o q) l2 l1 hb2 hq1 (fun _ => rfl) hqk cb2 cb1 hc2 (hrr _ e1 _ hc1) e.symm
        · obtain ⟨hb1, hbk⟩ := hgk b l3 hb' e2
          exact h.sep q b l1 l3 hq1 hb1 hz' hne cb1 cb3 (hrr _ e1 _ hc1) (hrr _ e2 _ hc3)
    · by_cases e : BId.o q = .o nm
      · rw [e] at hb1
        simp only [ρ', Rho.upd, if_true, Option.some.injEq] at hb1
        rw [← hb1]
        have := h.bound _ _ hc2
        exact this
      · have : ρ (.o q) = some cb1 := by simpa [ρ', Rho.upd, e] using hb1
        exact h.bound _ _ this
    · by_cases e : b = .o nm
      · subst e
        exact ⟨⟨cb2.blk, y2, cb2.sz⟩, by simp [ρ', Rho.upd]⟩
      · obtain ⟨cb1, q1⟩ := h.has (hgk b l' hb' e).1
        exact ⟨cb1, hk2 _ _ q1⟩
  obtain ⟨w', hst, hSR', hTr⟩ := run_storeCells_SR (P := P) (ρ := ρ') (n := nm) (cb := ⟨cb2.blk, y2, cb2.sz⟩) (by simp [ρ', Rho.upd]) (clip l off (n * i.size)) cs (VRs.ext hk2 _ _ hcs) hsc (m * i.size) 0 g' w hSR L
    (by simp [g', Gh.upd]) (by rw [hL]; simp only [clip, hcl]; omega)
  have hrun := append_room_run (ty := ty) (tk_sl ht) (tk_sl hu) hi ⟨cb2.blk, y2, none⟩ m cap2 n cap ⟨cb.blk, y, none⟩ hr hroom (by rw [Addr.add_none]; exact hst)
  have hpatch : patch L (m * i.size + 0) (clip l off (n * i.size)) = clip l2 off2 (m * i.size) ++ clip l off (n * i.size) := by
    have key : ∀ (cs A B : List AV), B.length = cs.length → patch (A ++ B) A.length cs = A ++ cs := by
      intro cs
      induction cs with
      | nil => intro A B hB; simp at hB; subst hB; simp [patch]
      | cons c cs ih =>
        intro A B hB
        match B, hB with
        | d :: B, hB =>
          simp only [patch]
          have e1 : (A ++ d :: B).set A.length c = (A ++ [c]) ++ B := by simp
          have e2 : A.length + 1 = (A ++ [c]).length := by simp
          rw [e1, e2, ih (A ++ [c]) B (by simpa using hB)]
          simp
    have e3 : m * i.size + 0 = (clip l2 off2 (m * i.size)).length := by simp [clip]; omega
    rw [e3]
    exact key _ _ _ (by simp [clip]; omega)
  have hgg : g'.upd (.o nm) (some (patch L (m * i.size + 0) (clip l off (n * i.size)))) = ({ rd := rd, kill := [k], newo := [(nm, clip l2 off2 (m * i.size) ++ clip l off (n * i.size))] } : Eff).app g := by
    rw [Eff.app_kill, hpatch]
    funext b
    simp only [g', Gh.upd]
    split <;> rfl
  have htr0 : Tr ρ ρ' w w := ⟨hk2, fun q c hq => by
    by_cases e : BId.o q = .o nm
    · rw [e] at hq
      simp only [ρ', Rho.upd, if_true, Option.some.injEq] at hq
      exact .inl ⟨k, cb2, hc2, by rw [← hq]⟩
    · exact .inl ⟨q, c, by simpa [ρ', Rho.upd, e] using hq, rfl⟩, fun q c hq => .inl (by simpa [ρ', Rho.upd] using hq), rfl, rfl, rfl, Nat.le_refl _, fun _ _ _ => rfl⟩
  refine ⟨.value (.slice (some ⟨cb2.blk, y2, none⟩) (m + n) cap2), w', ρ', by rw [hs]; simp only [Sem.run_bind, hrun, Result.andThen_ok, Sem.run_pure], .inl ⟨_, rfl, ?_⟩, by rw [← hgg]; exact hSR', htr0.trans hTr, fun b hb he => ?_⟩
  · simp only [VR]
    refine .inl ⟨⟨cb2.blk, y2, cb2.sz⟩, y2, cap2, by simp [ρ', Rho.upd], rfl, fun _ => rfl, hroom, (by simp), hown2⟩
  · by_cases e : b = .o nm
    · subst e; simp [Eff.news, lk] at he
    · simpa [ρ', Rho.upd, e] using hb

end
end Go.Sym
