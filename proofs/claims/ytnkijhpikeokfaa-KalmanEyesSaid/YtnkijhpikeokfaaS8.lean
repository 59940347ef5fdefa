/- Each operation is sound (fifth part): rows made, slices cut, len, min, max. -/
import Derived.Test.YtnkijhpikeokfaaS7
import Derived.IntWalk
set_option linter.unusedSimpArgs false
set_option linter.unusedVariables false
namespace Go.Sym
open Go

theorem run_sliceBound_ok {P : Program} (k : IntKind) (i : Int) (y : Nat) (code : BoundsCode) (h0 : 0 ≤ i) (h1 : i ≤ y) (w : World) : (Instr.sliceBound (.int k i) y code).run P w = .ok i.toNat w := by
  simp [Instr.sliceBound, asIntOf, h0, h1]

/-- an optional bound: its value, or else -/
def OptV (v : Option Value) (els : Int) (i : Int) : Prop := (v = none ∧ i = els) ∨ ∃ k, v = some (.int k i)

theorem run_sliceBounds_ok {P : Program} (isS : Bool) (len cap : Nat) {lo hi mx : Option Value} {i j m : Int} (hlo : OptV lo 0 i) (hhi : OptV hi len j) (hmx : OptV mx cap m) (hh : mx.isSome = true → hi.isSome = true)
    (h0 : 0 ≤ i) (h1 : i ≤ j) (h2 : j ≤ m) (h3 : m ≤ cap) (w : World) : (Instr.sliceBounds isS len cap lo hi mx).run P w = .ok (i.toNat, j.toNat, m.toNat) w := by
  rcases hmx with ⟨rfl, rfl⟩ | ⟨km, rfl⟩
  · rcases hhi with ⟨rfl, rfl⟩ | ⟨kh, rfl⟩
    · rcases hlo with ⟨rfl, rfl⟩ | ⟨kl, rfl⟩
      · simp [Instr.sliceBounds]
      · simp [Instr.sliceBounds, run_sliceBound_ok kl i len _ h0 (by omega)]
    · have e1 : ∀ code, (Instr.sliceBound (.int kh j) cap code).run P w = .ok j.toNat w := fun code => run_sliceBound_ok kh j cap code (by omega) (by omega) w
      rcases hlo with ⟨rfl, rfl⟩ | ⟨kl, rfl⟩
      · simp [Instr.sliceBounds, e1]
      · simp [Instr.sliceBounds, e1, run_sliceBound_ok kl i j.toNat _ h0 (by omega)]
  · have e0 : ∀ code, (Instr.sliceBound (.int km m) cap code).run P w = .ok m.toNat w := fun code => run_sliceBound_ok km m cap code (by omega) (by omega) w
    rcases hhi with ⟨rfl, rfl⟩ | ⟨kh, rfl⟩
    · simp at hh
    · have e1 : ∀ code, (Instr.sliceBound (.int kh j) m.toNat code).run P w = .ok j.toNat w := fun code => run_sliceBound_ok kh j m.toNat code (by omega) (by omega) w
      rcases hlo with ⟨rfl, rfl⟩ | ⟨kl, rfl⟩
      · simp [Instr.sliceBounds, e0, e1]
      · simp [Instr.sliceBounds, e0, e1, run_sliceBound_ok kl i j.toNat _ h0 (by omega)]

section
variable {P : Program} {ρ : Rho} {g : Gh} {w : World} (h : SR ρ g w) {ev : Operand → AV} {cev : Operand → Value} (hev : ∀ x, VR ρ (ev x) (cev x))

include hev in
theorem optV {x : Option Operand} {els i : Int} (hi : (x.map ev).elim (some els) AV.int? = some i) : OptV (x.map cev) els i := by
  cases x with
  | none => simp at hi; exact .inl ⟨rfl, hi.symm⟩
  | some x =>
    simp only [Option.map_some, Option.elim_some] at hi
    have e := hev x
    cases hx : ev x <;> rw [hx] at hi e <;> simp [AV.int?] at hi
    simp only [VR] at e
    subst hi
    exact .inr ⟨_, by simp [e]; rfl⟩

include h hev

theorem s_makeSlice (t : TypeId) (n c : Operand) {o : Oper} (ho : o.op = .makeSlice t n c) {nm : Nat} (hn : ρ (.o nm) = none) {e : TypeId} (ht : tk P t = some (.sl e)) {k k' : IntKind} {l c' : Int} (hl : ev n = .int k l) (hc : ev c = .int k' c')
    {s by_ : Nat} {z : List AV} (hs : tsize P e = some s) (hb : tbytes P e = some by_) (hz : tzero P e = some z) (h0 : 0 ≤ l) (h1 : l ≤ c') (h2 : by_ * c' ≤ 2 ^ 46) (h3 : c' ≤ 2 ^ 46) (hzs : z.length = s) (hs0 : 0 < s) :
    Comes P ρ g w (execOp cev o) (.sl (.o nm) 0 l.toNat s (l == c')) { newo := [(nm, zeros z (c'.toNat * s))] } := by
  have hu := tk_sl ht
  have e1 := hev n
  have e2 := hev c
  rw [hl] at e1; rw [hc] at e2
  simp only [VR] at e1 e2
  obtain ⟨i, v, hi, hzv, rfl⟩ := tzero_some hz
  have hby : i.bytes = by_ := by simpa [tbytes, hi] using hb
  have hz0 := zeros_VRs (ρ := ρ) v (c'.toNat * s) (.inl (by simpa [← hzs] using hs0))
  have wl : IntKind.i64.wrap l = l := IntWalk.i64_in _ (by omega)
  have wc : IntKind.i64.wrap c' = c' := IntWalk.i64_in _ (by omega)
  have hneg : ¬ c' < 0 := by omega
  have hbig : ¬ (281474976710656 : Int) < by_ * c' := by omega
  refine Comes.new hn (cs := (Array.range (c'.toNat * s)).map fun i => v.cells[i % v.cells.size]!) (ty := e) (cv := .slice (some ⟨w.heap.size, 0, none⟩) l.toNat c'.toNat) ⟨h, Tr.refl _ _⟩ ?_ (fun j u hj => by rw [← Array.getElem?_toList]; exact hz0.get j u hj) ?_
  · have hty : (typeInfo e).run P w = .ok i w := by simp [typeInfo, hi]
    have hl0 : ¬ l < 0 := by omega
    have hlc : ¬ l > c' := by omega
    simp only [execOp, ho, Instr.makeSlice, e1, e2, Sem.run_bind, run_underlying hu, Result.andThen_ok, asInt, asIntOf, Sem.run_pure, hty, wl, wc, hby]
    have hcond : (decide (c' < 0) || decide ((by_ : Int) * c' > 2 ^ 48) || decide (l < 0) || decide (l > c')) = false := by
      simp [hneg, hl0]
      omega
    simp only [hcond, Bool.false_eq_true, if_false, Sem.run_bind, run_askRoom, Result.andThen_ok, run_sizeOf hs]
    by_cases h0' : c'.toNat * s = 0
    · simp only [h0', if_true, Sem.run_pure, Result.andThen_ok]
      simp [newRow, show Array.range 0 = #[] from rfl]
    · simp only [h0', if_false, Sem.run_bind, run_zeroValue hi hzv, Result.andThen_ok, Sem.run_pure]
      simp [newRow]
  · simp only [VR, Rho.upd, if_true, Option.some.injEq]
    refine .inl ⟨_, 0, c'.toNat, rfl, rfl, fun _ => rfl, by omega, fun hh => ?_, by simp⟩
    have : l = c' := by simpa using hh
    rw [this]

theorem s_slice_arr (t : TypeId) (x : Operand) (lo hi mx : Option Operand) {o : Oper} (ho : o.op = .slice t x lo hi mx) {n : Nat} {e : TypeId} (ht : tk P t = some (.arr n e)) {b : BId} {off : Nat} (hx : ev x = .ptr b off) {s : Nat} (hs : tsize P e = some s)
    {l : List AV} (hb : g b = some l) {i j m : Int} (hlo : (lo.map ev).elim (some 0) AV.int? = some i) (hhi : (hi.map ev).elim (some (n : Int)) AV.int? = some j) (hmx : (mx.map ev).elim (some (n : Int)) AV.int? = some m)
    (h0 : 0 ≤ i) (h1 : i ≤ j) (h2 : j ≤ m) (h3 : m ≤ n) (h4 : off + n * s ≤ l.length) (h6 : 0 < n * s) (h5 : mx.isSome = true → hi.isSome = true) :
    Comes P ρ g w (execOp cev o) (.sl b (off + i.toNat * s) (j - i).toNat s (j == m)) { rd := [(b, off, n * s)] } := by
  have hu := tk_arr ht
  have e1 := hev x
  rw [hx] at e1
  simp only [VR] at e1
  obtain ⟨cb, hc, e1⟩ := e1
  have hbd := run_sliceBounds_ok (P := P) false n n (optV hev hlo) (optV hev hhi) (optV hev hmx) (by simpa using h5) h0 h1 h2 h3 w
  have hnm : i.toNat * s ≤ n * s := Nat.mul_le_mul_right _ (by omega)
  refine Comes.pure h (cv := .slice (some (if m.toNat = i.toNat then ⟨cb.blk, cb.sh + off, none⟩ else ⟨cb.blk, cb.sh + off + i.toNat * s, none⟩)) (j.toNat - i.toNat) (m.toNat - i.toNat)) ?_ ?_ rfl rfl rfl rfl
  · simp only [execOp, ho, Instr.sliceAt, Sem.run_bind, run_underlying hu, Result.andThen_ok, e1, Instr.sureAddr, Sem.run_pure, hbd, run_sizeOf hs, Addr.add_none]
  · have hsz : cb.sh + l.length ≤ cb.sz := by
      obtain ⟨cb', cs, ty, fz, k1, k2, k3, k4, _⟩ := h.cells b l hb (fun e => by subst e; simp at *; omega)
      rw [hc] at k1; cases k1
      exact k4
    simp only [VR]
    have hij : (j - i).toNat = j.toNat - i.toNat := by omega
    by_cases hmi : m.toNat = i.toNat
    · refine .inl ⟨cb, cb.sh + off, 0, hc, ?_, fun hh => by omega, by omega, fun _ => by omega, ?_⟩
      · simp [hmi, hij]
      · simp; omega
    · refine .inl ⟨cb, cb.sh + off + i.toNat * s, m.toNat - i.toNat, hc, ?_, fun _ => by omega, by omega, fun hh => ?_, ?_⟩
      · simp [hmi, hij]
      · have : j = m := by simpa using hh
        omega
      · have e3 : (m.toNat - i.toNat) * s + i.toNat * s = m.toNat * s := by rw [← Nat.add_mul]; congr 1; omega
        have e4 : m.toNat * s ≤ n * s := Nat.mul_le_mul_right _ (by omega)
        omega

theorem s_slice_sl (t : TypeId) (x : Operand) (lo hi mx : Option Operand) {o : Oper} (ho : o.op = .slice t x lo hi mx) {e : TypeId} (ht : tk P t = some (.sl e)) {b : BId} {off n s : Nat} {full : Bool} (hx : ev x = .sl b off n s full) (hs : tsize P e = some s)
    {i j m : Int} (hlo : (lo.map ev).elim (some 0) AV.int? = some i) (hhi : (hi.map ev).elim (some (n : Int)) AV.int? = some j) (hmx : (mx.map ev).elim (some (n : Int)) AV.int? = some m)
    (h0 : 0 ≤ i) (h1 : i ≤ j) (h2 : j ≤ m) (h3 : m ≤ n) (h5 : mx.isSome = true → hi.isSome = true) :
    Comes P ρ g w (execOp cev o) (.sl b (off + i.toNat * s) (j - i).toNat s (if mx.isSome then j == m else full && j == n)) {} := by
  have hu := tk_sl ht
  have e1 := hev x
  rw [hx] at e1
  simp only [VR] at e1
  rcases e1 with ⟨cb, y, cap, hc, e1, hy, hcap, hfull, hown⟩ | ⟨e0, e1⟩
  case inr =>
    subst e0
    obtain rfl : m = 0 := by omega
    obtain rfl : j = 0 := by omega
    obtain rfl : i = 0 := by omega
    have hbd := run_sliceBounds_ok (P := P) true 0 0 (optV hev hlo) (optV hev hhi) (optV hev hmx) (by simpa using h5) (Int.le_refl 0) (Int.le_refl 0) (Int.le_refl 0) (Int.le_refl 0) w
    refine Comes.pure h (cv := .slice none 0 0) ?_ (by simp [VR]) rfl rfl rfl rfl
    simp [execOp, ho, Instr.sliceAt, Instr.slice, run_underlying hu, e1, hbd, run_sizeOf hs]
  obtain ⟨m', hm', hmx'⟩ : ∃ m' : Int, OptV (mx.map cev) cap m' ∧ ((mx.isSome = true ∧ m' = m) ∨ (mx = none ∧ m' = cap)) := by
    cases mx with
    | none => exact ⟨cap, .inl ⟨rfl, rfl⟩, .inr ⟨rfl, rfl⟩⟩
    | some q => 
      rcases optV hev hmx with ⟨hh, _⟩ | hh
      · simp at hh
      · exact ⟨m, .inr hh, .inl ⟨rfl, rfl⟩⟩
  have hjm : j ≤ m' ∧ m' ≤ cap := by rcases hmx' with ⟨_, rfl⟩ | ⟨_, rfl⟩ <;> omega
  have hbd := run_sliceBounds_ok (P := P) true n cap (optV hev hlo) (optV hev hhi) hm' (by simpa using h5) h0 h1 hjm.1 hjm.2 w
  refine Comes.pure h (cv := .slice (if m'.toNat = i.toNat then some ⟨cb.blk, y, none⟩ else some ⟨cb.blk, y + i.toNat * s, none⟩) (j.toNat - i.toNat) (m'.toNat - i.toNat)) ?_ ?_ rfl rfl rfl rfl
  · simp only [execOp, ho, Instr.sliceAt, Instr.slice, Sem.run_bind, run_underlying hu, Result.andThen_ok, e1, hbd, run_sizeOf hs, Sem.run_pure, Option.map_some, Addr.add_none]
  · simp only [VR]
    have hij : (j - i).toNat = j.toNat - i.toNat := by omega
    by_cases hmi : m'.toNat = i.toNat
    · refine .inl ⟨cb, y, 0, hc, ?_, fun hh => by omega, by omega, fun _ => by omega, ?_⟩
      · simp [hmi, hij]
      · simp; omega
    · refine .inl ⟨cb, y + i.toNat * s, m'.toNat - i.toNat, hc, ?_, fun hh => ?_, by omega, fun hh => ?_, ?_⟩
      · simp [hmi, hij]
      · rw [hy (by omega)]; omega
      · rcases hmx' with ⟨e2, rfl⟩ | ⟨e2, rfl⟩
        · rw [e2] at hh
          have : j = m' := by simpa using hh
          omega
        · rw [e2] at hh
          simp at hh
          have := hfull hh.1
          omega
      · have e3 : (m'.toNat - i.toNat) * s + i.toNat * s = m'.toNat * s := by rw [← Nat.add_mul]; congr 1; omega
        have e4 : m'.toNat * s ≤ cap * s := Nat.mul_le_mul_right _ (by omega)
        omega

theorem s_slice_nil (t : TypeId) (x : Operand) (lo hi mx : Option Operand) {o : Oper} (ho : o.op = .slice t x lo hi mx) {e : TypeId} (ht : tk P t = some (.sl e)) (hx : ev x = .nilsl) {s : Nat} (hs : tsize P e = some s)
    (hlo : (lo.map ev).elim (some 0) AV.int? = some 0) (hhi : (hi.map ev).elim (some 0) AV.int? = some 0) (hmx : (mx.map ev).elim (some 0) AV.int? = some 0) (h5 : mx.isSome = true → hi.isSome = true) :
    Comes P ρ g w (execOp cev o) .nilsl {} := by
  have hu := tk_sl ht
  have e1 := hev x
  rw [hx] at e1
  simp only [VR] at e1
  have hbd := run_sliceBounds_ok (P := P) true 0 0 (optV hev hlo) (optV hev hhi) (optV hev hmx) (by simpa using h5) (Int.le_refl 0) (Int.le_refl 0) (Int.le_refl 0) (Int.le_refl 0) w
  refine Comes.pure h (cv := .slice none 0 0) ?_ (by simp [VR]) rfl rfl rfl rfl
  simp [execOp, ho, Instr.sliceAt, Instr.slice, run_underlying hu, e1, hbd, run_sizeOf hs]

end
end Go.Sym
