/- The operations (no calls of Go functions): where the abstract operation gives something, the model's operation gives what stands to it so. -/
import Derived.Test.YtnkijhpikeokfaaS2
import Derived.Laws.Append
import Derived.ChangeKeysEq
set_option linter.unusedSimpArgs false
set_option linter.unusedVariables false
namespace Go.Sym
open Go

def AV.isSl : AV → Bool
  | .nilsl | .sl .. => true
  | _ => false

def bopA (P : Program) (g : Gh) (nm : Nat) (b : Builtin) (ts : List TypeId) (xs : List AV) : Option (AV × Eff) :=
  match b, ts, xs with
  | .len, t :: _, x :: _ =>
    match tk P t, x with
    | some (.sl _), .sl _ _ n _ _ => some (.int .i64 n, {})
    | some (.sl _), .nilsl => some (.int .i64 0, {})
    | some .str, .str s => some (.int .i64 s.size, {})
    | some (.arr n _), _ => some (.int .i64 n, {})
    | _, _ => none
  | .max, _, [.int k a, .int _ b] => some (.int k (if b > a then b else a), {})
  | .min, _, [.int k a, .int _ b] => some (.int k (if b < a then b else a), {})
  | .append, [t, u], [s, x] =>
    match tk P t, tk P u with
    | some (.sl e), some (.sl _) =>
      match tsize P e, tbytes P e, tzero P e with
      | some z, some by_, some z0 =>
        if z0.length ≠ z then none else
        match x with
        | .nilsl => if s.isSl then some (s, {}) else none
        | .sl b off n _ _ =>
          if n = 0 then (if s.isSl then some (s, {}) else none) else
          match g b with
          | none => none
          | some l =>
            if l.length < off + n * z ∨ ((l.drop off).take (n * z)).all AV.scalar = false then none else
            match s with
            | .nilsl => if n * by_ ≤ 2 ^ 46 ∧ n ≤ 2 ^ 46 then some (.sl (.o nm) 0 n z false, { rd := [(b, off, n * z)], newo := [(nm, (l.drop off).take (n * z))] }) else none
            | .sl b' off' m z' full =>
              match g b' with
              | none => none
              | some l' =>
                if l'.length < off' + m * z ∨ z' ≠ z ∨ 2 ^ 46 < (m + n) * by_ ∨ 2 ^ 46 < m + n then none else
                if full then
                  some (.sl (.o nm) 0 (m + n) z false, { rd := [(b, off, n * z), (b', off', m * z)], newo := [(nm, (l'.drop off').take (m * z) ++ (l.drop off).take (n * z))] })
                else match b' with
                  | .o k => some (.sl (.o nm) 0 (m + n) z false, { rd := [(b, off, n * z), (b', off', m * z)], kill := [k], newo := [(nm, (l'.drop off').take (m * z) ++ (l.drop off).take (n * z))] })
                  | .r _ => none
            | _ => none
        | _ => none
      | _, _, _ => none
    | _, _ => none
  | .copy, t :: _, [d, x] =>
    match tk P t with
    | some (.sl e) =>
      match tsize P e, d, x with
      | some z, .sl (.o k) off m z' _, .sl b off' n z'' _ =>
        if z' ≠ z ∨ z'' ≠ z then none else
        if min n m = 0 then some (.int .i64 0, {}) else
        match g (.o k), g b with
        | some l, some l' =>
          if l.length < off + min n m * z ∨ l'.length < off' + min n m * z ∨ ((l'.drop off').take (min n m * z)).all AV.scalar = false then none
          else some (.int .i64 (min n m : Nat), { rd := [(b, off', min n m * z)], wr := [(k, off, (l'.drop off').take (min n m * z))] })
        | _, _ => none
      | _, _, _ => none
    | _ => none
  | _, _, _ => none

def aop (P : Program) (ev : Operand → AV) (g : Gh) (nm : Nat) : Op → Option (AV × Eff)
  | .move x | .assign x => some (ev x, {})
  | .pick c a b =>
    match ev c with
    | .bool t => some (if t then ev a else ev b, {})
    | _ => none
  | .alloc t => (tzero P t).map fun l => (.ptr (.o nm) 0, { newo := [(nm, l)] })
  | .box _ x => (ev x).cells?.map fun l => (.ptr (.o nm) 0, { newo := [(nm, l)] })
  | .build t parts =>
    match tk P t, tzero P t with
    | some (.st fs), some z =>
      match places P fs with
      | some pl => (fillA (fun i => pl[i]?) z (parts.toList.map fun p => (p.1, ev p.2))).map fun l => (.agg l, {})
      | none => none
    | some (.arr _ e), some z =>
      match tsize P e with
      | some s => (fillA (fun i => some (i * s, s)) z (parts.toList.map fun p => (p.1, ev p.2))).map fun l => (.agg l, {})
      | none => none
    | _, _ => none
  | .buildSlice t n parts =>
    match tk P t with
    | some (.sl e) =>
      match tsize P e, tzero P e with
      | some s, some z =>
        if n * s ≤ 2 ^ 24 ∧ 0 < z.length then (fillA (fun i => some (i * s, s)) (zeros z (n * s)) (parts.toList.map fun p => (p.1, ev p.2))).map fun l => (.sl (.o nm) 0 n s true, { newo := [(nm, l)] }) else none
      | _, _ => none
    | _ => none
  | .load t a =>
    match ev a, tk P t, tsize P t with
    | .ptr b off, some k, some n =>
      match g b with
      | some l =>
        if k.agg then (if off + n ≤ l.length then some (.agg ((l.drop off).take n), { rd := [(b, off, n)] }) else none)
        else (l[off]?).map fun v => (v, { rd := [(b, off, 1)] })
      | none => none
    | _, _, _ => none
  | .store t a x =>
    match ev a, (ev x).cells?, tsize P t with
    | .ptr (.o n) off, some cs, some s =>
      match g (.o n) with
      | some l => if cs.length = s ∧ off + cs.length ≤ l.length ∧ cs.all AV.scalar = true then some (.tuple [], { wr := [(n, off, cs)] }) else none
      | none => none
    | _, _, _ => none
  | .nilCheck x =>
    match ev x with
    | .ptr b o => some (.ptr b o, {})
    | .func f a b => some (.func f a b, {})
    | _ => none
  | .binOp op t x y _ => (binA P op t (ev x) (ev y)).map fun v => (v, {})
  | .unOp op _ x => (unA op (ev x)).map fun v => (v, {})
  | .convert src dst x =>
    match tk P src, tk P dst, ev x with
    | some _, some (.int k), .int _ n => some (.int k (k.wrap n), {})
    | _, _, _ => none
  | .makeFunc (.func f) first cap => some (.func f (first.toList.map ev) (cap.toList.map ev), {})
  | .makeSlice t n c =>
    match tk P t, ev n, ev c with
    | some (.sl e), .int _ l, .int _ c =>
      match tsize P e, tbytes P e, tzero P e with
      | some s, some by_, some z =>
        if 0 ≤ l ∧ l ≤ c ∧ by_ * c ≤ 2 ^ 46 ∧ c ≤ 2 ^ 46 ∧ z.length = s ∧ 0 < s then some (.sl (.o nm) 0 l.toNat s (l == c), { newo := [(nm, zeros z (c.toNat * s))] }) else none
      | _, _, _ => none
    | _, _, _ => none
  | .slice t x lo hi mx =>
    match tk P t, ev x with
    | some (.arr n e), .ptr b off =>
      match tsize P e, g b, (lo.map ev).elim (some 0) AV.int?, (hi.map ev).elim (some (n : Int)) AV.int?, (mx.map ev).elim (some (n : Int)) AV.int? with
      | some s, some l, some i, some j, some m =>
        if 0 ≤ i ∧ i ≤ j ∧ j ≤ m ∧ m ≤ n ∧ off + n * s ≤ l.length ∧ 0 < n * s ∧ (mx.isSome = true → hi.isSome = true) then some (.sl b (off + i.toNat * s) (j - i).toNat s (j == m), { rd := [(b, off, n * s)] }) else none
      | _, _, _, _, _ => none
    | some (.sl e), .sl b off n s full =>
      match tsize P e, (lo.map ev).elim (some 0) AV.int?, (hi.map ev).elim (some (n : Int)) AV.int?, (mx.map ev).elim (some (n : Int)) AV.int? with
      | some s', some i, some j, some m =>
        if 0 ≤ i ∧ i ≤ j ∧ j ≤ m ∧ m ≤ n ∧ s = s' ∧ (mx.isSome = true → hi.isSome = true) then some (.sl b (off + i.toNat * s) (j - i).toNat s (if mx.isSome then j == m else full && j == n), {}) else none
      | _, _, _, _ => none
    | some (.sl e), .nilsl =>
      match tsize P e, (lo.map ev).elim (some 0) AV.int?, (hi.map ev).elim (some 0) AV.int?, (mx.map ev).elim (some 0) AV.int? with
      | some _, some i, some j, some m => if i = 0 ∧ j = 0 ∧ m = 0 ∧ (mx.isSome = true → hi.isSome = true) then some (.nilsl, {}) else none
      | _, _, _, _ => none
    | _, _ => none
  | .fieldAddr t x f =>
    match ev x, tk P t with
    | .ptr b off, some (.st fs) =>
      match fs[f]? with
      | some (o, ft) =>
        match tsize P ft with
        | some s => if s = 0 then none else some (.ptr b (off + o), {})
        | none => none
      | none => none
    | _, _ => none
  | .field t x f =>
    match ev x, tk P t with
    | .agg l, some (.st fs) =>
      match fs[f]? with
      | some (o, ft) => (part? P ft l o).map fun v => (v, {})
      | none => none
    | _, _ => none
  | .indexAddr t x i =>
    match tk P t, ev x, ev i with
    | some (.sl e), .sl b off n _ _, .int _ i =>
      match tsize P e with
      | some s => if 0 ≤ i ∧ i < n then some (.ptr b (off + i.toNat * s), {}) else none
      | none => none
    | some (.arr n e), .ptr b off, .int _ i =>
      match tsize P e with
      | some s => if 0 ≤ i ∧ i < n then some (.ptr b (off + i.toNat * s), {}) else none
      | none => none
    | _, _, _ => none
  | .index t x i =>
    match tk P t, ev x, ev i with
    | some (.arr n e), .agg l, .int _ i =>
      match tsize P e with
      | some s => if 0 ≤ i ∧ i < n then (part? P e l (i.toNat * s)).map fun v => (v, {}) else none
      | none => none
    | _, _, _ => none
  | .extract x i =>
    match ev x with
    | .tuple l => (l[i]?).map fun v => (v, {})
    | _ => none
  | .call c =>
    match c.callee with
    | .builtin b => bopA P g nm b c.argTypes.toList (c.args.toList.map ev)
    | _ => none
  | _ => none

def Gives (ρ : Rho) (v : AV) (nx : Next) : Prop := (∃ cv, nx = .value cv ∧ VR ρ v cv) ∨ (nx = .skip ∧ v = .tuple [])

/-- what an operation's run comes to -/
def Comes (P : Program) (ρ : Rho) (g : Gh) (w : World) (s : Sem Next) (v : AV) (e : Eff) : Prop :=
  ∃ nx w' ρ', s.run P w = .ok nx w' ∧ Gives ρ' v nx ∧ SR ρ' (e.app g) w' ∧ Tr ρ ρ' w w' ∧ (∀ b, ρ b = none → e.news b = false → ρ' b = none)

theorem Eff.app_rd (e : Eff) (g : Gh) (h1 : e.wr = []) (h2 : e.kill = []) (h3 : e.newo = []) (h4 : e.newr = []) : e.app g = g := by
  funext b
  cases b with
  | r n => simp [Eff.app, h4, lk]
  | o n => simp [Eff.app, h1, h2, h3, lk, patchAll]

theorem Comes.pure {P : Program} {ρ : Rho} {g : Gh} {w : World} {s : Sem Next} {v : AV} {e : Eff} (h : SR ρ g w) {cv : Value} (hr : s.run P w = .ok (.value cv) w) (hv : VR ρ v cv)
    (h1 : e.wr = []) (h2 : e.kill = []) (h3 : e.newo = []) (h4 : e.newr = []) : Comes P ρ g w s v e :=
  ⟨_, w, ρ, hr, .inl ⟨cv, rfl, hv⟩, by rw [Eff.app_rd e g h1 h2 h3 h4]; exact h, Tr.refl _ _, fun b hb _ => hb⟩

theorem Eff.app_new (g : Gh) (rd : List (BId × Nat × Nat)) (n : Nat) (l : List AV) : ({ rd := rd, newo := [(n, l)] } : Eff).app g = g.upd (.o n) (some l) := by
  funext b
  cases b with
  | r m => simp [Eff.app, lk, Gh.upd]
  | o m =>
    simp only [Eff.app, lk, Gh.upd]
    by_cases e : n = m
    · subst e; simp
    · have e' : ¬ (BId.o m = BId.o n) := fun h => e (by cases h; rfl)
      simp only [e, if_false, e']
      cases g (BId.o m) <;> simp [patchAll]

/-- a new block of one's own comes -/
theorem Comes.new {P : Program} {ρ : Rho} {g : Gh} {w : World} {s : Sem Next} {v : AV} {rd : List (BId × Nat × Nat)} {n : Nat} {l : List AV} (hn : ρ (.o n) = none)
    {cs : Array Value} {ty : TypeId} {cv : Value} {w1 : World} (hw1 : SR ρ g w1 ∧ Tr ρ ρ w w1) (hr : s.run P w = .ok (.value cv) (w1.alloc (.cells cs ty)))
    (hl : ∀ (j : Nat) v, l[j]? = some v → ∃ cv, cs[j]? = some cv ∧ VR ρ v cv)
    (hv : VR (ρ.upd (.o n) ⟨w1.heap.size, 0, cs.size⟩) v cv) : Comes P ρ g w s v { rd := rd, newo := [(n, l)] } := by
  obtain ⟨h1, h2⟩ := SR.alloc hw1.1 hn cs.size rfl hl ty
  refine ⟨_, _, _, hr, .inl ⟨cv, rfl, hv⟩, by rw [Eff.app_new]; exact h1, hw1.2.trans h2, fun b hb he => ?_⟩
  unfold Rho.upd
  split
  · rename_i e; subst e; simp [Eff.news, lk] at he
  · exact hb

theorem tk_int {P : Program} {t : TypeId} {k : IntKind} (h : tk P t = some (.int k)) : P.underlying t = some (.int k) := by
  unfold tk at h; split at h <;> simp_all
theorem tk_bool {P : Program} {t : TypeId} (h : tk P t = some .bool) : P.underlying t = some .bool := by
  unfold tk at h; split at h <;> simp_all
theorem tk_str {P : Program} {t : TypeId} (h : tk P t = some .str) : P.underlying t = some .string := by
  unfold tk at h; split at h <;> simp_all
theorem tk_sl {P : Program} {t e : TypeId} (h : tk P t = some (.sl e)) : P.underlying t = some (.slice e) := by
  unfold tk at h; split at h <;> simp_all
theorem tk_ptr {P : Program} {t e : TypeId} (h : tk P t = some (.ptr e)) : P.underlying t = some (.pointer e) := by
  unfold tk at h; split at h <;> simp_all
theorem tk_arr {P : Program} {t e : TypeId} {n : Nat} (h : tk P t = some (.arr n e)) : P.underlying t = some (.array n e) := by
  unfold tk at h; split at h <;> simp_all
theorem tk_st {P : Program} {t : TypeId} {fs : List (Nat × TypeId)} (h : tk P t = some (.st fs)) : ∃ fs', P.underlying t = some (.struct fs') ∧ fs = fs'.toList.map fun f => (f.offset, f.type) := by
  unfold tk at h; split at h <;> simp_all
theorem tk_some {P : Program} {t : TypeId} {k : TK} (h : tk P t = some k) : ∃ d, P.underlying t = some d ∧ (k.agg = true ↔ (∃ fs, d = .struct fs) ∨ ∃ n e, d = .array n e) := by
  unfold tk at h
  split at h
  · cases h
  all_goals
    rename_i h'
    cases h
    refine ⟨_, h', ?_⟩
    first
    | (simp [TK.agg]; done)
    | (simp only [TK.agg, Bool.false_eq_true, false_iff]
       rintro (⟨fs, rfl⟩ | ⟨n, e, rfl⟩) <;> simp_all)

theorem run_sizeOf {P : Program} {t : TypeId} {n : Nat} (h : tsize P t = some n) (w : World) : (sizeOf t).run P w = .ok n w := by
  unfold tsize at h
  cases hi : P.info? t with
  | none => simp [hi] at h
  | some i => simp [hi] at h; simp [sizeOf, typeInfo, hi, h]

theorem run_isAgg {P : Program} {t : TypeId} {k : TK} (h : tk P t = some k) (w : World) : (isAgg t).run P w = .ok k.agg w := by
  obtain ⟨d, hd, hk⟩ := tk_some h
  simp only [isAgg, Sem.run_bind, run_underlying hd, Result.andThen_ok]
  cases hka : k.agg with
  | true =>
    rcases hk.1 hka with ⟨fs, rfl⟩ | ⟨n, e, rfl⟩ <;> rfl
  | false =>
    have : ¬ ((∃ fs, d = .struct fs) ∨ ∃ n e, d = .array n e) := fun h => by rw [hk.2 h] at hka; cases hka
    cases d <;> first | rfl | (exact absurd (Or.inl ⟨_, rfl⟩) this) | (exact absurd (Or.inr ⟨_, _, rfl⟩) this)

theorem tzero_some {P : Program} {t : TypeId} {l : List AV} (h : tzero P t = some l) : ∃ i v, P.info? t = some i ∧ i.zero = some v ∧ l = v.cells.toList.map constA := by
  unfold tzero at h
  cases hi : P.info? t with
  | none => simp [hi] at h
  | some i =>
    cases hz : i.zero with
    | none => simp [hi, hz] at h
    | some v => simp [hi, hz] at h; exact ⟨i, v, rfl, hz, by simp [h]⟩

theorem run_zeroValue {P : Program} {t : TypeId} {i : TypeInfo} {v : Value} (h : P.info? t = some i) (hz : i.zero = some v) (w : World) : (zeroValue t).run P w = .ok v w := by
  simp [zeroValue, typeInfo, h, hz]

theorem VRs.consts (ρ : Rho) (v : Value) : VRs ρ (v.cells.toList.map constA) v.cells.toList := VRs.const ρ _

theorem Addr.add_none (b o n : Nat) : (⟨b, o, none⟩ : Addr).add n = ⟨b, o + n, none⟩ := by
  unfold Addr.add; split
  · rename_i h; subst h; rfl
  · rfl

section
variable {P : Program} {ρ : Rho} {g : Gh} {w : World}

theorem run_part (h : SR ρ g w) {t : TypeId} {l : List AV} {cs : List Value} (hl : VRs ρ l cs) {off : Nat} {v : AV} (hp : part? P t l off = some v) :
    ∃ cv, (part t cs.toArray off).run P w = .ok cv w ∧ VR ρ v cv := by
  have := h
  unfold part? at hp
  split at hp
  · rename_i k n hk hn
    split at hp
    · rename_i ha
      cases hp
      refine ⟨.agg (cs.toArray.extract off (off + n)), by simp [part, run_isAgg hk, ha, run_sizeOf hn], ?_⟩
      simp only [VR]
      exact ⟨(cs.drop off).take n, by simp [List.extract_eq_take_drop], (hl.drop off).take n⟩
    · rename_i ha
      obtain ⟨cv, h1, h2⟩ := hl.get off v hp
      refine ⟨cv, ?_, h2⟩
      simp only [Bool.not_eq_true] at ha
      simp [part, run_isAgg hk, ha, h1]
  · cases hp

end
end Go.Sym
