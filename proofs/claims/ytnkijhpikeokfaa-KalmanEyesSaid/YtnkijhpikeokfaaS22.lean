/- The operations, one by one, over a frame and a heap that are written out. -/
import Derived.Test.YtnkijhpikeokfaaS21
import Derived.IntWalk
set_option linter.unusedSimpArgs false
set_option linter.unusedVariables false
namespace Go.Sym
open Go

def OpV (P : Program) (fs : Fs) (h : H) (op : Op) (v : AV) (e : Eff) : Prop := OpR P fs.fr.ev h.get h.ow.length h.ro.length op v e

theorem soundNone (P : Program) : SoundO P fun _ _ _ => none := fun _ _ _ _ h => by cases h

def plainOp : Op → Bool
  | .call c => match c.callee with
    | .value _ => false
    | _ => true
  | _ => true

theorem OpV.of {P : Program} {fs : Fs} {h : H} {op : Op} {v : AV} {e : Eff} (hp : plainOp op = true) (ha : aop P fs.fr.ev h.get h.ow.length op = some (v, e)) : OpV P fs h op v e := by
  refine ⟨_, soundNone P, ?_⟩
  cases op
  case call c =>
    cases hc : c.callee with
    | value f => simp [plainOp, hc] at hp
    | invoke r m => simpa only [opE, hc] using ha
    | builtin b => simpa only [opE, hc] using ha
  all_goals simpa only [opE] using ha

def Eff.quiet : Eff → Bool
  | ⟨_, [], [], [], []⟩ => true
  | _ => false

theorem Eff.quiet_app {e : Eff} (h : e.quiet = true) (H : H) : H.app e = H := by
  obtain ⟨rd, wr, kill, newo, newr⟩ := e
  cases wr <;> cases kill <;> cases newo <;> cases newr <;> simp only [Eff.quiet, Bool.false_eq_true] at h
  exact H.app_nil

section
variable {P : Program} {ops : Array Oper} {os : List Oper} {fs : Fs} {h : H} {K : Fs → H → Prop} {rs : List Rc} {KV : List Rc → Fs → H → Prop} {d : Nat} {op : Op} {ty : TypeId} {pos : String} {aft : Array Edge} {v : AV} {e : Eff}

theorem recR_go (hop : OpV P fs h op v e) {dst : Option Tmp} : RecR P ops fs.fr h ⟨dst, op, ty, pos, aft, none⟩ v e := .inl ⟨rfl, hop⟩

theorem RunF.q (hop : OpV P fs h op v e) (hq : e.quiet = true) (k : RunF P ops os ((d, v) :: fs) h K) : RunF P ops (⟨some d, op, ty, pos, aft, none⟩ :: os) fs h K :=
  ⟨v, e, recR_go hop, by rw [Eff.quiet_app hq]; exact k⟩
theorem RunF.qn (hop : OpV P fs h op v e) (hq : e.quiet = true) (k : RunF P ops os fs h K) : RunF P ops (⟨none, op, ty, pos, aft, none⟩ :: os) fs h K :=
  ⟨v, e, recR_go hop, by rw [Eff.quiet_app hq]; exact k⟩
theorem RunF.w {h2 : H} (hop : OpV P fs h op v e) (hh : h.app e = h2) (k : RunF P ops os ((d, v) :: fs) h2 K) : RunF P ops (⟨some d, op, ty, pos, aft, none⟩ :: os) fs h K :=
  ⟨v, e, recR_go hop, by rw [hh]; exact k⟩
theorem RunF.wn {h2 : H} (hop : OpV P fs h op v e) (hh : h.app e = h2) (k : RunF P ops os fs h2 K) : RunF P ops (⟨none, op, ty, pos, aft, none⟩ :: os) fs h K :=
  ⟨v, e, recR_go hop, by rw [hh]; exact k⟩

theorem RunV.q (hop : OpV P fs h op v e) (hq : e.quiet = true) (k : RunV P ops os (⟨v, e⟩ :: rs) ((d, v) :: fs) h KV) : RunV P ops (⟨some d, op, ty, pos, aft, none⟩ :: os) rs fs h KV :=
  ⟨v, e, recR_go hop, by rw [Eff.quiet_app hq]; exact k⟩
theorem RunV.qn (hop : OpV P fs h op v e) (hq : e.quiet = true) (k : RunV P ops os (⟨v, e⟩ :: rs) fs h KV) : RunV P ops (⟨none, op, ty, pos, aft, none⟩ :: os) rs fs h KV :=
  ⟨v, e, recR_go hop, by rw [Eff.quiet_app hq]; exact k⟩
theorem RunV.w {h2 : H} (hop : OpV P fs h op v e) (hh : h.app e = h2) (k : RunV P ops os (⟨v, e⟩ :: rs) ((d, v) :: fs) h2 KV) : RunV P ops (⟨some d, op, ty, pos, aft, none⟩ :: os) rs fs h KV :=
  ⟨v, e, recR_go hop, by rw [hh]; exact k⟩
theorem RunV.wn {h2 : H} (hop : OpV P fs h op v e) (hh : h.app e = h2) (k : RunV P ops os (⟨v, e⟩ :: rs) fs h2 KV) : RunV P ops (⟨none, op, ty, pos, aft, none⟩ :: os) rs fs h KV :=
  ⟨v, e, recR_go hop, by rw [hh]; exact k⟩

/-- the guard of an operation -/
def guardO (ops : Array Oper) (fs : Fs) (j : Nat) : Option AV :=
  match (ops[j]?).bind (·.dst) with
  | some t => look fs t
  | none => none

theorem guard_want {j : Nat} {b want : Bool} (hg : guardO ops fs j = some (.bool b)) {o : Oper} (ho : o.guard = some (j, want)) : wantA ops fs.fr o = some (b == want) := by
  unfold guardO at hg
  unfold wantA
  simp only [ho]
  split at hg
  · rename_i t ht
    simp only [ht, Fs.fr, hg, Option.getD_some]
  · cases hg

theorem guard_skip {j : Nat} {want : Bool} (hg : guardO ops fs j = some (.tuple [])) {o : Oper} (ho : o.guard = some (j, want)) : wantA ops fs.fr o = some false := by
  unfold guardO at hg
  unfold wantA
  simp only [ho]
  split at hg
  · rename_i t ht
    simp only [ht, Fs.fr, hg, Option.getD_some]
  · cases hg

theorem RunF.gq {j : Nat} {b : Bool} (hg : guardO ops fs j = some (.bool b)) (hop : OpV P fs h op v e) (hq : e.quiet = true) (k : RunF P ops os ((d, v) :: fs) h K) : RunF P ops (⟨some d, op, ty, pos, aft, some (j, b)⟩ :: os) fs h K :=
  ⟨v, e, .inl ⟨by rw [guard_want hg rfl]; cases b <;> rfl, hop⟩, by rw [Eff.quiet_app hq]; exact k⟩
theorem RunF.gw {h2 : H} {j : Nat} {b : Bool} (hg : guardO ops fs j = some (.bool b)) (hop : OpV P fs h op v e) (hh : h.app e = h2) (k : RunF P ops os ((d, v) :: fs) h2 K) : RunF P ops (⟨some d, op, ty, pos, aft, some (j, b)⟩ :: os) fs h K :=
  ⟨v, e, .inl ⟨by rw [guard_want hg rfl]; cases b <;> rfl, hop⟩, by rw [hh]; exact k⟩
theorem RunF.gs {j : Nat} {want b : Bool} (hg : guardO ops fs j = some (.bool b)) (hb : (b == want) = false) (k : RunF P ops os ((d, .tuple []) :: fs) h K) : RunF P ops (⟨some d, op, ty, pos, aft, some (j, want)⟩ :: os) fs h K :=
  ⟨.tuple [], {}, .inr ⟨by rw [guard_want hg rfl, hb], rfl, rfl⟩, by rw [H.app_nil]; exact k⟩
theorem RunF.gt {j : Nat} {want : Bool} (hg : guardO ops fs j = some (.tuple [])) (k : RunF P ops os ((d, .tuple []) :: fs) h K) : RunF P ops (⟨some d, op, ty, pos, aft, some (j, want)⟩ :: os) fs h K :=
  ⟨.tuple [], {}, .inr ⟨guard_skip hg rfl, rfl, rfl⟩, by rw [H.app_nil]; exact k⟩
theorem RunV.gq {j : Nat} {b : Bool} (hg : guardO ops fs j = some (.bool b)) (hop : OpV P fs h op v e) (hq : e.quiet = true) (k : RunV P ops os (⟨v, e⟩ :: rs) ((d, v) :: fs) h KV) : RunV P ops (⟨some d, op, ty, pos, aft, some (j, b)⟩ :: os) rs fs h KV :=
  ⟨v, e, .inl ⟨by rw [guard_want hg rfl]; cases b <;> rfl, hop⟩, by rw [Eff.quiet_app hq]; exact k⟩
theorem RunV.gw {h2 : H} {j : Nat} {b : Bool} (hg : guardO ops fs j = some (.bool b)) (hop : OpV P fs h op v e) (hh : h.app e = h2) (k : RunV P ops os (⟨v, e⟩ :: rs) ((d, v) :: fs) h2 KV) : RunV P ops (⟨some d, op, ty, pos, aft, some (j, b)⟩ :: os) rs fs h KV :=
  ⟨v, e, .inl ⟨by rw [guard_want hg rfl]; cases b <;> rfl, hop⟩, by rw [hh]; exact k⟩
theorem RunV.gs {j : Nat} {want b : Bool} (hg : guardO ops fs j = some (.bool b)) (hb : (b == want) = false) (k : RunV P ops os (⟨.tuple [], {}⟩ :: rs) ((d, .tuple []) :: fs) h KV) : RunV P ops (⟨some d, op, ty, pos, aft, some (j, want)⟩ :: os) rs fs h KV :=
  ⟨.tuple [], {}, .inr ⟨by rw [guard_want hg rfl, hb], rfl, rfl⟩, by rw [H.app_nil]; exact k⟩
theorem RunV.gt {j : Nat} {want : Bool} (hg : guardO ops fs j = some (.tuple [])) (k : RunV P ops os (⟨.tuple [], {}⟩ :: rs) ((d, .tuple []) :: fs) h KV) : RunV P ops (⟨some d, op, ty, pos, aft, some (j, want)⟩ :: os) rs fs h KV :=
  ⟨.tuple [], {}, .inr ⟨guard_skip hg rfl, rfl, rfl⟩, by rw [H.app_nil]; exact k⟩

/-! the operations -/

variable {x y a b c i : Operand} {t u : TypeId} {k k' : IntKind} {p q m : Int}

theorem o_move (hx : evO fs x = some v) : OpV P fs h (.move x) v {} := .of rfl (by simp only [aop, evO_eq hx])
theorem o_assign (hx : evO fs x = some v) : OpV P fs h (.assign x) v {} := .of rfl (by simp only [aop, evO_eq hx])
theorem o_pick {z : Bool} {v2 : AV} (hc : evO fs c = some (.bool z)) (ha : evO fs a = some v) (hb : evO fs b = some v2) : OpV P fs h (.pick c a b) (if z then v else v2) {} := .of rfl (by simp only [aop, evO_eq hc, evO_eq ha, evO_eq hb])
theorem o_pick_t (hc : evO fs c = some (.bool true)) (ha : evO fs a = some v) : OpV P fs h (.pick c a b) v {} := .of rfl (by simp only [aop, evO_eq hc, evO_eq ha, if_true])
theorem o_pick_f (hc : evO fs c = some (.bool false)) (ha : evO fs b = some v) : OpV P fs h (.pick c a b) v {} := .of rfl (by simp only [aop, evO_eq hc, evO_eq ha, Bool.false_eq_true, if_false])
theorem o_pick_b {z z1 z2 : Bool} (hc : evO fs c = some (.bool z)) (ha : evO fs a = some (.bool z1)) (hb : evO fs b = some (.bool z2)) : OpV P fs h (.pick c a b) (.bool (if z then z1 else z2)) {} := .of rfl (by
  simp only [aop, evO_eq hc, evO_eq ha, evO_eq hb]; cases z <;> rfl)

theorem o_alloc {l : List AV} {nm : Nat} (hl : tzero P t = some l) (hn : h.ow.length = nm) : OpV P fs h (.alloc t) (.ptr (.o nm) 0) { newo := [(nm, l)] } := .of rfl (by simp only [aop, hl, hn, Option.map_some])
theorem o_box {l : List AV} {nm : Nat} (hx : evO fs x = some v) (hl : v.cells? = some l) (hn : h.ow.length = nm) : OpV P fs h (.box t x) (.ptr (.o nm) 0) { newo := [(nm, l)] } := .of rfl (by simp only [aop, evO_eq hx, hl, hn, Option.map_some])

def evp (fs : Fs) : List (Nat × Operand) → Option (List (Nat × AV))
  | [] => some []
  | (i, x) :: l => match evO fs x, evp fs l with
    | some v, some vs => some ((i, v) :: vs)
    | _, _ => none

theorem evp_eq : ∀ {l : List (Nat × Operand)} {vs : List (Nat × AV)}, evp fs l = some vs → (l.map fun p => (p.1, fs.fr.ev p.2)) = vs
  | [], vs, h => by simp only [evp, Option.some.injEq] at h; exact h
  | (i, x) :: l, vs, h => by
    simp only [evp] at h
    split at h
    · rename_i v vs' h1 h2
      cases h
      simp only [List.map_cons, evO_eq h1, evp_eq h2]
    · cases h

theorem o_build {parts : List (Nat × Operand)} {fl : List (Nat × TypeId)} {z l : List AV} {pl : List (Nat × Nat)} {vs : List (Nat × AV)} (ht : tk P t = some (.st fl)) (hz : tzero P t = some z) (hpl : places P fl = some pl)
    (hv : evp fs parts = some vs) (hl : fillA (fun i => pl[i]?) z vs = some l) : OpV P fs h (.build t parts.toArray) (.agg l) {} := .of rfl (by simp only [aop, ht, hz, hpl, evp_eq hv, hl, Option.map_some])
theorem o_build_arr {parts : List (Nat × Operand)} {el : TypeId} {n s : Nat} {z l : List AV} {vs : List (Nat × AV)} (ht : tk P t = some (.arr n el)) (hz : tzero P t = some z) (hs : tsize P el = some s)
    (hv : evp fs parts = some vs) (hl : fillA (fun i => some (i * s, s)) z vs = some l) : OpV P fs h (.build t parts.toArray) (.agg l) {} := .of rfl (by simp only [aop, ht, hz, hs, evp_eq hv, hl, Option.map_some])
theorem o_buildSlice {parts : List (Nat × Operand)} {el : TypeId} {n s nm : Nat} {z l : List AV} {vs : List (Nat × AV)} (ht : tk P t = some (.sl el)) (hs : tsize P el = some s) (hz : tzero P el = some z) (hns : (Nat.ble (n * s) 16777216 && Nat.blt 0 z.length) = true)
    (hv : evp fs parts = some vs) (hl : fillA (fun i => some (i * s, s)) (zeros z (n * s)) vs = some l) (hn : h.ow.length = nm) : OpV P fs h (.buildSlice t n parts.toArray) (.sl (.o nm) 0 n s true) { newo := [(nm, l)] } := .of rfl (by
  simp only [Bool.and_eq_true, Nat.blt_eq] at hns
  have h1 := Nat.le_of_ble_eq_true hns.1
  simp only [aop, ht, hz, hs, evp_eq hv, hl, hn, Option.map_some]
  rw [if_pos ⟨h1, hns.2⟩])

theorem o_load {bl : BId} {off n : Nat} {l : List AV} {kk : TK} (ha : evO fs a = some (.ptr bl off)) (hk : tk P t = some kk) (hs : tsize P t = some n) (hka : kk.agg = false) (hb : h.get bl = some l) (hv : l[off]? = some v) :
    OpV P fs h (.load t a) v { rd := [(bl, off, 1)] } := .of rfl (by simp only [aop, evO_eq ha, hk, hs, hb, hka, Bool.false_eq_true, if_false, hv, Option.map_some])
theorem o_load_agg {bl : BId} {off n : Nat} {l cs : List AV} {kk : TK} (ha : evO fs a = some (.ptr bl off)) (hk : tk P t = some kk) (hs : tsize P t = some n) (hka : kk.agg = true) (hb : h.get bl = some l) (hl : Nat.ble (off + n) l.length = true) (hcs : (l.drop off).take n = cs) :
    OpV P fs h (.load t a) (.agg cs) { rd := [(bl, off, n)] } := .of rfl (by
  have hl := Nat.le_of_ble_eq_true hl
  simp only [aop, evO_eq ha, hk, hs, hb, hka, if_true, hcs]
  rw [if_pos hl])
theorem o_store {m off s : Nat} {l cs : List AV} (ha : evO fs a = some (.ptr (.o m) off)) (hx : evO fs x = some v) (hcs : v.cells? = some cs) (hs : tsize P t = some s) (hb : h.get (.o m) = some l)
    (hc : (Nat.beq cs.length s && Nat.ble (off + cs.length) l.length && cs.all AV.scalar) = true) : OpV P fs h (.store t a x) (.tuple []) { wr := [(m, off, cs)] } := .of rfl (by
  simp only [Bool.and_eq_true] at hc
  have h1 := Nat.eq_of_beq_eq_true hc.1.1
  have h2 := Nat.le_of_ble_eq_true hc.1.2
  simp only [aop, evO_eq ha, evO_eq hx, hcs, hs, hb]
  rw [if_pos ⟨h1, h2, hc.2⟩])
theorem o_nilCheck {bl : BId} {off : Nat} (hx : evO fs x = some (.ptr bl off)) : OpV P fs h (.nilCheck x) (.ptr bl off) {} := .of rfl (by simp only [aop, evO_eq hx])
theorem o_nilCheck_f {f : FuncId} {l l' : List AV} (hx : evO fs x = some (.func f l l')) : OpV P fs h (.nilCheck x) (.func f l l') {} := .of rfl (by simp only [aop, evO_eq hx])

theorem o_bin {o : BinOp} {vx vy : AV} (hx : evO fs x = some vx) (hy : evO fs y = some vy) (hv : binA P o t vx vy = some v) : OpV P fs h (.binOp o t x y u) v {} := .of rfl (by simp only [aop, evO_eq hx, evO_eq hy, hv, Option.map_some])
theorem o_add (hx : evO fs x = some (.int k p)) (hy : evO fs y = some (.int k q)) (hr : k.wrap (p + q) = m) : OpV P fs h (.binOp .add t x y u) (.int k m) {} := o_bin hx hy (by simp only [binA, if_true, hr])
theorem o_sub (hx : evO fs x = some (.int k p)) (hy : evO fs y = some (.int k q)) (hr : k.wrap (p - q) = m) : OpV P fs h (.binOp .sub t x y u) (.int k m) {} := o_bin hx hy (by simp only [binA, if_true, hr])
theorem o_mul (hx : evO fs x = some (.int k p)) (hy : evO fs y = some (.int k q)) (hr : k.wrap (p * q) = m) : OpV P fs h (.binOp .mul t x y u) (.int k m) {} := o_bin hx hy (by simp only [binA, if_true, hr])
theorem o_quo (hx : evO fs x = some (.int k p)) (hy : evO fs y = some (.int k q)) (h0 : q ≠ 0) (hr : k.wrap (p.tdiv q) = m) : OpV P fs h (.binOp .quo t x y u) (.int k m) {} := o_bin hx hy (by simp only [binA, true_and]; rw [if_pos h0, hr])
theorem o_rem (hx : evO fs x = some (.int k p)) (hy : evO fs y = some (.int k q)) (h0 : q ≠ 0) : OpV P fs h (.binOp .rem t x y u) (.int k (p.tmod q)) {} := o_bin hx hy (by simp only [binA, true_and]; rw [if_pos h0])
theorem o_shl (hx : evO fs x = some (.int k p)) (hy : evO fs y = some (.int k' q)) (h0 : 0 ≤ q) (hr : k.wrap (p * 2 ^ (min q.toNat k.bits)) = m) : OpV P fs h (.binOp .shl t x y u) (.int k m) {} := o_bin hx hy (by simp only [binA]; rw [if_neg (by omega), hr])
theorem o_shr (hx : evO fs x = some (.int k p)) (hy : evO fs y = some (.int k' q)) (h0 : 0 ≤ q) (hr : p.fdiv (2 ^ (min q.toNat k.bits)) = m) : OpV P fs h (.binOp .shr t x y u) (.int k m) {} := o_bin hx hy (by simp only [binA]; rw [if_neg (by omega), hr])
theorem o_and (hx : evO fs x = some (.int k p)) (hy : evO fs y = some (.int k q)) (hr : k.wrap (BitVec.ofInt k.bits p &&& BitVec.ofInt k.bits q).toNat = m) : OpV P fs h (.binOp .and t x y u) (.int k m) {} := o_bin hx hy (by simp only [binA, if_true, hr])
theorem o_or (hx : evO fs x = some (.int k p)) (hy : evO fs y = some (.int k q)) (hr : k.wrap (BitVec.ofInt k.bits p ||| BitVec.ofInt k.bits q).toNat = m) : OpV P fs h (.binOp .or t x y u) (.int k m) {} := o_bin hx hy (by simp only [binA, if_true, hr])
theorem o_eql (hx : evO fs x = some (.int k p)) (hy : evO fs y = some (.int k q)) : OpV P fs h (.binOp .eql t x y u) (.bool (p == q)) {} := o_bin hx hy (by simp only [binA, if_true])
theorem o_neq (hx : evO fs x = some (.int k p)) (hy : evO fs y = some (.int k q)) : OpV P fs h (.binOp .neq t x y u) (.bool (p != q)) {} := o_bin hx hy (by simp only [binA, if_true])
theorem o_lss (hx : evO fs x = some (.int k p)) (hy : evO fs y = some (.int k q)) : OpV P fs h (.binOp .lss t x y u) (.bool (decide (p < q))) {} := o_bin hx hy (by simp only [binA, if_true])
theorem o_leq (hx : evO fs x = some (.int k p)) (hy : evO fs y = some (.int k q)) : OpV P fs h (.binOp .leq t x y u) (.bool (decide (p ≤ q))) {} := o_bin hx hy (by simp only [binA, if_true])
theorem o_gtr (hx : evO fs x = some (.int k p)) (hy : evO fs y = some (.int k q)) : OpV P fs h (.binOp .gtr t x y u) (.bool (decide (p > q))) {} := o_bin hx hy (by simp only [binA, if_true])
theorem o_geq (hx : evO fs x = some (.int k p)) (hy : evO fs y = some (.int k q)) : OpV P fs h (.binOp .geq t x y u) (.bool (decide (p ≥ q))) {} := o_bin hx hy (by simp only [binA, if_true])
theorem o_eqb {z z2 : Bool} (ht : tk P t = some .bool) (hx : evO fs x = some (.bool z)) (hy : evO fs y = some (.bool z2)) : OpV P fs h (.binOp .eql t x y u) (.bool (z == z2)) {} := o_bin hx hy (by simp only [binA, ht])
theorem o_neb {z z2 : Bool} (ht : tk P t = some .bool) (hx : evO fs x = some (.bool z)) (hy : evO fs y = some (.bool z2)) : OpV P fs h (.binOp .neq t x y u) (.bool (z != z2)) {} := o_bin hx hy (by simp only [binA, ht])
theorem o_eqa {l l' : List AV} {kk : TK} {r : List TK} {z : Bool} (hx : evO fs x = some (.agg l)) (hy : evO fs y = some (.agg l')) (ht : tk P t = some kk) (hr : kindsOf P 20 t = some r) (hc : (kk.agg && !P.eqGuardType P.depth t && fits r l && fits r l') = true) (hz : eqCells l l' = some z) :
    OpV P fs h (.binOp .eql t x y u) (.bool z) {} := o_bin hx hy (by simp only [binA, ht, hr]; rw [if_pos hc, hz]; rfl)
theorem o_nea {l l' : List AV} {kk : TK} {r : List TK} {z : Bool} (hx : evO fs x = some (.agg l)) (hy : evO fs y = some (.agg l')) (ht : tk P t = some kk) (hr : kindsOf P 20 t = some r) (hc : (kk.agg && !P.eqGuardType P.depth t && fits r l && fits r l') = true) (hz : eqCells l l' = some z) :
    OpV P fs h (.binOp .neq t x y u) (.bool (!z)) {} := o_bin hx hy (by simp only [binA, ht, hr]; rw [if_pos hc, hz]; rfl)

theorem o_neg (hx : evO fs x = some (.int k p)) (hr : k.wrap (0 - p) = m) : OpV P fs h (.unOp .neg t x) (.int k m) {} := .of rfl (by simp only [aop, evO_eq hx, unA, hr, Option.map_some])
theorem o_not {z : Bool} (hx : evO fs x = some (.bool z)) : OpV P fs h (.unOp .not t x) (.bool (!z)) {} := .of rfl (by simp only [aop, evO_eq hx, unA, Option.map_some])
theorem o_convert {kk : TK} (hs : tk P t = some kk) (hd : tk P u = some (.int k)) (hx : evO fs x = some (.int k' p)) (hr : k.wrap p = m) : OpV P fs h (.convert t u x) (.int k m) {} := .of rfl (by simp only [aop, hs, hd, evO_eq hx, hr])
theorem o_makeFunc {f : FuncId} {first cap : List Operand} {l l' : List AV} (h1 : evs fs first = some l) (h2 : evs fs cap = some l') : OpV P fs h (.makeFunc (.func f) first.toArray cap.toArray) (.func f l l') {} := .of rfl (by
  simp only [aop, evs_eq h1, evs_eq h2])
theorem o_fieldAddr {bl : BId} {off f oo s : Nat} {fl : List (Nat × TypeId)} {ft : TypeId} (hx : evO fs x = some (.ptr bl off)) (ht : tk P t = some (.st fl)) (hf : fl[f]? = some (oo, ft)) (hs : tsize P ft = some (s + 1)) {m : Nat} (hm : off + oo = m) :
    OpV P fs h (.fieldAddr t x f) (.ptr bl m) {} := .of rfl (by simp only [aop, evO_eq hx, ht, hf, hs, hm]; rw [if_neg (by omega)])
theorem o_field {f oo : Nat} {l : List AV} {fl : List (Nat × TypeId)} {ft : TypeId} (hx : evO fs x = some (.agg l)) (ht : tk P t = some (.st fl)) (hf : fl[f]? = some (oo, ft)) (hv : part? P ft l oo = some v) :
    OpV P fs h (.field t x f) v {} := .of rfl (by simp only [aop, evO_eq hx, ht, hf, hv, Option.map_some])
theorem o_indexAddr {bl : BId} {off n z s : Nat} {full : Bool} {el : TypeId} (ht : tk P t = some (.sl el)) (hs : tsize P el = some s) (hx : evO fs x = some (.sl bl off n z full)) (hi : evO fs i = some (.int k p)) (hr : 0 ≤ p ∧ p < n) {m : Nat} (hm : off + p.toNat * s = m) :
    OpV P fs h (.indexAddr t x i) (.ptr bl m) {} := .of rfl (by simp only [aop, evO_eq hx, evO_eq hi, ht, hs, hm]; rw [if_pos hr])
theorem o_indexAddr_arr {bl : BId} {off n s : Nat} {el : TypeId} (ht : tk P t = some (.arr n el)) (hs : tsize P el = some s) (hx : evO fs x = some (.ptr bl off)) (hi : evO fs i = some (.int k p)) (hr : 0 ≤ p ∧ p < n) {m : Nat} (hm : off + p.toNat * s = m) :
    OpV P fs h (.indexAddr t x i) (.ptr bl m) {} := .of rfl (by simp only [aop, evO_eq hx, evO_eq hi, ht, hs, hm]; rw [if_pos hr])
theorem o_index {l : List AV} {n s : Nat} {el : TypeId} (ht : tk P t = some (.arr n el)) (hs : tsize P el = some s) (hx : evO fs x = some (.agg l)) (hi : evO fs i = some (.int k p)) (hr : 0 ≤ p ∧ p < n) (hv : part? P el l (p.toNat * s) = some v) :
    OpV P fs h (.index t x i) v {} := .of rfl (by simp only [aop, evO_eq hx, evO_eq hi, ht, hs]; rw [if_pos hr, hv]; rfl)
theorem o_extract {l : List AV} {j : Nat} (hx : evO fs x = some (.tuple l)) (hv : l[j]? = some v) : OpV P fs h (.extract x j) v {} := .of rfl (by simp only [aop, evO_eq hx, hv, Option.map_some])
theorem o_makeSlice {el : TypeId} {s by_ nm : Nat} {z l : List AV} {fl : Bool} (ht : tk P t = some (.sl el)) (hs : tsize P el = some s) (hby : tbytes P el = some by_) (hz : tzero P el = some z) (hx : evO fs x = some (.int k p)) (hy : evO fs y = some (.int k' q))
    (hr : 0 ≤ p ∧ p ≤ q ∧ by_ * q ≤ 2 ^ 46 ∧ q ≤ 2 ^ 46 ∧ z.length = s ∧ 0 < s) (hl : zeros z (q.toNat * s) = l) (hfl : (p == q) = fl) (hn : h.ow.length = nm) :
    OpV P fs h (.makeSlice t x y) (.sl (.o nm) 0 p.toNat s fl) { newo := [(nm, l)] } := .of rfl (by simp only [aop, evO_eq hx, evO_eq hy, ht, hs, hby, hz, hl, hfl, hn]; rw [if_pos hr])

def evi (fs : Fs) (d : Int) : Option Operand → Option Int
  | none => some d
  | some x => match evO fs x with
    | some (.int _ n) => some n
    | _ => none

theorem evi_eq {d : Int} {lo : Option Operand} {n : Int} (hl : evi fs d lo = some n) : (lo.map fs.fr.ev).elim (some d) AV.int? = some n := by
  cases lo with
  | none => simpa [evi] using hl
  | some x =>
    simp only [evi] at hl
    split at hl
    · rename_i k m hx
      cases hl
      simp only [Option.map_some, Option.elim, evO_eq hx, AV.int?]
    · cases hl

theorem o_slice_sl {lo hi mx : Option Operand} {bl : BId} {off n s s' : Nat} {full fl : Bool} {el : TypeId} {li lj lm : Int} (ht : tk P t = some (.sl el)) (hs : tsize P el = some s') (hx : evO fs x = some (.sl bl off n s full))
    (h1 : evi fs 0 lo = some li) (h2 : evi fs n hi = some lj) (h3 : evi fs n mx = some lm) (hr : 0 ≤ li ∧ li ≤ lj ∧ lj ≤ lm ∧ lm ≤ n) (hss : Nat.beq s s' = true) (hmx : (!mx.isSome || hi.isSome) = true)
    {m r : Nat} (hm : off + li.toNat * s = m) (hj : (lj - li).toNat = r) (hfl : (if mx.isSome then lj == lm else full && lj == n) = fl) : OpV P fs h (.slice t x lo hi mx) (.sl bl m r s fl) {} := .of rfl (by
  have hss := Nat.eq_of_beq_eq_true hss
  simp only [aop, evO_eq hx, ht, hs, evi_eq h1, evi_eq h2, evi_eq h3, hm, hj, hfl]
  rw [if_pos ⟨hr.1, hr.2.1, hr.2.2.1, hr.2.2.2, hss, fun hh => by rw [hh] at hmx; simpa using hmx⟩])
theorem o_slice_arr {lo hi mx : Option Operand} {bl : BId} {off n s : Nat} {fl : Bool} {el : TypeId} {l : List AV} {li lj lm : Int} (ht : tk P t = some (.arr n el)) (hs : tsize P el = some s) (hx : evO fs x = some (.ptr bl off)) (hb : h.get bl = some l)
    (h1 : evi fs 0 lo = some li) (h2 : evi fs n hi = some lj) (h3 : evi fs n mx = some lm) (hr : 0 ≤ li ∧ li ≤ lj ∧ lj ≤ lm ∧ lm ≤ n) (hlen : off + n * s ≤ l.length ∧ 0 < n * s) (hmx : (!mx.isSome || hi.isSome) = true)
    {m r : Nat} (hm : off + li.toNat * s = m) (hj : (lj - li).toNat = r) (hfl : (lj == lm) = fl) : OpV P fs h (.slice t x lo hi mx) (.sl bl m r s fl) { rd := [(bl, off, n * s)] } := .of rfl (by
  simp only [aop, evO_eq hx, ht, hs, hb, evi_eq h1, evi_eq h2, evi_eq h3, hm, hj, hfl]
  rw [if_pos ⟨hr.1, hr.2.1, hr.2.2.1, hr.2.2.2, hlen.1, hlen.2, fun hh => by rw [hh] at hmx; simpa using hmx⟩])
theorem o_slice_nil {lo hi mx : Option Operand} {s : Nat} {el : TypeId} {li lj lm : Int} (ht : tk P t = some (.sl el)) (hs : tsize P el = some s) (hx : evO fs x = some .nilsl)
    (h1 : evi fs 0 lo = some li) (h2 : evi fs 0 hi = some lj) (h3 : evi fs 0 mx = some lm) (hr : li = 0 ∧ lj = 0 ∧ lm = 0) (hmx : (!mx.isSome || hi.isSome) = true) : OpV P fs h (.slice t x lo hi mx) .nilsl {} := .of rfl (by
  simp only [aop, evO_eq hx, ht, hs, evi_eq h1, evi_eq h2, evi_eq h3]
  rw [if_pos ⟨hr.1, hr.2.1, hr.2.2, fun hh => by rw [hh] at hmx; simpa using hmx⟩])

/-! builtins -/

variable {ts : List TypeId} {as : List Operand}

theorem o_len {bl : BId} {off n z : Nat} {full : Bool} {el : TypeId} (ht : tk P t = some (.sl el)) (hx : evO fs x = some (.sl bl off n z full)) : OpV P fs h (.call ⟨.builtin .len, #[x], #[t]⟩) (.int .i64 n) {} := .of rfl (by
  simp only [aop, List.map_cons, evO_eq hx, bopA, ht])
theorem o_len_nil {el : TypeId} (ht : tk P t = some (.sl el)) (hx : evO fs x = some .nilsl) : OpV P fs h (.call ⟨.builtin .len, #[x], #[t]⟩) (.int .i64 0) {} := .of rfl (by
  simp only [aop, List.map_cons, evO_eq hx, bopA, ht])
theorem o_len_arr {el : TypeId} {n : Nat} (ht : tk P t = some (.arr n el)) : OpV P fs h (.call ⟨.builtin .len, #[x], #[t]⟩) (.int .i64 n) {} := .of rfl (by
  simp only [aop, List.map_cons, bopA, ht])
theorem o_max {tt : Array TypeId} (hx : evO fs x = some (.int k p)) (hy : evO fs y = some (.int k' q)) (hr : (if q > p then q else p) = m) : OpV P fs h (.call ⟨.builtin .max, #[x, y], tt⟩) (.int k m) {} := .of rfl (by
  simp only [aop, List.map_cons, List.map_nil, evO_eq hx, evO_eq hy, bopA, hr])
theorem o_min {tt : Array TypeId} (hx : evO fs x = some (.int k p)) (hy : evO fs y = some (.int k' q)) (hr : (if q < p then q else p) = m) : OpV P fs h (.call ⟨.builtin .min, #[x, y], tt⟩) (.int k m) {} := .of rfl (by
  simp only [aop, List.map_cons, List.map_nil, evO_eq hx, evO_eq hy, bopA, hr])

theorem o_append_none {s : AV} {el el' : TypeId} {sz by_ : Nat} {z : List AV} (ht : tk P t = some (.sl el)) (hu : tk P u = some (.sl el')) (hs : tsize P el = some sz) (hby : tbytes P el = some by_) (hz : tzero P el = some z) (hzl : Nat.beq z.length sz = true)
    (hx : evO fs x = some s) (hsl : s.isSl = true) (hy : evO fs y = some .nilsl) : OpV P fs h (.call ⟨.builtin .append, #[x, y], #[t, u]⟩) s {} := .of rfl (by
  have hzl := Nat.eq_of_beq_eq_true hzl
  simp only [aop, List.map_cons, List.map_nil, evO_eq hx, evO_eq hy, bopA, ht, hu, hs, hby, hz]
  rw [if_neg (by simp [hzl])]
  simp only [hsl, if_true])
theorem o_append_nothing {s : AV} {el el' : TypeId} {sz by_ : Nat} {z : List AV} {bl : BId} {off z1 : Nat} {fl : Bool} (ht : tk P t = some (.sl el)) (hu : tk P u = some (.sl el')) (hs : tsize P el = some sz) (hby : tbytes P el = some by_) (hz : tzero P el = some z) (hzl : Nat.beq z.length sz = true)
    (hx : evO fs x = some s) (hsl : s.isSl = true) {n : Nat} (hy : evO fs y = some (.sl bl off n z1 fl)) (hn0 : n = 0) : OpV P fs h (.call ⟨.builtin .append, #[x, y], #[t, u]⟩) s {} := .of rfl (by
  have hzl := Nat.eq_of_beq_eq_true hzl
  simp only [aop, List.map_cons, List.map_nil, evO_eq hx, evO_eq hy, bopA, ht, hu, hs, hby, hz]
  rw [if_neg (by simp [hzl]), if_pos hn0]
  simp only [hsl, if_true])
theorem o_append_nil {el el' : TypeId} {sz by_ n off nm z1 : Nat} {z l l1 : List AV} {bl : BId} {fl : Bool} (ht : tk P t = some (.sl el)) (hu : tk P u = some (.sl el')) (hs : tsize P el = some sz) (hby : tbytes P el = some by_) (hz : tzero P el = some z) (hzl : Nat.beq z.length sz = true)
    (hx : evO fs x = some .nilsl) (hy : evO fs y = some (.sl bl off n z1 fl)) (hb : h.get bl = some l) (hr : n ≠ 0 ∧ off + n * sz ≤ l.length ∧ n * by_ ≤ 2 ^ 46 ∧ n ≤ 2 ^ 46) (hl1 : (l.drop off).take (n * sz) = l1) (hsc : l1.all AV.scalar = true) (hn : h.ow.length = nm) :
    OpV P fs h (.call ⟨.builtin .append, #[x, y], #[t, u]⟩) (.sl (.o nm) 0 n sz false) { rd := [(bl, off, n * sz)], newo := [(nm, l1)] } := .of rfl (by
  have hzl := Nat.eq_of_beq_eq_true hzl
  simp only [aop, List.map_cons, List.map_nil, evO_eq hx, evO_eq hy, bopA, ht, hu, hs, hby, hz, hb, hl1, hn]
  rw [if_neg (by simp [hzl]), if_neg hr.1, if_neg (by simp only [hsc]; intro hh; rcases hh with hh | hh; omega; cases hh), if_pos ⟨hr.2.2.1, hr.2.2.2⟩])
theorem o_append_own {el el' : TypeId} {sz by_ n off m off' j nm z1 : Nat} {z l l' l1 l2 : List AV} {bl : BId} {fl : Bool} (ht : tk P t = some (.sl el)) (hu : tk P u = some (.sl el')) (hs : tsize P el = some sz) (hby : tbytes P el = some by_) (hz : tzero P el = some z) (hzl : Nat.beq z.length sz = true)
    (hx : evO fs x = some (.sl (.o j) off' m sz false)) (hy : evO fs y = some (.sl bl off n z1 fl)) (hb : h.get bl = some l) (hb' : h.get (.o j) = some l') (hr : n ≠ 0 ∧ off + n * sz ≤ l.length ∧ off' + m * sz ≤ l'.length ∧ (m + n) * by_ ≤ 2 ^ 46 ∧ m + n ≤ 2 ^ 46)
    (hl1 : (l.drop off).take (n * sz) = l1) (hl2 : (l'.drop off').take (m * sz) = l2) (hsc : l1.all AV.scalar = true) (hn : h.ow.length = nm) {mn : Nat} (hmn : m + n = mn) :
    OpV P fs h (.call ⟨.builtin .append, #[x, y], #[t, u]⟩) (.sl (.o nm) 0 mn sz false) { rd := [(bl, off, n * sz), (.o j, off', m * sz)], kill := [j], newo := [(nm, l2 ++ l1)] } := .of rfl (by
  have hzl := Nat.eq_of_beq_eq_true hzl
  simp only [aop, List.map_cons, List.map_nil, evO_eq hx, evO_eq hy, bopA, ht, hu, hs, hby, hz, hb, hb', hl1, hl2, hn]
  rw [if_neg (by simp [hzl]), if_neg hr.1, if_neg (by simp only [hsc]; intro hh; rcases hh with hh | hh; omega; cases hh), if_neg (by omega), hmn]
  simp)
theorem o_append_full {el el' : TypeId} {sz by_ n off m off' nm z1 : Nat} {z l l' l1 l2 : List AV} {bl bl' : BId} {fl : Bool} (ht : tk P t = some (.sl el)) (hu : tk P u = some (.sl el')) (hs : tsize P el = some sz) (hby : tbytes P el = some by_) (hz : tzero P el = some z) (hzl : Nat.beq z.length sz = true)
    (hx : evO fs x = some (.sl bl' off' m sz true)) (hy : evO fs y = some (.sl bl off n z1 fl)) (hb : h.get bl = some l) (hb' : h.get bl' = some l') (hr : n ≠ 0 ∧ off + n * sz ≤ l.length ∧ off' + m * sz ≤ l'.length ∧ (m + n) * by_ ≤ 2 ^ 46 ∧ m + n ≤ 2 ^ 46)
    (hl1 : (l.drop off).take (n * sz) = l1) (hl2 : (l'.drop off').take (m * sz) = l2) (hsc : l1.all AV.scalar = true) (hn : h.ow.length = nm) {mn : Nat} (hmn : m + n = mn) :
    OpV P fs h (.call ⟨.builtin .append, #[x, y], #[t, u]⟩) (.sl (.o nm) 0 mn sz false) { rd := [(bl, off, n * sz), (bl', off', m * sz)], newo := [(nm, l2 ++ l1)] } := .of rfl (by
  have hzl := Nat.eq_of_beq_eq_true hzl
  simp only [aop, List.map_cons, List.map_nil, evO_eq hx, evO_eq hy, bopA, ht, hu, hs, hby, hz, hb, hb', hl1, hl2, hn]
  rw [if_neg (by simp [hzl]), if_neg hr.1, if_neg (by simp only [hsc]; intro hh; rcases hh with hh | hh; omega; cases hh), if_neg (by omega), hmn]
  simp)
theorem o_copy {el : TypeId} {tt : List TypeId} {sz j off m z1 off' n z2 : Nat} {f1 f2 : Bool} {bl : BId} {l l' l1 : List AV} (ht : tk P t = some (.sl el)) (hs : tsize P el = some sz) (hx : evO fs x = some (.sl (.o j) off m z1 f1)) (hy : evO fs y = some (.sl bl off' n z2 f2))
    (hz : (Nat.beq z1 sz && Nat.beq z2 sz) = true) (hb : h.get (.o j) = some l) (hb' : h.get bl = some l') {mn : Nat} (hmn : min n m = mn) (hr : mn ≠ 0 ∧ off + mn * sz ≤ l.length ∧ off' + mn * sz ≤ l'.length) (hl1 : (l'.drop off').take (mn * sz) = l1) (hsc : l1.all AV.scalar = true) :
    OpV P fs h (.call ⟨.builtin .copy, #[x, y], (t :: tt).toArray⟩) (.int .i64 mn) { rd := [(bl, off', mn * sz)], wr := [(j, off, l1)] } := .of rfl (by
  simp only [Bool.and_eq_true] at hz
  have hz1 := Nat.eq_of_beq_eq_true hz.1
  have hz2 := Nat.eq_of_beq_eq_true hz.2
  simp only [aop, List.map_cons, List.map_nil, evO_eq hx, evO_eq hy, bopA, ht, hs, hb, hb', hl1, hmn]
  rw [if_neg (by omega), if_neg hr.1, if_neg (by simp only [hsc]; intro hh; rcases hh with hh | hh | hh; omega; omega; cases hh)])

/-- a call of a Go function, by its contract -/
theorem o_call {f : Operand} {as : List Operand} {tt : Array TypeId} {kf : FuncId} {la lb xs all args : List AV} {S : CS} {r : Res} {no nr : Nat} (hf : evO fs f = some (.func kf la lb)) (hxs : evs fs as = some xs) (hall : la ++ xs ++ lb = all)
    (hcan : canL (canV 6 h.get false) {} all = some (args, S)) (hok : S.ok h.get = true) (hC : SoundC P kf args ⟨S.rc, S.oc.map some⟩ r)
    (hlim : ((r.wr.all fun x => Nat.blt x.1 S.os.length) && (r.kill.all fun j => Nat.blt j S.os.length)) = true) (hno : h.ow.length = no) (hnr : h.ro.length = nr) {v : AV} {e : Eff} (hv : reV (S.de no nr) r.val = v) (he : S.eff r no nr = e) :
    OpV P fs h (.call ⟨.value f, as.toArray, tt⟩) v e := by
  classical
  refine ⟨fun k' a' h' => if k' = kf ∧ a' = args ∧ h' = ⟨S.rc, S.oc.map some⟩ then some r else none, fun k' a' h' r' hr' => ?_, ?_⟩
  · simp only at hr'
    split at hr'
    · rename_i hh
      obtain ⟨rfl, rfl, rfl⟩ := hh
      cases hr'
      exact hC
    · cases hr'
  · simp only [opE, evO_eq hf, evs_eq hxs, hall]
    unfold callE
    simp only [hcan, hok, if_true, and_self]
    have : ((r.wr.all fun x => decide (x.1 < S.os.length)) && (r.kill.all fun j => decide (j < S.os.length))) = true := by
      rw [← hlim]
      have hd : ∀ a b : Nat, decide (a < b) = Nat.blt a b := fun a b => by
        rw [Bool.eq_iff_iff]; simp [Nat.blt_eq]
      simp only [hd]
    rw [if_pos this, hno, hnr, hv, he]

end
end Go.Sym
