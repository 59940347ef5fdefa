/- Operations under a guard whose truth isn't known; regions whose end is told anew. -/
import Derived.Test.YtnkijhpikeokfaaS23
set_option linter.unusedSimpArgs false
set_option linter.unusedVariables false
namespace Go.Sym
open Go

section
variable {P : Program} {ops : Array Oper} {os : List Oper} {fs : Fs} {h : H} {K : Fs → H → Prop} {rs : List Rc} {KV : List Rc → Fs → H → Prop} {d : Nat} {op : Op} {ty : TypeId} {pos : String} {aft : Array Edge} {v : AV} {e : Eff}

theorem gm_rec {j : Nat} {z want : Bool} (hg : guardO ops fs j = some (.bool z)) (hop : OpV P fs h op v {}) {dst : Option Tmp} : RecR P ops fs.fr h ⟨dst, op, ty, pos, aft, some (j, want)⟩ (if z == want then v else .tuple []) {} := by
  cases hz : (z == want) with
  | true => exact .inl ⟨by rw [guard_want hg rfl, hz], by rw [if_pos rfl]; exact hop⟩
  | false => exact .inr ⟨by rw [guard_want hg rfl, hz], by simp, rfl⟩

theorem RunF.gm {j : Nat} {z want : Bool} (hg : guardO ops fs j = some (.bool z)) (hop : OpV P fs h op v {}) (k : RunF P ops os ((d, if z == want then v else .tuple []) :: fs) h K) : RunF P ops (⟨some d, op, ty, pos, aft, some (j, want)⟩ :: os) fs h K :=
  ⟨_, _, gm_rec hg hop, by rw [H.app_nil]; exact k⟩
theorem RunV.gm {j : Nat} {z want : Bool} (hg : guardO ops fs j = some (.bool z)) (hop : OpV P fs h op v {}) (k : RunV P ops os (⟨if z == want then v else .tuple [], {}⟩ :: rs) ((d, if z == want then v else .tuple []) :: fs) h KV) : RunV P ops (⟨some d, op, ty, pos, aft, some (j, want)⟩ :: os) rs fs h KV :=
  ⟨_, _, gm_rec hg hop, by rw [H.app_nil]; exact k⟩

variable {x y a b c i : Operand} {t u : TypeId} {z w : Bool}

theorem o_pick_or (hc : evO fs c = some (.bool z)) (ha : evO fs a = some (.bool true)) (hb : evO fs b = some (if z == false then .bool w else .tuple [])) : OpV P fs h (.pick c a b) (.bool (z || w)) {} := .of rfl (by
  simp only [aop, evO_eq hc, evO_eq ha, evO_eq hb]; cases z <;> rfl)
theorem o_pick_and (hc : evO fs c = some (.bool z)) (ha : evO fs a = some (if z == true then .bool w else .tuple [])) (hb : evO fs b = some (.bool false)) : OpV P fs h (.pick c a b) (.bool (z && w)) {} := .of rfl (by
  simp only [aop, evO_eq hc, evO_eq ha, evO_eq hb]; cases z <;> rfl)

/-- an operation whose truth decides what comes -/
theorem RunF.br (hop : OpV P fs h op (.bool z) e) (hq : e.quiet = true) (k1 : z = true → RunF P ops os ((d, .bool true) :: fs) h K) (k2 : z = false → RunF P ops os ((d, .bool false) :: fs) h K) : RunF P ops (⟨some d, op, ty, pos, aft, none⟩ :: os) fs h K := by
  cases z with
  | true => exact RunF.q hop hq (k1 rfl)
  | false => exact RunF.q hop hq (k2 rfl)
theorem RunV.br (hop : OpV P fs h op (.bool z) e) (hq : e.quiet = true) (k1 : z = true → RunV P ops os (⟨.bool true, e⟩ :: rs) ((d, .bool true) :: fs) h KV) (k2 : z = false → RunV P ops os (⟨.bool false, e⟩ :: rs) ((d, .bool false) :: fs) h KV) : RunV P ops (⟨some d, op, ty, pos, aft, none⟩ :: os) rs fs h KV := by
  cases z with
  | true => exact RunV.q hop hq (k1 rfl)
  | false => exact RunV.q hop hq (k2 rfl)
theorem RunF.gb {j : Nat} {b : Bool} (hg : guardO ops fs j = some (.bool b)) (hop : OpV P fs h op (.bool z) e) (hq : e.quiet = true) (k1 : z = true → RunF P ops os ((d, .bool true) :: fs) h K) (k2 : z = false → RunF P ops os ((d, .bool false) :: fs) h K) : RunF P ops (⟨some d, op, ty, pos, aft, some (j, b)⟩ :: os) fs h K := by
  cases z with
  | true => exact RunF.gq hg hop hq (k1 rfl)
  | false => exact RunF.gq hg hop hq (k2 rfl)
theorem RunV.gb {j : Nat} {b : Bool} (hg : guardO ops fs j = some (.bool b)) (hop : OpV P fs h op (.bool z) e) (hq : e.quiet = true) (k1 : z = true → RunV P ops os (⟨.bool true, e⟩ :: rs) ((d, .bool true) :: fs) h KV) (k2 : z = false → RunV P ops os (⟨.bool false, e⟩ :: rs) ((d, .bool false) :: fs) h KV) : RunV P ops (⟨some d, op, ty, pos, aft, some (j, b)⟩ :: os) rs fs h KV := by
  cases z with
  | true => exact RunV.gq hg hop hq (k1 rfl)
  | false => exact RunV.gq hg hop hq (k2 rfl)

variable {no nr n : Nat} {Q : APost}

theorem RunS.weaken {ops : Array Oper} {K K' : Fr → H → Prop} (hk : ∀ fr h, K fr h → K' fr h) : ∀ (os : List Oper) (fr : Fr) (h : H), RunS P ops os fr h K → RunS P ops os fr h K'
  | [], fr, h, hr => hk fr h hr
  | o :: os, fr, h, ⟨v, e, h1, h2⟩ => ⟨v, e, h1, RunS.weaken hk os _ _ h2⟩

/-- a region whose end is told anew -/
theorem AW.regionTo {id : Nat} {os : List Oper} {fs2 : Fs} {h2 : H} (hedge : edgesOK n os.toArray = true) (hr : RunF P os.toArray os fs h fun fs h => Wk no nr fs h fs2 h2) (hq : Q .normal fs2 h2) : AW P no nr n (.region id os.toArray false) Q fs h := fun ρ0 w0 hW a w hh => by
  refine wp_region ?_
  have := region_text (Q := fun e a' w' => ∃ fs' h', Q e fs' h' ∧ Holds ρ0 w0 n fs'.fr h' a' w') (ρ0 := ρ0) (w0 := w0) (ops := os.toArray) (edgesOK_spec hedge).2
    (fun fr h a w ⟨fs', e, hk⟩ hh => ⟨fs2, h2, hq, hk ρ0 w0 n hW a w (by rw [e]; exact hh)⟩) os 0 fs.fr h a w (by simp) (RunF.runS _ _ _ hr) hh
  rw [List.range_eq_range']
  simpa using this

theorem AW.drawsTo {id : Nat} {os : List Oper} {fs2 : Fs} {h2 : H} (hm : P.follows .mixedOrders = true) (hedge : edgesOK n os.toArray = true) (hr : RunV P os.toArray os [] fs h fun rs fs h => pairsOK os.toArray rs = true ∧ Wk no nr fs h fs2 h2) (hq : Q .normal fs2 h2) :
    AW P no nr n (.region id os.toArray true) Q fs h := fun ρ0 w0 hW a w hh => by
  refine wp_region_any hm ?_
  refine region_draws (ρ0 := ρ0) (w0 := w0) (K := fun fr h => ∃ fs, Fs.fr fs = fr ∧ Wk no nr fs h fs2 h2) hedge (RunV.runW _ _ _ _ (by simpa using hr)) (fun fr h a w ⟨fs', e, hk⟩ hh => ⟨fs2, h2, hq, hk ρ0 w0 n hW a w (by rw [e]; exact hh)⟩) ?_
  obtain ⟨ρ, h1, h2, h3, h4⟩ := hh
  exact ⟨ρ, h1, SR.drew h2, h3.trans (Tr.drew _ _), h4⟩

end
end Go.Sym
