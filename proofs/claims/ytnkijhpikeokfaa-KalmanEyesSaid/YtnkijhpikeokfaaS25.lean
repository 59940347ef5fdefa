/- What a call sees, found step by step. -/
import Derived.Test.YtnkijhpikeokfaaS24
set_option linter.unusedSimpArgs false
set_option linter.unusedVariables false
namespace Go.Sym
open Go

section
variable {f : Nat} {g : Gh} {d : Bool} {S S1 S2 : CS} {v v' : AV} {vs vs' l l' w w' : List AV}

theorem cl_nil {cv : CS → AV → Option (AV × CS)} : canVs cv S [] = some ([], S) := rfl
theorem cl_cons {cv : CS → AV → Option (AV × CS)} (h1 : cv S v = some (v', S1)) (h2 : canVs cv S1 vs = some (vs', S2)) : canVs cv S (v :: vs) = some (v' :: vs', S2) := by
  simp only [canVs, h1, h2]
theorem cv_flat (h : v.flat = true) : canV (f + 1) g d S v = some (v, S) := by
  cases v <;> simp [AV.flat] at h <;> rfl
theorem canVs_flat : ∀ {l : List AV}, l.all AV.flat = true → canVs (canV (f + 1) g d) S l = some (l, S)
  | [], _ => rfl
  | v :: l, h => by
    simp only [List.all_cons, Bool.and_eq_true] at h
    exact cl_cons (cv_flat h.1) (canVs_flat h.2)
theorem cL_flat {cv : CS → AV → Option (AV × CS)} (h : l.all AV.flat = true) : canL cv S l = some (l, S) := by simp only [canL, h, if_true]
theorem cL_vs (h : canVs (canV (f + 1) g d) S l = some (l', S1)) : canL (canV (f + 1) g d) S l = some (l', S1) := by
  unfold canL
  split
  · rename_i hf
    rw [canVs_flat hf] at h; exact h
  · exact h
theorem cv_agg (h : canL (canV f g d) S l = some (l', S1)) : canV (f + 1) g d S (.agg l) = some (.agg l', S1) := by simp only [canV, h, Option.map_some]
theorem cv_tuple (h : canL (canV f g d) S l = some (l', S1)) : canV (f + 1) g d S (.tuple l) = some (.tuple l', S1) := by simp only [canV, h, Option.map_some]
theorem cv_func {k : FuncId} (h1 : canL (canV f g d) S l = some (l', S1)) (h2 : canL (canV f g d) S1 w = some (w', S2)) : canV (f + 1) g d S (.func k l w) = some (.func k l' w', S2) := by simp only [canV, h1, h2, Option.map_some]
theorem cO_old {cl : CS → List AV → Option (List AV × CS)} {m j : Nat} (h : idx m S.os = some j) : canO cl g S m = some (j, S) := by simp only [canO, h]
theorem cO_new {cl : CS → List AV → Option (List AV × CS)} {m j : Nat} (h : idx m S.os = none) (hl : g (.o m) = some l) (hc : cl { S with os := S.os ++ [m], oc := S.oc ++ [[]] } l = some (l', S2)) (hj : S.os.length = j) (hS : { S2 with oc := S2.oc.set j l' } = S1) : canO cl g S m = some (j, S1) := by
  simp only [canO, h, hl, hc, hj, hS]
theorem cv_ptr_o {m j off : Nat} (h : canO (canL (canV f g true)) g S m = some (j, S1)) : canV (f + 1) g d S (.ptr (.o m) off) = some (.ptr (.o j) off, S1) := by simp only [canV, h, Option.map_some]
theorem cv_ptr_r {m j off : Nat} (hb : g (.r m) = some l) (h : canL (canV f g false) S l = some (l', S1)) (hj : S1.rs.length = j) (hS : { S1 with rs := S1.rs ++ [(.r m, 0)], rc := S1.rc ++ [l'] } = S2) : canV (f + 1) g d S (.ptr (.r m) off) = some (.ptr (.r j) off, S2) := by
  simp only [canV, hb, h, Option.map_some, hj, hS]
theorem cv_sl_o {b : BId} {m j off n z : Nat} {full : Bool} (ho : ownIf (d && !full) b = some m) (h : canO (canL (canV f g true)) g S m = some (j, S1)) : canV (f + 1) g d S (.sl b off n z full) = some (.sl (.o j) off n z full, S1) := by
  simp only [canV, ho, h, Option.map_some]
theorem cv_sl_r {b : BId} {j off n z : Nat} {full : Bool} (ho : ownIf (d && !full) b = none) (hb : g b = some l) (hle : off + n * z ≤ l.length) (hw : (l.drop off).take (n * z) = w) (h : canL (canV f g false) S w = some (w', S1)) (hj : S1.rs.length = j)
    (hS : { S1 with rs := S1.rs ++ [(b, off)], rc := S1.rc ++ [w'] } = S2) : canV (f + 1) g d S (.sl b off n z full) = some (.sl (.r j) 0 n z full, S2) := by
  simp only [canV, ho, hb, hle, if_true, window_eq, hw, h, Option.map_some, hj, hS]

theorem ress_nil {P : Program} {fs : Fs} {h : H} : ress P fs h [] = some [] := rfl
theorem ress_tmp {P : Program} {fs : Fs} {h : H} {t : Nat} {r : List ResultVar} (h1 : look fs t = some v) (h2 : ress P fs h r = some vs) : ress P fs h (.tmp t :: r) = some (v :: vs) := by simp only [ress, resO, h1, h2]
theorem ress_agg {P : Program} {fs : Fs} {h : H} {a n off : Nat} {t : TypeId} {k : TK} {b : BId} {r : List ResultVar} (ha : look fs a = some (.ptr b off)) (hk : tk P t = some k) (hs : tsize P t = some n) (hb : h.get b = some l) (hka : k.agg = true) (hle : Nat.ble (off + n) l.length = true)
    (h2 : ress P fs h r = some vs) : ress P fs h (.cell a t :: r) = some (.agg ((l.drop off).take n) :: vs) := by
  have hle := Nat.le_of_ble_eq_true hle
  simp only [ress, resO, ha, hk, hs, hb, hka, if_true, hle, h2]
theorem ress_cell {P : Program} {fs : Fs} {h : H} {a n off : Nat} {t : TypeId} {k : TK} {b : BId} {r : List ResultVar} (ha : look fs a = some (.ptr b off)) (hk : tk P t = some k) (hs : tsize P t = some n) (hb : h.get b = some l) (hka : k.agg = false) (hv : l[off]? = some v)
    (h2 : ress P fs h r = some vs) : ress P fs h (.cell a t :: r) = some (v :: vs) := by
  simp only [ress, resO, ha, hk, hs, hb, hka, Bool.false_eq_true, if_false, hv, h2]

mutual
/-- no names in it -/
def AV.bare : AV → Bool
  | .ptr .. | .sl .. => false
  | .func _ a b => bareL a && bareL b
  | .agg l => bareL l
  | .tuple l => bareL l
  | _ => true
def bareL : List AV → Bool
  | [] => true
  | a :: l => a.bare && bareL l
end
mutual
theorem reV_bare (τ : BId → BId × Nat) : ∀ v : AV, v.bare = true → reV τ v = v
  | .top, _ => rfl
  | .bool _, _ => rfl
  | .int _ _, _ => rfl
  | .str _, _ => rfl
  | .nilptr, _ => rfl
  | .nilsl, _ => rfl
  | .nilfunc, _ => rfl
  | .ptr .., h => by simp [AV.bare] at h
  | .sl .., h => by simp [AV.bare] at h
  | .func k a b, h => by
    simp only [AV.bare, Bool.and_eq_true] at h
    simp only [reV, reVs_bare τ a h.1, reVs_bare τ b h.2, ite_self]
  | .agg l, h => by
    simp only [AV.bare] at h
    simp only [reV, reVs_bare τ l h, ite_self]
  | .tuple l, h => by
    simp only [AV.bare] at h
    simp only [reV, reVs_bare τ l h, ite_self]
theorem reVs_bare (τ : BId → BId × Nat) : ∀ l : List AV, bareL l = true → reVs τ l = l
  | [], _ => rfl
  | a :: l, h => by
    simp only [bareL, Bool.and_eq_true] at h
    simp only [reVs, reV_bare τ a h.1, reVs_bare τ l h.2]
end
theorem reL_ints (τ : BId → BId × Nat) (l : List Int) : reL τ (ints l) = ints l := by unfold reL; rw [if_pos (ints_flat l)]
theorem reL_flat (τ : BId → BId × Nat) (l : List AV) (h : l.all AV.flat = true) : reL τ l = l := by unfold reL; rw [if_pos h]

end
end Go.Sym
