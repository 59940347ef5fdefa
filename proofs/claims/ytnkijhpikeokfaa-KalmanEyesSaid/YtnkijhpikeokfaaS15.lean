/- What a call sees hangs on the cells alone that it is said to read. -/
import Derived.Test.YtnkijhpikeokfaaS14
set_option linter.unusedSimpArgs false
set_option linter.unusedVariables false
namespace Go.Sym
open Go

def AgS (S : CS) (g g2 : Gh) : Prop :=
  (∀ (j : Nat) (b : BId) (s : Nat) (c : List AV), S.rs[j]? = some (b, s) → S.rc[j]? = some c → ∀ l, g b = some l → ∃ l2, g2 b = some l2 ∧ l2.length = l.length ∧ ∀ i, s ≤ i → i < s + c.length → l2[i]? = l[i]?) ∧
  (∀ m, m ∈ S.os → g2 (.o m) = g (.o m))

theorem AgS.le {S S' : CS} {g g2 : Gh} (h : AgS S' g g2) (hle : S.le S') : AgS S g g2 := by
  obtain ⟨⟨x, hx⟩, ⟨y, hy⟩, ⟨z, hz⟩⟩ := hle
  refine ⟨fun j b s c h1 h2 => h.1 j b s c (by rw [hx]; exact getElem?_app h1) (by rw [hz]; exact getElem?_app h2), fun m hm => h.2 m (by rw [hy]; simp [hm])⟩

section
variable {g g2 : Gh}

theorem canVs_local {cv cv2 : CS → AV → Option (AV × CS)} (hcv : ∀ S v v' S', cv S v = some (v', S') → CSOK g S → CSOK g S' ∧ S.le S' ∧ RN true S'.ren v' v)
    (hl : ∀ S v v' S', cv S v = some (v', S') → CSOK g S → AgS S' g g2 → cv2 S v = some (v', S')) :
    ∀ (l : List AV) (S S' : CS) (l' : List AV), canVs cv S l = some (l', S') → CSOK g S → AgS S' g g2 → canVs cv2 S l = some (l', S')
  | [], S, S', l', h, _, _ => h
  | v :: l, S, S', l', h, hS, ha => by
    simp only [canVs] at h ⊢
    split at h
    · cases h
    · rename_i v' S1 h1
      split at h
      · cases h
      · rename_i vs' S2 h2
        cases h
        obtain ⟨k1, k2, k3⟩ := hcv _ _ _ _ h1 hS
        obtain ⟨k4, k5, k6⟩ := canVs_ok hcv l S1 S' vs' h2 k1
        rw [hl _ _ _ _ h1 hS (ha.le k5)]
        simp only
        rw [canVs_local hcv hl l S1 S' vs' h2 k1 ha]

theorem canL_local {cv cv2 : CS → AV → Option (AV × CS)} (hcv : ∀ S v v' S', cv S v = some (v', S') → CSOK g S → CSOK g S' ∧ S.le S' ∧ RN true S'.ren v' v)
    (hl : ∀ S v v' S', cv S v = some (v', S') → CSOK g S → AgS S' g g2 → cv2 S v = some (v', S'))
    {l : List AV} {S S' : CS} {l' : List AV} (h : canL cv S l = some (l', S')) (hS : CSOK g S) (ha : AgS S' g g2) : canL cv2 S l = some (l', S') := by
  unfold canL at h ⊢
  split at h
  · rename_i hf; rw [if_pos hf]; exact h
  · rename_i hf; rw [if_neg hf]; exact canVs_local hcv hl l S S' l' h hS ha

theorem canO_local {cl cl2 : CS → List AV → Option (List AV × CS)} (hcl : ∀ S l l' S', cl S l = some (l', S') → CSOK g S → CSOK g S' ∧ S.le S' ∧ RNs true S'.ren l' l)
    (hl : ∀ S l l' S', cl S l = some (l', S') → CSOK g S → AgS S' g g2 → cl2 S l = some (l', S'))
    {S S' : CS} {m j : Nat} (h : canO cl g S m = some (j, S')) (hS : CSOK g S) (ha : AgS S' g g2) : canO cl2 g2 S m = some (j, S') := by
  unfold canO at h ⊢
  split at h
  · rename_i j' hj; exact h
  · rename_i hj
    split at h
    · cases h
    · rename_i l hlm
      split at h
      · cases h
      · rename_i l' S2 h2
        cases h
        have hS1 : CSOK g { S with os := S.os ++ [m], oc := S.oc ++ [[]] } := by
          have hle1 : S.le { S with os := S.os ++ [m], oc := S.oc ++ [[]] } := ⟨⟨[], by simp⟩, ⟨_, rfl⟩, ⟨[], by simp⟩⟩
          refine ⟨hS.rlen, by simp [hS.olen], fun j b s c h1 h2 => ?_, fun j m' c h1 h2 => ?_, ?_⟩
          · obtain ⟨l', k1, k0, k2⟩ := hS.rok j b s c h1 h2
            exact ⟨l', k1, k0, fun i v' hi => by
              obtain ⟨v, k3, k4⟩ := k2 i v' hi
              exact ⟨v, k3, RN.ext (CS.le_ren hle1) _ _ k4⟩⟩
          · simp only at h1 h2
            by_cases hj : j < S.os.length
            · rw [List.getElem?_append_left hj] at h1
              rw [List.getElem?_append_left (by rw [← hS.olen]; exact hj)] at h2
              obtain ⟨l', k1, k0, k2⟩ := hS.ook j m' c h1 h2
              exact ⟨l', k1, k0, fun i v' hi => by
                obtain ⟨v, k3, k4⟩ := k2 i v' hi
                exact ⟨v, k3, RN.ext (CS.le_ren hle1) _ _ k4⟩⟩
            · rw [List.getElem?_append_right (by omega)] at h1
              rw [List.getElem?_append_right (by rw [← hS.olen]; omega), ← hS.olen] at h2
              by_cases e : j - S.os.length = 0
              · rw [e] at h1 h2
                simp only [List.getElem?_cons_zero, Option.some.injEq] at h1 h2
                subst h1; subst h2
                exact ⟨l, hlm, by simp, fun i v' hi => by simp at hi⟩
              · rw [List.getElem?_eq_none (by simp; omega)] at h1
                cases h1
          · rw [List.nodup_append]
            refine ⟨hS.nodup, by simp, fun a ha b hb e => ?_⟩
            simp only [List.mem_singleton] at hb
            subst hb; subst e
            exact idx_none hj ha
        obtain ⟨k1, k2, k3⟩ := hcl _ _ _ _ h2 hS1
        have ha2 : AgS S2 g g2 := ha
        have hm2 : m ∈ S2.os := by
          obtain ⟨_, ⟨x, hx⟩, _⟩ := k2
          rw [hx]; simp
        rw [ha2.2 m hm2, hlm]
        simp only
        rw [hl _ _ _ _ h2 hS1 ha2]

theorem canV_local : ∀ (f : Nat) (deep : Bool) (S : CS) (v v' : AV) (S' : CS), canV f g deep S v = some (v', S') → CSOK g S → AgS S' g g2 → canV f g2 deep S v = some (v', S')
  | 0, deep, S, v, v', S', h, _, _ => by simp [canV] at h
  | f + 1, deep, S, v, v', S', h, hS, ha => by
    have okL : ∀ (deep : Bool) (S : CS) (l l' : List AV) (S' : CS), canL (canV f g deep) S l = some (l', S') → CSOK g S → CSOK g S' ∧ S.le S' ∧ RNs true S'.ren l' l :=
      fun deep S l l' S' h hS => canL_ok (fun S v v' S' => canV_ok f deep S v v' S') h hS
    have ihL : ∀ (deep : Bool) (S : CS) (l l' : List AV) (S' : CS), canL (canV f g deep) S l = some (l', S') → CSOK g S → AgS S' g g2 → canL (canV f g2 deep) S l = some (l', S') :=
      fun deep S l l' S' h hS ha => canL_local (fun S v v' S' => canV_ok f deep S v v' S') (fun S v v' S' => canV_local f deep S v v' S') h hS ha
    cases v with
    | top => exact h
    | bool b => exact h
    | int k n => exact h
    | str s => exact h
    | nilptr => exact h
    | nilsl => exact h
    | nilfunc => exact h
    | ptr b off =>
      cases b with
      | o m =>
        simp only [canV, Option.map_eq_some_iff, Prod.mk.injEq] at h ⊢
        obtain ⟨⟨j, S2⟩, h1, rfl, rfl⟩ := h
        exact ⟨(j, S2), canO_local (fun S l l' S' => okL true S l l' S') (fun S l l' S' => ihL true S l l' S') h1 hS ha, rfl, rfl⟩
      | r m =>
        simp only [canV] at h ⊢
        split at h
        · cases h
        · rename_i l hl
          simp only [Option.map_eq_some_iff, Prod.mk.injEq] at h
          obtain ⟨⟨l', S2⟩, h1, rfl, rfl⟩ := h
          obtain ⟨k1, k2, k3⟩ := okL false _ _ _ _ h1 hS
          have hle : S2.le { S2 with rs := S2.rs ++ [(.r m, 0)], rc := S2.rc ++ [l'] } := ⟨⟨_, rfl⟩, ⟨[], by simp⟩, ⟨_, rfl⟩⟩
          have hlast := ha.1 S2.rs.length (.r m) 0 l' (by simp) (by rw [k1.rlen]; simp) l hl
          obtain ⟨l2, q1, q2, q3⟩ := hlast
          have hl2 : l2 = l := whole_congr q2 (by rw [k3.length]; exact q3)
          rw [q1, hl2]
          simp only [Option.map_eq_some_iff, Prod.mk.injEq]
          exact ⟨(l', S2), ihL false _ _ _ _ h1 hS (ha.le hle), rfl, rfl⟩
    | sl b off n z full =>
      simp only [canV] at h ⊢
      split at h
      · rename_i m hm
        have hb := ownIf_some hm
        subst hb
        simp only [Option.map_eq_some_iff, Prod.mk.injEq] at h ⊢
        obtain ⟨⟨j, S2⟩, h1, rfl, rfl⟩ := h
        exact ⟨(j, S2), canO_local (fun S l l' S' => okL true S l l' S') (fun S l l' S' => ihL true S l l' S') h1 hS ha, rfl, rfl⟩
      · rename_i hm
        split at h
        · cases h
        · rename_i l hl
          split at h
          · rename_i hoff
            simp only [Option.map_eq_some_iff, Prod.mk.injEq] at h
            obtain ⟨⟨l', S2⟩, h1, rfl, rfl⟩ := h
            obtain ⟨k1, k2, k3⟩ := okL false _ _ _ _ h1 hS
            have hle : S2.le { S2 with rs := S2.rs ++ [(b, off)], rc := S2.rc ++ [l'] } := ⟨⟨_, rfl⟩, ⟨[], by simp⟩, ⟨_, rfl⟩⟩
            have hlast := ha.1 S2.rs.length b off l' (by simp) (by rw [k1.rlen]; simp) l hl
            obtain ⟨l2, q1, q2, q3⟩ := hlast
            rw [window_eq] at k3
            have hlen := k3.length
            have hlen' : ((l.drop off).take (n * z)).length = n * z := by simp; omega
            have hwin : window l2 off (n * z) = window l off (n * z) := by
              rw [window_eq, window_eq]
              exact clip_congr fun j h1 h2 => q3 j h1 (by omega)
            rw [q1]
            simp only [q2, hoff, if_true, hwin, Option.map_eq_some_iff, Prod.mk.injEq]
            exact ⟨(l', S2), ihL false _ _ _ _ h1 hS (ha.le hle), rfl, rfl⟩
          · cases h
    | func k a b =>
      simp only [canV] at h ⊢
      split at h
      · cases h
      · rename_i a' S1 h1
        simp only [Option.map_eq_some_iff, Prod.mk.injEq] at h
        obtain ⟨⟨b', S2⟩, h2, rfl, rfl⟩ := h
        obtain ⟨k1, k2, k3⟩ := okL deep _ _ _ _ h1 hS
        obtain ⟨k4, k5, k6⟩ := okL deep _ _ _ _ h2 k1
        rw [ihL deep _ _ _ _ h1 hS (ha.le k5)]
        simp only [Option.map_eq_some_iff, Prod.mk.injEq]
        exact ⟨(b', S2), ihL deep _ _ _ _ h2 k1 ha, rfl, rfl⟩
    | agg l =>
      simp only [canV, Option.map_eq_some_iff, Prod.mk.injEq] at h ⊢
      obtain ⟨⟨l', S2⟩, h1, rfl, rfl⟩ := h
      exact ⟨(l', S2), ihL deep _ _ _ _ h1 hS ha, rfl, rfl⟩
    | tuple l =>
      simp only [canV, Option.map_eq_some_iff, Prod.mk.injEq] at h ⊢
      obtain ⟨⟨l', S2⟩, h1, rfl, rfl⟩ := h
      exact ⟨(l', S2), ihL deep _ _ _ _ h1 hS ha, rfl, rfl⟩

theorem rdsR_mem : ∀ {rs : List (BId × Nat)} {rc : List (List AV)} (j : Nat) (b : BId) (s : Nat) (c : List AV), rs[j]? = some (b, s) → rc[j]? = some c → (b, s, c.length) ∈ rdsR rs rc
  | [], _, j, b, s, c, h, _ => by simp at h
  | _ :: _, [], j, b, s, c, _, h => by simp at h
  | (b', s') :: rs, c' :: rc, j, b, s, c, h1, h2 => by
    cases j with
    | zero => simp at h1 h2; obtain ⟨rfl, rfl⟩ := h1; subst h2; simp [rdsR]
    | succ j => simp at h1 h2; simp only [rdsR, List.mem_cons]; exact .inr (rdsR_mem j b s c h1 h2)

theorem rdsO_mem : ∀ {os : List Nat} {oc : List (List AV)} (j m : Nat) (c : List AV), os[j]? = some m → oc[j]? = some c → ((.o m, 0, c.length) : BId × Nat × Nat) ∈ rdsO os oc
  | [], _, j, m, c, h, _ => by simp at h
  | _ :: _, [], j, m, c, _, h => by simp at h
  | m' :: os, c' :: oc, j, m, c, h1, h2 => by
    cases j with
    | zero => simp at h1 h2; subst h1; subst h2; simp [rdsO]
    | succ j => simp at h1 h2; simp only [rdsO, List.mem_cons]; exact .inr (rdsO_mem j m c h1 h2)

theorem lensOK_congr : ∀ {os : List Nat} {oc : List (List AV)}, (∀ m, m ∈ os → g2 (.o m) = g (.o m)) → lensOK g2 os oc = lensOK g os oc
  | [], [], _ => rfl
  | [], _ :: _, _ => rfl
  | _ :: _, [], _ => rfl
  | m :: os, c :: oc, h => by
    simp only [lensOK]
    rw [h m (by simp), lensOK_congr fun m' hm => h m' (by simp [hm])]

theorem callE_local {O : Oracle} {k : FuncId} {args : List AV} {no nr : Nat} {v : AV} {e : Eff} (h : callE O k args g no nr = some (v, e)) (ha : Agree e g g2) : callE O k args g2 no nr = some (v, e) := by
  unfold callE at h
  split at h
  · cases h
  rename_i args' S hcan
  split at h
  case isFalse => cases h
  rename_i hok
  split at h
  · cases h
  rename_i r hr
  split at h
  case isFalse => cases h
  rename_i hlim
  simp only [Option.some.injEq, Prod.mk.injEq] at h
  obtain ⟨rfl, rfl⟩ := h
  have hS0 : CSOK g ({} : CS) := ⟨rfl, rfl, fun j b s c h1 _ => by simp at h1, fun j m c h1 _ => by simp at h1, by simp⟩
  obtain ⟨hS, _, hRN⟩ := canL_ok (fun S v v' S' => canV_ok 6 false S v v' S') hcan hS0
  have hAg : AgS S g g2 := by
    refine ⟨fun j b s c h1 h2 l hl => ?_, fun m hm => ?_⟩
    · exact ha.1 b s c.length (by simp only [CS.eff, List.mem_append]; exact .inl (rdsR_mem j b s c h1 h2)) l hl
    · obtain ⟨j, hj⟩ := List.getElem?_of_mem hm
      have hlt := (List.getElem?_eq_some_iff.mp hj).1
      have hoc : S.oc[j]? = some (S.oc[j]'(by rw [← hS.olen]; exact hlt)) := by simp
      obtain ⟨l, k1, k2, k3⟩ := hS.ook j m _ hj hoc
      simp only [CS.ok, Bool.and_eq_true] at hok
      have hle := lensOK_get hok.2 j m _ hj hoc l k1
      obtain ⟨l2, q1, q2, q3⟩ := ha.1 (.o m) 0 _ (by simp only [CS.eff, List.mem_append]; exact .inr (rdsO_mem j m _ hj hoc)) l k1
      rw [q1, k1, whole_congr q2 (by rw [hle]; exact q3)]
  have hcan2 := canL_local (fun S v v' S' => canV_ok 6 false S v v' S') (fun S v v' S' => canV_local 6 false S v v' S') hcan hS0 hAg
  have hok2 : S.ok g2 = true := by
    simp only [CS.ok] at hok ⊢
    rw [lensOK_congr hAg.2]; exact hok
  unfold callE
  rw [hcan2]
  simp only [hok2, if_true, hr]
  rw [if_pos hlim]

theorem opE_local {P : Program} {O : Oracle} {ev : Operand → AV} {no nr : Nat} {op : Op} {v : AV} {e : Eff} (h : opE P O ev g no nr op = some (v, e)) (ha : Agree e g g2) : opE P O ev g2 no nr op = some (v, e) := by
  cases op
  case call c =>
    simp only [opE] at h ⊢
    split at h
    · split at h
      · exact callE_local h ha
      · cases h
    · exact aop_local h ha
  all_goals
    simp only [opE] at h ⊢
    exact aop_local h ha

end
end Go.Sym
