/- A region of operations that draws its order. -/
import Derived.Test.YtnkijhpikeokfaaS18
set_option linter.unusedSimpArgs false
set_option linter.unusedVariables false
namespace Go.Sym
open Go

/-- which operations come before each one, in any order: a bit for each -/
def maskOf (ms : List Nat) (o : Oper) : Nat := o.after.toList.foldl (fun m e => if Region.binds .any e then (m ||| (1 <<< e.on)) ||| ms.getD e.on 0 else m) 0

def masks : List Oper → List Nat → List Nat
  | [], ms => ms
  | o :: os, ms => masks os (ms ++ [maskOf ms o])

theorem foldl_mask (ms : List Nat) (i : Nat) : ∀ (es : List Edge) (m : Nat), (es.foldl (fun m e => if Region.binds .any e then (m ||| (1 <<< e.on)) ||| ms.getD e.on 0 else m) m).testBit i = true →
    m.testBit i = true ∨ ∃ e ∈ es, Region.binds .any e = true ∧ (e.on = i ∨ (ms.getD e.on 0).testBit i = true)
  | [], m, h => .inl h
  | e :: es, m, h => by
    simp only [List.foldl_cons] at h
    rcases foldl_mask ms i es _ h with h | ⟨e', he', hb, h⟩
    · split at h
      · rename_i hb
        simp only [Nat.testBit_or, Bool.or_eq_true] at h
        rcases h with (h | h) | h
        · exact .inl h
        · refine .inr ⟨e, by simp, hb, .inl ?_⟩
          rw [Nat.one_shiftLeft, Nat.testBit_two_pow] at h
          simpa using h
        · exact .inr ⟨e, by simp, hb, .inr h⟩
      · exact .inl h
    · exact .inr ⟨e', by simp [he'], hb, h⟩

theorem maskOf_spec {ms : List Nat} {o : Oper} {i : Nat} (h : (maskOf ms o).testBit i = true) : ∃ e ∈ o.after, Region.binds .any e = true ∧ (e.on = i ∨ (ms.getD e.on 0).testBit i = true) := by
  rcases foldl_mask ms i _ _ h with h | ⟨e, he, h⟩
  · simp at h
  · exact ⟨e, by simpa using he, h⟩

theorem masks_get : ∀ (os : List Oper) (ms : List Nat) (k : Nat), k < ms.length → (masks os ms)[k]? = ms[k]?
  | [], ms, k, h => rfl
  | o :: os, ms, k, h => by
    simp only [masks]
    rw [masks_get os _ k (by simp; omega), List.getElem?_append_left h]

theorem masks_spec : ∀ (os : List Oper) (ms : List Nat) (j : Nat) (o : Oper), os[j]? = some o → ∀ i, ((masks os ms).getD (ms.length + j) 0).testBit i = true →
    ∃ e ∈ o.after, Region.binds .any e = true ∧ (e.on = i ∨ ((masks os ms).getD e.on 0).testBit i = true)
  | [], ms, j, o, h, i, _ => by simp at h
  | o' :: os, ms, 0, o, h, i, hi => by
    simp only [List.getElem?_cons_zero, Option.some.injEq] at h
    subst h
    simp only [masks, List.getD, Nat.add_zero] at hi ⊢
    rw [masks_get os _ _ (by simp), List.getElem?_append_right (Nat.le_refl _)] at hi
    simp only [Nat.sub_self, List.getElem?_cons_zero, Option.getD_some] at hi
    obtain ⟨e, he, hb, h⟩ := maskOf_spec hi
    refine ⟨e, he, hb, h.imp id fun h => ?_⟩
    by_cases hl : e.on < ms.length
    · rw [masks_get os _ _ (by simp; omega), List.getElem?_append_left hl]; exact h
    · simp only [List.getD, List.getElem?_eq_none (by omega : ms.length ≤ e.on), Option.getD_none] at h
      simp at h
  | o' :: os, ms, j + 1, o, h, i, hi => by
    simp only [List.getElem?_cons_succ] at h
    simp only [masks] at hi ⊢
    have := masks_spec os (ms ++ [maskOf ms o']) j o h i (by simpa [Nat.add_assoc, Nat.add_comm 1 j] using hi)
    exact this

def beforeBit (ops : Array Oper) (i j : Nat) : Bool := ((masks ops.toList []).getD j 0).testBit i

/-- an operation that may come now: all that are before it have come -/
theorem beforeBit_listed {ops : Array Oper} {L : Nat → Bool} (hcl : ∀ j o, ops[j]? = some o → L j = true → ∀ e ∈ o.after, Region.binds .any e = true → L e.on = true) (hlt : ∀ j o, ops[j]? = some o → ∀ e ∈ o.after, Region.binds .any e = true → e.on < j) :
    ∀ (j : Nat) (o : Oper), ops[j]? = some o → (∀ e ∈ o.after, Region.binds .any e = true → L e.on = true) → ∀ i, beforeBit ops i j = true → L i = true := by
  intro j
  induction j using Nat.strongRecOn with
  | _ j ih =>
    intro o ho hr i hi
    unfold beforeBit at hi
    obtain ⟨e, he, hb, h⟩ := masks_spec ops.toList [] j o (by simpa using ho) i (by simpa using hi)
    have hL := hr e he hb
    rcases h with h | h
    · rw [← h]; exact hL
    · have hej := hlt j o ho e he hb
      have hlt' : e.on < ops.size := by
        have := (Array.getElem?_eq_some_iff.mp ho).1
        omega
      exact ih e.on hej ops[e.on] (by simp [hlt']) (hcl e.on _ (by simp [hlt']) hL) i h

/-- the closed part of what is to be checked of a region: places are in the frame, edges lead back -/
def edgesOK (n : Nat) (ops : Array Oper) : Bool := (List.range ops.size).all fun j => match ops[j]? with
  | some o => o.after.toList.all (fun e => !Region.binds .any e || Nat.blt e.on j) && (match o.dst with | some d => Nat.blt d n | none => true)
  | none => true

theorem edgesOK_spec {n : Nat} {ops : Array Oper} (h : edgesOK n ops = true) : (∀ j o, ops[j]? = some o → ∀ e ∈ o.after, Region.binds .any e = true → e.on < j) ∧ ∀ (j : Nat) o, ops[j]? = some o → ∀ d, o.dst = some d → d < n := by
  simp only [edgesOK, List.all_eq_true, List.mem_range] at h
  refine ⟨fun j o ho e he hb => ?_, fun j o ho d hd => ?_⟩
  · have := h j (Array.getElem?_eq_some_iff.mp ho).1
    simp only [ho, Bool.and_eq_true, List.all_eq_true] at this
    have := this.1 e (by simpa using he)
    rw [hb] at this
    simpa [Nat.blt_eq] using this
  · have := h j (Array.getElem?_eq_some_iff.mp ho).1
    simp only [ho, hd, Bool.and_eq_true] at this
    simpa [Nat.blt_eq] using this.2

/-- a pair of operations is ordered, or apart -/
def pairOK (ops : Array Oper) (rc : Nat → Rc) (i j : Nat) : Prop := ∀ oi oj, ops[i]? = some oi → ops[j]? = some oj → beforeBit ops i j = true ∨ (oi.apart ops oj = true ∧ apartE (rc i).e (rc j).e = true)

section
variable {P : Program} {ops : Array Oper} {rc : Nat → Rc} {n : Nat} {fr0 : Fr} {h0 : H} {ρ0 : Rho} {w0 : World}

theorem looks_ev {o : Oper} {fr fr2 : Fr} (h : ∀ t ∈ o.looksAt ops, fr t = fr2 t) : ∀ x ∈ o.op.operands, fr.ev x = fr2.ev x := by
  intro x hx
  cases x with
  | tmp t => exact h t (List.mem_append_left _ (List.mem_filterMap.2 ⟨.tmp t, by simpa using hx, rfl⟩))
  | const v => rfl
  | global g => rfl
  | func f => rfl

theorem looks_want {o : Oper} {fr fr2 : Fr} (h : ∀ t ∈ o.looksAt ops, fr t = fr2 t) : wantA ops fr o = wantA ops fr2 o := by
  unfold wantA
  cases hg : o.guard with
  | none => rfl
  | some p =>
    obtain ⟨j, want⟩ := p
    simp only
    cases ht : (ops[j]?).bind (·.dst) with
    | none => rfl
    | some t =>
      simp only
      rw [h t (by simp [Oper.looksAt, hg, ht])]

/-- what there is after the operations of a set have come -/
structure InRegion (ops : Array Oper) (rc : Nat → Rc) (n : Nat) (fr0 : Fr) (h0 : H) (ρ0 : Rho) (w0 : World) (L : Nat → Bool) (a : Act) (w : World) : Prop where
  state : ∃ ρ, FR ρ n (frL ops rc fr0 L ops.size) a ∧ SR ρ (gL rc h0.get L ops.size) w ∧ Tr ρ0 ρ w0 w ∧ (∀ b, ρ b ≠ none → (∃ i, i < ops.size ∧ L i = true ∧ (rc i).e.news b = true) ∨ ρ0 b ≠ none)

theorem blt_true {k j : Nat} : Nat.blt k j = true ↔ k < j := by rw [Nat.blt_eq]
theorem blt_false {k j : Nat} : Nat.blt k j = false ↔ j ≤ k := by
  cases h : Nat.blt k j with
  | true => have := blt_true.1 h; simp; omega
  | false =>
    simp only [true_iff]
    by_cases hk : k < j
    · have := blt_true.2 hk; rw [h] at this; cases this
    · omega

theorem oper_step {Q : Exit → Act → World → Prop}
    (hrec : ∀ i o, ops[i]? = some o → RecR P ops (frL ops rc fr0 allL i) (hT rc h0 i) o (rc i).v (rc i).e)
    (hget : ∀ i, i ≤ ops.size → (hT rc h0 i).get = gL rc h0.get allL i)
    (hW : Within ρ0 h0.ow.length h0.ro.length)
    (hnews : ∀ i j b, i < ops.size → j < ops.size → (rc i).e.news b = true → (rc j).e.news b = true → i = j)
    (hnews0 : ∀ i b, i < ops.size → (rc i).e.news b = true → ρ0 b = none)
    (hfin : ∃ N, ∀ i, i < ops.size → ∀ m, N ≤ m → (rc i).e.news (.o m) = false)
    (hedge : edgesOK n ops = true) (hpair : ∀ i j, i < j → j < ops.size → pairOK ops rc i j)
    {L : Nat → Bool} (hcl : ∀ j o, ops[j]? = some o → L j = true → ∀ e ∈ o.after, Region.binds .any e = true → L e.on = true)
    {j : Nat} {o : Oper} (ho : ops[j]? = some o) (hj : L j = false) (hready : ∀ e ∈ o.after, Region.binds .any e = true → L e.on = true)
    {a : Act} {w : World} (hin : InRegion ops rc n fr0 h0 ρ0 w0 L a w)
    {K : Act → World → Prop} (hK : ∀ a' w', InRegion ops rc n fr0 h0 ρ0 w0 (with1 L j) a' w' → K a' w') : wpOp P ops Q j K a w := by
  obtain ⟨hlt, hdst⟩ := edgesOK_spec hedge
  have hjs : j < ops.size := (Array.getElem?_eq_some_iff.mp ho).1
  have hbef := beforeBit_listed hcl hlt j o ho hready
  -- of each other operation that came, or didn't come, out of the text's order
  have hap : ∀ k ok, ops[k]? = some ok → k ≠ j → (L k = true → j < k) → (L k = false → k < j) → ok.apart ops o = true ∧ apartE (rc k).e (rc j).e = true ∨ o.apart ops ok = true ∧ apartE (rc j).e (rc k).e = true := by
    intro k ok hk hkj h1 h2
    have hks : k < ops.size := (Array.getElem?_eq_some_iff.mp hk).1
    cases hLk : L k with
    | false =>
      have hlt' := h2 hLk
      rcases hpair k j hlt' hjs ok o hk ho with hb | hb
      · have := hbef k hb; rw [hLk] at this; cases this
      · exact .inl hb
    | true =>
      have hlt' := h1 hLk
      rcases hpair j k hlt' hks o ok ho hk with hb | hb
      · have := beforeBit_listed hcl hlt k ok hk (hcl k ok hk hLk) j hb
        rw [hj] at this; cases this
      · exact .inr hb
  have hslots : ∀ k ok, ops[k]? = some ok → k ≠ j → (L k = true → j < k) → (L k = false → k < j) → (∀ t, ok.dst = some t → t ∉ o.looksAt ops) ∧ (∀ t, o.dst = some t → ok.dst ≠ some t) := by
    intro k ok hk hkj h1 h2
    rcases hap k ok hk hkj h1 h2 with ⟨h, _⟩ | ⟨h, _⟩
    · obtain ⟨k1, k2, k3⟩ := Oper.apart_spec h
      exact ⟨k1, fun t ht e => k2 t e ht⟩
    · obtain ⟨k1, k2, k3⟩ := Oper.apart_spec h
      exact ⟨k3, k2⟩
  have heffs : ∀ k ok, ops[k]? = some ok → k ≠ j → (L k = true → j < k) → (L k = false → k < j) → apartE (rc j).e (rc k).e = true := by
    intro k ok hk hkj h1 h2
    rcases hap k ok hk hkj h1 h2 with ⟨_, h⟩ | ⟨_, h⟩
    · exact apartE_symm h
    · exact h
  -- the text's order, as a set
  have hall_fr : frL ops rc fr0 allL j = frL ops rc fr0 (fun k => Nat.blt k j) ops.size := by
    obtain ⟨d, hd⟩ : ∃ d, ops.size = j + d := ⟨ops.size - j, by omega⟩
    rw [hd, frL_stop d fun k h1 h2 => blt_false.2 h1]
    exact frL_congr j fun k hk => (blt_true.2 hk).symm
  have hall_g : gL rc h0.get allL j = gL rc h0.get (fun k => Nat.blt k j) ops.size := by
    obtain ⟨d, hd⟩ : ∃ d, ops.size = j + d := ⟨ops.size - j, by omega⟩
    rw [hd, gL_stop d fun k h1 h2 => blt_false.2 h1]
    exact gL_congr j fun k hk => (blt_true.2 hk).symm
  have hdiff : ∀ k, k < ops.size → Nat.blt k j ≠ L k → k ≠ j ∧ (L k = true → j < k) ∧ (L k = false → k < j) := by
    intro k hk hne
    have hb : Nat.blt k j = true ↔ k < j := blt_true
    refine ⟨fun e => ?_, fun hl => ?_, fun hl => ?_⟩
    · subst e
      apply hne
      rw [hj]
      cases hh : Nat.blt k k with
      | false => rfl
      | true => rw [hh] at hb; have := hb.1 rfl; omega
    · rw [hl] at hne
      have h1 : ¬ k < j := fun h => hne (hb.2 h)
      have h2 : k ≠ j := fun e => by subst e; rw [hj] at hl; cases hl
      omega
    · rw [hl] at hne
      have : Nat.blt k j = true := by
        cases hh : Nat.blt k j with
        | true => rfl
        | false => exact absurd hh hne
      exact hb.1 this
  have hfr : ∀ t ∈ o.looksAt ops, frL ops rc fr0 allL j t = frL ops rc fr0 L ops.size t := by
    intro t ht
    rw [hall_fr]
    refine frL_slot _ fun k hk hne hd => ?_
    obtain ⟨h1, h2, h3⟩ := hdiff k hk hne
    have hok : ops[k]? = some ops[k] := by simp [hk]
    simp only [dstOf, hok, Option.bind_some] at hd
    exact (hslots k _ hok h1 h2 h3).1 t hd ht
  have hsm : ∀ b off m, (∀ k, k < ops.size → Nat.blt k j ≠ L k → (rc k).e.hit b off m = false) → Sm b off m (hT rc h0 j).get (gL rc h0.get L ops.size) := by
    intro b off m h
    rw [hget j (by omega), hall_g]
    exact gL_Sm _ h
  have hagree : Agree (rc j).e (hT rc h0 j).get (gL rc h0.get L ops.size) := by
    refine ⟨fun b off m hm => hsm b off m fun k hk hne => ?_, fun m off cs hm l hl => ?_⟩
    · obtain ⟨h1, h2, h3⟩ := hdiff k hk hne
      have := heffs k _ (by simp [hk] : ops[k]? = some ops[k]) h1 h2 h3
      simp only [apartE, Bool.and_eq_true, List.all_eq_true, Bool.not_eq_true'] at this
      exact this.1.1.1.1.1.1.1 _ hm
    · obtain ⟨l2, k1, k2, _⟩ := hsm (.o m) off cs.length (fun k hk hne => by
        obtain ⟨h1, h2, h3⟩ := hdiff k hk hne
        have := heffs k _ (by simp [hk] : ops[k]? = some ops[k]) h1 h2 h3
        simp only [apartE, Bool.and_eq_true, List.all_eq_true, Bool.not_eq_true'] at this
        exact this.1.1.1.1.1.2 _ hm) l hl
      exact ⟨l2, k1, k2⟩
  obtain ⟨ρ, hF, hS, hTr, hdom⟩ := hin.state
  have hfree : ∀ b, (rc j).e.news b = true → ρ b = none := by
    intro b hb
    cases hρ : ρ b with
    | none => rfl
    | some c =>
      rcases hdom b (by rw [hρ]; simp) with ⟨i, hi, hLi, hni⟩ | h
      · have := hnews i j b hi hjs hni hb
        subst this; rw [hj] at hLi; cases hLi
      · exact absurd (hnews0 j b hjs hb) h
  have hfresh : ∃ m, ρ (.o m) = none := by
    obtain ⟨N, hN⟩ := hfin
    refine ⟨max N h0.ow.length, ?_⟩
    cases hρ : ρ (.o (max N h0.ow.length)) with
    | none => rfl
    | some c =>
      rcases hdom _ (by rw [hρ]; simp) with ⟨i, hi, _, hni⟩ | h
      · rw [hN i hi _ (Nat.le_max_left _ _)] at hni; cases hni
      · exact absurd (hW.1 _ (Nat.le_max_right _ _)) h
  have hd : ops.size = j + 1 + (ops.size - (j + 1)) := by omega
  have hins_fr : frL ops rc fr0 (with1 L j) ops.size = (frL ops rc fr0 L ops.size).put o.dst (rc j).v := by
    have := frL_ins (ops := ops) (rc := rc) (fr0 := fr0) hj (ops.size - (j + 1)) fun k h1 h2 hLk t ht => by
      have hk : k < ops.size := by omega
      have hok : ops[k]? = some ops[k] := by simp [hk]
      simp only [dstOf, ho, Option.bind_some] at ht
      simp only [dstOf, hok, Option.bind_some]
      exact (hslots k _ hok (by omega) (fun _ => h1) (fun h => by rw [hLk] at h; cases h)).2 t ht
    rw [← hd] at this
    rw [this]
    simp only [dstOf, ho, Option.bind_some]
  have hins_g : gL rc h0.get (with1 L j) ops.size = (rc j).e.app (gL rc h0.get L ops.size) := by
    have := gL_ins (rc := rc) (g0 := h0.get) hj (ops.size - (j + 1)) fun k h1 h2 hLk => by
      have hk : k < ops.size := by omega
      exact heffs k _ (by simp [hk] : ops[k]? = some ops[k]) (by omega) (fun _ => h1) (fun h => by rw [hLk] at h; cases h)
    rw [← hd] at this
    exact this
  have hdom' : ∀ ρ' : Rho, (∀ b, ρ b = none → (rc j).e.news b = false → ρ' b = none) → ∀ b, ρ' b ≠ none → (∃ i, i < ops.size ∧ with1 L j i = true ∧ (rc i).e.news b = true) ∨ ρ0 b ≠ none := by
    intro ρ' h b hb
    cases hnb : (rc j).e.news b with
    | true => exact .inl ⟨j, hjs, with1_self, hnb⟩
    | false =>
      have : ρ b ≠ none := fun e => hb (h b e hnb)
      rcases hdom b this with ⟨i, hi, hLi, hni⟩ | h
      · refine .inl ⟨i, hi, ?_, hni⟩
        simp only [with1, hLi, Bool.or_true]
      · exact .inr h
  unfold wpOp
  simp only [ho]
  rcases hrec j o ho with ⟨hw, hop⟩ | ⟨hw, hv, he⟩
  · rw [looks_want hfr] at hw
    rw [wantA_sound hF hw, if_pos rfl]
    refine .inl (OpR.wp ((hop.congr (looks_ev hfr)).local hagree) hF hS hfree hfresh (hdst j o ho) fun cv w' ρ' h1 h2 h3 h4 => hK _ _ ⟨ρ', ?_, ?_, hTr.trans h3, hdom' ρ' h4⟩)
    · rw [hins_fr]; exact h1
    · rw [hins_g]; exact h2
  · rw [looks_want hfr] at hw
    rw [wantA_sound hF hw]
    simp only [Bool.false_eq_true, if_false]
    refine hK _ _ ⟨ρ, ?_, ?_, hTr, hdom' ρ fun b hb _ => hb⟩
    · rw [hins_fr, hv]; exact hF.put (hdst j o ho) (by simp only [VR]; exact ⟨[], rfl, VRs.nil⟩)
    · rw [hins_g, he, Eff.app_rd _ _ rfl rfl rfl rfl]; exact hS

end
end Go.Sym
