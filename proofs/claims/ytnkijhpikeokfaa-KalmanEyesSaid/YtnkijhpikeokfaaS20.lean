/- A region of operations, in the text's order or in any order: by the run of its operations in the text's order. -/
import Derived.Test.YtnkijhpikeokfaaS19
set_option linter.unusedSimpArgs false
set_option linter.unusedVariables false
namespace Go.Sym
open Go

def unl (L : Nat → Bool) : Nat → Nat
  | 0 => 0
  | i + 1 => unl L i + if L i then 0 else 1

theorem unl_zero {L : Nat → Bool} : ∀ {i : Nat}, unl L i = 0 → ∀ k, k < i → L k = true
  | 0, _, k, hk => by omega
  | i + 1, h, k, hk => by
    simp only [unl] at h
    by_cases e : k = i
    · subst e
      cases hL : L k with
      | true => rfl
      | false => rw [hL] at h; simp at h
    · exact unl_zero (i := i) (by omega) k (by omega)

theorem unl_congr {L L' : Nat → Bool} : ∀ {i : Nat}, (∀ k, k < i → L k = L' k) → unl L i = unl L' i
  | 0, _ => rfl
  | i + 1, h => by simp only [unl]; rw [unl_congr (i := i) fun k hk => h k (by omega), h i (by omega)]

theorem unl_with1 {L : Nat → Bool} {j : Nat} (hj : L j = false) : ∀ {i : Nat}, j < i → unl (with1 L j) i + 1 = unl L i
  | 0, h => by omega
  | i + 1, h => by
    simp only [unl]
    by_cases e : i = j
    · subst e
      rw [with1_self, hj, unl_congr (L' := L) fun k hk => with1_lt (by omega)]
      simp
    · have := unl_with1 hj (i := i) (by omega)
      rw [with1_lt (by omega)]
      omega

theorem unl_none : ∀ i, unl (fun _ => false) i = i
  | 0 => rfl
  | i + 1 => by simp [unl, unl_none i]

theorem first_unlisted (L : Nat → Bool) : ∀ i, (∀ k, k < i → L k = true) ∨ ∃ j, j < i ∧ L j = false ∧ ∀ k, k < j → L k = true
  | 0 => .inl fun k hk => by omega
  | i + 1 => by
    rcases first_unlisted L i with h | ⟨j, h1, h2, h3⟩
    · cases hL : L i with
      | true =>
        refine .inl fun k hk => ?_
        by_cases e : k = i
        · rw [e]; exact hL
        · exact h k (by omega)
      | false => exact .inr ⟨i, by omega, hL, h⟩
    · exact .inr ⟨j, by omega, h2, h3⟩

section
variable {P : Program} {ops : Array Oper} {rc : Nat → Rc} {n : Nat} {fr0 : Fr} {h0 : H} {ρ0 : Rho} {w0 : World} {Q : Exit → Act → World → Prop}

theorem InRegion.congr {L L' : Nat → Bool} (h : ∀ k, k < ops.size → L k = L' k) {a : Act} {w : World} (hin : InRegion ops rc n fr0 h0 ρ0 w0 L a w) : InRegion ops rc n fr0 h0 ρ0 w0 L' a w := by
  obtain ⟨ρ, h1, h2, h3, h4⟩ := hin.state
  refine ⟨ρ, ?_, ?_, h3, fun b hb => ?_⟩
  · rw [← frL_congr _ h]; exact h1
  · rw [← gL_congr _ h]; exact h2
  · rcases h4 b hb with ⟨i, hi, hL, hn⟩ | h5
    · exact .inl ⟨i, hi, by rw [← h i hi]; exact hL, hn⟩
    · exact .inr h5

theorem region_any
    (hrec : ∀ i o, ops[i]? = some o → RecR P ops (frL ops rc fr0 allL i) (hT rc h0 i) o (rc i).v (rc i).e)
    (hget : ∀ i, i ≤ ops.size → (hT rc h0 i).get = gL rc h0.get allL i)
    (hW : Within ρ0 h0.ow.length h0.ro.length)
    (hnews : ∀ i j b, i < ops.size → j < ops.size → (rc i).e.news b = true → (rc j).e.news b = true → i = j)
    (hnews0 : ∀ i b, i < ops.size → (rc i).e.news b = true → ρ0 b = none)
    (hfin : ∃ N, ∀ i, i < ops.size → ∀ m, N ≤ m → (rc i).e.news (.o m) = false)
    (hedge : edgesOK n ops = true) (hpair : ∀ i j, i < j → j < ops.size → pairOK ops rc i j)
    (hQ : ∀ a w, InRegion ops rc n fr0 h0 ρ0 w0 allL a w → Q .normal a w) :
    ∀ (fuel : Nat) (listed : Array Bool) (L : Nat → Bool) (a : Act) (w : World), listed.size = ops.size → (∀ k, k < ops.size → listed[k]? = some (L k)) →
      (∀ j o, ops[j]? = some o → L j = true → ∀ e ∈ o.after, Region.binds .any e = true → L e.on = true) → unl L ops.size = fuel → InRegion ops rc n fr0 h0 ρ0 w0 L a w → wpAny P .any ops Q fuel listed a w := by
  obtain ⟨hlt, _⟩ := edgesOK_spec hedge
  have hready : ∀ (listed : Array Bool) (L : Nat → Bool), (∀ k, k < ops.size → listed[k]? = some (L k)) → ∀ j, j ∈ Region.ready .any ops listed ↔ j < ops.size ∧ L j = false ∧ ∃ o, ops[j]? = some o ∧ ∀ e ∈ o.after, Region.binds .any e = true → L e.on = true := by
    intro listed L hl j
    rw [mem_ready]
    constructor
    · rintro ⟨h1, o, ho, h2⟩
      have hj := (Array.getElem?_eq_some_iff.mp ho).1
      refine ⟨hj, ?_, o, ho, fun e he hb => ?_⟩
      · have := hl j hj; simp [this] at h1; exact h1
      · have hej : e.on < ops.size := Nat.lt_trans (hlt j o ho e he hb) hj
        have := hl _ hej
        have h3 := h2 e he hb
        simp [this] at h3; exact h3
    · rintro ⟨hj, h1, o, ho, h2⟩
      refine ⟨by simp [hl j hj, h1], o, ho, fun e he hb => ?_⟩
      have hej : e.on < ops.size := Nat.lt_trans (hlt j o ho e he hb) hj
      simp [hl _ hej, h2 e he hb]
  intro fuel
  induction fuel with
  | zero =>
    intro listed L a w hsz hl hcl hu hin
    have hall := unl_zero hu
    refine ⟨?_, hQ a w (hin.congr fun k hk => hall k hk)⟩
    rw [List.eq_nil_iff_forall_not_mem]
    intro j hj
    obtain ⟨h1, h2, _⟩ := (hready listed L hl j).1 hj
    rw [hall j h1] at h2; cases h2
  | succ fuel ih =>
    intro listed L a w hsz hl hcl hu hin
    refine ⟨fun hnil => ?_, fun j hj => ?_⟩
    · rcases first_unlisted L ops.size with h | ⟨j, h1, h2, h3⟩
      · have : unl L ops.size = unl (fun _ => true) ops.size := unl_congr h
        have h0 : ∀ i, unl (fun _ => true) i = 0 := fun i => by
          induction i with
          | zero => rfl
          | succ i ih => simp [unl, ih]
        rw [this, h0] at hu; omega
      · have : j ∈ Region.ready .any ops listed := (hready listed L hl j).2 ⟨h1, h2, ops[j], by simp [h1], fun e he hb => h3 _ (hlt j _ (by simp [h1]) e he hb)⟩
        rw [hnil] at this; cases this
    · obtain ⟨h1, h2, o, ho, h3⟩ := (hready listed L hl j).1 hj
      refine oper_step hrec hget hW hnews hnews0 hfin hedge hpair hcl ho h2 h3 hin fun a' w' hin' => ?_
      refine ih _ (with1 L j) a' w' (by simpa using hsz) (fun k hk => ?_) (fun i oi hi hL e he hb => ?_) ?_ hin'
      · by_cases e : k = j
        · subst e
          rw [with1_self, Array.getElem?_setIfInBounds_self_of_lt (by omega)]
        · rw [with1_lt e, Array.getElem?_setIfInBounds_ne (fun e' => e e'.symm)]
          exact hl k hk
      · by_cases e' : i = j
        · subst e'
          rw [ho] at hi; cases hi
          by_cases e2 : e.on = i
          · rw [e2]; exact with1_self
          · rw [with1_lt e2]; exact h3 e he hb
        · rw [with1_lt e'] at hL
          by_cases e2 : e.on = j
          · rw [e2]; exact with1_self
          · rw [with1_lt e2]; exact hcl i oi hi hL e he hb
      · have := unl_with1 h2 h1
        omega

/-- what there is: an abstract frame and heap, of which the machine's are ones -/
def Holds (ρ0 : Rho) (w0 : World) (n : Nat) (fr : Fr) (h : H) (a : Act) (w : World) : Prop := ∃ ρ, FR ρ n fr a ∧ SR ρ h.get w ∧ Tr ρ0 ρ w0 w ∧ Within ρ h.ow.length h.ro.length

/-- the run of operations, in the text's order -/
def RunS (P : Program) (ops : Array Oper) : List Oper → Fr → H → (Fr → H → Prop) → Prop
  | [], fr, h, K => K fr h
  | o :: os, fr, h, K => ∃ v e, RecR P ops fr h o v e ∧ RunS P ops os (fr.put o.dst v) (h.app e) K

def RunW (P : Program) (ops : Array Oper) : List Oper → List Rc → Fr → H → (List Rc → Fr → H → Prop) → Prop
  | [], rs, fr, h, K => K rs.reverse fr h
  | o :: os, rs, fr, h, K => ∃ v e, RecR P ops fr h o v e ∧ RunW P ops os (⟨v, e⟩ :: rs) (fr.put o.dst v) (h.app e) K

theorem Within.app {ρ ρ' : Rho} {h : H} {e : Eff} (hW : Within ρ h.ow.length h.ro.length) (hf : Follows e h.ow.length h.ro.length) (hn : ∀ b, ρ b = none → e.news b = false → ρ' b = none) : Within ρ' (h.app e).ow.length (h.app e).ro.length := by
  have h1 : (h.app e).ow.length = h.ow.length + e.newo.length := by simp [H.app, appO_length]
  have h2 : (h.app e).ro.length = h.ro.length + e.newr.length := by simp [H.app]
  rw [h1, h2]
  refine ⟨fun m hm => hn _ (hW.1 m (by omega)) ?_, fun m hm => hn _ (hW.2 m (by omega)) ?_⟩
  · cases hh : e.news (.o m) with
    | false => rfl
    | true => have := hf.news hh; simp only at this; omega
  · cases hh : e.news (.r m) with
    | false => rfl
    | true => have := hf.news hh; simp only at this; omega

theorem region_text (hdst : ∀ (j : Nat) o, ops[j]? = some o → ∀ d, o.dst = some d → d < n) {K : Fr → H → Prop} (hQ : ∀ fr h a w, K fr h → Holds ρ0 w0 n fr h a w → Q .normal a w) :
    ∀ (os : List Oper) (i : Nat) (fr : Fr) (h : H) (a : Act) (w : World), ops.toList.drop i = os → RunS P ops os fr h K → Holds ρ0 w0 n fr h a w → wpOps P ops Q (List.range' i (ops.size - i)) a w
  | [], i, fr, h, a, w, hd, hr, hh => by
    have : ops.size - i = 0 := by
      have := congrArg List.length hd
      simpa using this
    rw [this]
    exact hQ fr h a w hr hh
  | o :: os, i, fr, h, a, w, hd, hr, hh => by
    have hlen := congrArg List.length hd
    simp at hlen
    have ho : ops[i]? = some o := by
      have : (ops.toList.drop i)[0]? = some o := by rw [hd]; rfl
      simpa using this
    have hd' : ops.toList.drop (i + 1) = os := by
      rw [← List.tail_drop, hd]; rfl
    rw [show ops.size - i = (ops.size - (i + 1)) + 1 by omega, List.range'_succ]
    obtain ⟨v, e, hrec, hr⟩ := hr
    obtain ⟨ρ, hF, hS, hTr, hW⟩ := hh
    have hf := hrec.follows
    simp only [wpOps, ho]
    rcases hrec with ⟨hw, hop⟩ | ⟨hw, rfl, rfl⟩
    · rw [wantA_sound hF hw, if_pos rfl]
      refine .inl (hop.wp hF hS (fun b hb => ?_) ⟨_, hW.1 _ (Nat.le_refl _)⟩ (hdst i o ho) fun cv w' ρ' h1 h2 h3 h4 => ?_)
      · have := hf.news hb
        cases b with
        | o m => exact hW.1 m this.1
        | r m => exact hW.2 m this.1
      · exact region_text hdst hQ os (i + 1) _ _ _ _ hd' hr ⟨ρ', h1, by rw [H.app_get hf]; exact h2, hTr.trans h3, hW.app hf h4⟩
    · rw [wantA_sound hF hw]
      simp only [Bool.false_eq_true, if_false]
      refine region_text hdst hQ os (i + 1) _ _ _ _ hd' hr ⟨ρ, hF.put (hdst i o ho) (by simp only [VR]; exact ⟨[], rfl, VRs.nil⟩), ?_, hTr, ?_⟩
      · rw [H.app_nil]; exact hS
      · rw [H.app_nil]; exact hW

def rcL (l : List Rc) (i : Nat) : Rc := l.getD i ⟨.top, {}⟩

def pairsOK (ops : Array Oper) (rs : List Rc) : Bool := (List.range ops.size).all fun j => (List.range j).all fun i => beforeBit ops i j || match ops[i]?, ops[j]? with
  | some oi, some oj => oi.apart ops oj && apartE (rcL rs i).e (rcL rs j).e
  | _, _ => true

theorem pairsOK_spec {rs : List Rc} (h : pairsOK ops rs = true) (i j : Nat) (hij : i < j) (hj : j < ops.size) : pairOK ops (rcL rs) i j := by
  intro oi oj ho1 ho2
  simp only [pairsOK, List.all_eq_true, List.mem_range] at h
  have := h j hj i hij
  simp only [ho1, ho2, Bool.or_eq_true, Bool.and_eq_true] at this
  exact this

theorem frL_rc {rc rc2 : Nat → Rc} : ∀ i, (∀ k, k < i → rc k = rc2 k) → frL ops rc fr0 allL i = frL ops rc2 fr0 allL i
  | 0, _ => rfl
  | i + 1, h => by simp only [frL]; rw [frL_rc i fun k hk => h k (by omega), h i (by omega)]

theorem hT_rc {rc rc2 : Nat → Rc} : ∀ i, (∀ k, k < i → rc k = rc2 k) → hT rc h0 i = hT rc2 h0 i
  | 0, _ => rfl
  | i + 1, h => by simp only [hT]; rw [hT_rc i fun k hk => h k (by omega), h i (by omega)]

theorem RunW.recs {K : List Rc → Fr → H → Prop} : ∀ (os : List Oper) (i : Nat) (rs : List Rc) (fr : Fr) (h : H), ops.toList.drop i = os → i ≤ ops.size → rs.length = i →
    (∀ k o, k < i → ops[k]? = some o → RecR P ops (frL ops (rcL rs.reverse) fr0 allL k) (hT (rcL rs.reverse) h0 k) o (rcL rs.reverse k).v (rcL rs.reverse k).e) →
    fr = frL ops (rcL rs.reverse) fr0 allL i → h = hT (rcL rs.reverse) h0 i → RunW P ops os rs fr h K →
    ∃ rs' : List Rc, rs'.length = ops.size ∧ (∀ k o, ops[k]? = some o → RecR P ops (frL ops (rcL rs') fr0 allL k) (hT (rcL rs') h0 k) o (rcL rs' k).v (rcL rs' k).e) ∧ K rs' (frL ops (rcL rs') fr0 allL ops.size) (hT (rcL rs') h0 ops.size)
  | [], i, rs, fr, h, hd, hi, hl, hrec, hfr, hh, hr => by
    have hlen := congrArg List.length hd
    simp at hlen
    have : i = ops.size := by omega
    subst this
    refine ⟨rs.reverse, by simpa using hl, fun k o ho => hrec k o (Array.getElem?_eq_some_iff.mp ho).1 ho, ?_⟩
    rw [← hfr, ← hh]; exact hr
  | o :: os, i, rs, fr, h, hd, hi, hl, hrec, hfr, hh, hr => by
    have hlen := congrArg List.length hd
    simp at hlen
    have ho : ops[i]? = some o := by
      have : (ops.toList.drop i)[0]? = some o := by rw [hd]; rfl
      simpa using this
    have hd' : ops.toList.drop (i + 1) = os := by
      rw [← List.tail_drop, hd]; rfl
    obtain ⟨v, e, hro, hr⟩ := hr
    have hrl : rs.reverse.length = i := by simpa using hl
    have hold : ∀ k, k < i → rcL (rs.reverse ++ [⟨v, e⟩]) k = rcL rs.reverse k := fun k hk => by
      simp only [rcL, List.getD]; rw [List.getElem?_append_left (by omega)]
    have hnew : rcL (rs.reverse ++ [⟨v, e⟩]) i = ⟨v, e⟩ := by
      simp only [rcL, List.getD]; rw [List.getElem?_append_right (by omega)]; simp [hrl]
    have hf1 : frL ops (rcL (rs.reverse ++ [⟨v, e⟩])) fr0 allL i = fr := by rw [hfr]; exact frL_rc i hold
    have hh1 : hT (rcL (rs.reverse ++ [⟨v, e⟩])) h0 i = h := by rw [hh]; exact hT_rc i hold
    refine RunW.recs os (i + 1) (⟨v, e⟩ :: rs) _ _ hd' (by omega) (by simp [hl]) (fun k ok hk hok => ?_) ?_ ?_ hr
    · rw [List.reverse_cons]
      by_cases e1 : k = i
      · subst e1
        rw [hok] at ho; cases ho
        rw [hf1, hh1, hnew]; exact hro
      · have hk' : k < i := by omega
        rw [frL_rc k fun m hm => hold m (by omega), hT_rc k fun m hm => hold m (by omega), hold k hk']
        exact hrec k ok hk' hok
    · rw [List.reverse_cons]
      simp only [frL, if_true]
      rw [hf1, hnew]
      simp only [dstOf, ho, Option.bind_some]
    · rw [List.reverse_cons]
      simp only [hT]
      rw [hh1, hnew]

theorem hT_len {rc : Nat → Rc} {h0 : H} : ∀ i, (hT rc h0 (i + 1)).ow.length = (hT rc h0 i).ow.length + (rc i).e.newo.length ∧ (hT rc h0 (i + 1)).ro.length = (hT rc h0 i).ro.length + (rc i).e.newr.length := by
  intro i
  simp [hT, H.app, appO_length]

theorem hT_mono {rc : Nat → Rc} {h0 : H} {i : Nat} : ∀ d, (hT rc h0 i).ow.length ≤ (hT rc h0 (i + d)).ow.length ∧ (hT rc h0 i).ro.length ≤ (hT rc h0 (i + d)).ro.length
  | 0 => ⟨Nat.le_refl _, Nat.le_refl _⟩
  | d + 1 => by
    have h1 := hT_mono (rc := rc) (h0 := h0) (i := i) d
    have h2 := hT_len (rc := rc) (h0 := h0) (i + d)
    rw [← Nat.add_assoc]
    omega

theorem region_draws {fr : Fr} {h : H} {K : Fr → H → Prop} (hedge : edgesOK n ops = true) (hr : RunW P ops ops.toList [] fr h fun rs fr h => pairsOK ops rs = true ∧ K fr h)
    (hQ : ∀ fr h a w, K fr h → Holds ρ0 w0 n fr h a w → Q .normal a w) {a : Act} {w : World} (hh : Holds ρ0 w0 n fr h a w) : wpAny P .any ops Q ops.size (Array.replicate ops.size false) a w := by
  obtain ⟨rs, hl, hrec, hpair, hK⟩ := RunW.recs (fr0 := fr) (h0 := h) ops.toList 0 [] fr h rfl (Nat.zero_le _) rfl (fun k o hk => by omega) rfl rfl hr
  obtain ⟨ρ, hF, hS, hTr, hW⟩ := hh
  have hfol : ∀ i, i < ops.size → Follows (rcL rs i).e (hT (rcL rs) h i).ow.length (hT (rcL rs) h i).ro.length := fun i hi => (hrec i ops[i] (by simp [hi])).follows
  have hget : ∀ i, i ≤ ops.size → (hT (rcL rs) h i).get = gL (rcL rs) h.get allL i := by
    intro i
    induction i with
    | zero => intro _; rfl
    | succ i ih =>
      intro hi
      simp only [hT, gL, if_true]
      rw [H.app_get (hfol i (by omega)), ih (by omega)]
  have hin : ∀ i b, i < ops.size → (rcL rs i).e.news b = true → match b with
      | .o m => (hT (rcL rs) h i).ow.length ≤ m ∧ m < (hT (rcL rs) h (i + 1)).ow.length
      | .r m => (hT (rcL rs) h i).ro.length ≤ m ∧ m < (hT (rcL rs) h (i + 1)).ro.length := by
    intro i b hi hb
    have h1 := (hfol i hi).news hb
    have h2 := hT_len (rc := rcL rs) (h0 := h) i
    cases b with
    | o m => simp only at h1 ⊢; omega
    | r m => simp only at h1 ⊢; omega
  have hnews : ∀ i j b, i < ops.size → j < ops.size → i < j → (rcL rs i).e.news b = true → (rcL rs j).e.news b = true → False := by
    intro i j b hi hj hij h1 h2
    obtain ⟨d, rfl⟩ : ∃ d, j = i + 1 + d := ⟨j - (i + 1), by omega⟩
    have h3 := hin i b hi h1
    have h4 := hin _ b hj h2
    have h5 := hT_mono (rc := rcL rs) (h0 := h) (i := i + 1) d
    cases b with
    | o m => simp only at h3 h4; omega
    | r m => simp only at h3 h4; omega
  refine region_any (rc := rcL rs) (fr0 := fr) (h0 := h) (ρ0 := ρ) (w0 := w) hrec hget hW ?_ ?_ ?_ hedge (pairsOK_spec hpair) ?_ ops.size _ (fun _ => false) a w (by simp) (fun k hk => by simp [hk]) (fun j o _ h => by cases h) (unl_none _) ?_
  · intro i j b hi hj h1 h2
    rcases Nat.lt_trichotomy i j with h3 | h3 | h3
    · exact (hnews i j b hi hj h3 h1 h2).elim
    · exact h3
    · exact (hnews j i b hj hi h3 h2 h1).elim
  · intro i b hi hb
    have h1 := hin i b hi hb
    have h2 := hT_mono (rc := rcL rs) (h0 := h) (i := 0) i
    simp only [Nat.zero_add] at h2
    cases b with
    | o m => exact hW.1 m (Nat.le_trans h2.1 h1.1)
    | r m => exact hW.2 m (Nat.le_trans h2.2 h1.1)
  · refine ⟨(hT (rcL rs) h ops.size).ow.length, fun i hi m hm => ?_⟩
    cases hh : (rcL rs i).e.news (.o m) with
    | false => rfl
    | true =>
      have h1 := hin i _ hi hh
      obtain ⟨d, hd⟩ : ∃ d, ops.size = i + 1 + d := ⟨ops.size - (i + 1), by omega⟩
      have h2 := hT_mono (rc := rcL rs) (h0 := h) (i := i + 1) d
      rw [← hd] at h2
      simp only at h1; omega
  · intro a' w' hin'
    obtain ⟨ρ', h1, h2, h3, h4⟩ := hin'.state
    refine hQ _ _ a' w' hK ⟨ρ', h1, by rw [hget _ (Nat.le_refl _)]; exact h2, hTr.trans h3, fun m hm => ?_, fun m hm => ?_⟩
    · cases hρ : ρ' (.o m) with
      | none => rfl
      | some c =>
        rcases h4 (.o m) (by rw [hρ]; simp) with ⟨i, hi, _, hn⟩ | h5
        · have h6 := hin i _ hi hn
          obtain ⟨d, hd⟩ : ∃ d, ops.size = i + 1 + d := ⟨ops.size - (i + 1), by omega⟩
          have h7 := hT_mono (rc := rcL rs) (h0 := h) (i := i + 1) d
          rw [← hd] at h7
          simp only at h6; omega
        · have h7 := hT_mono (rc := rcL rs) (h0 := h) (i := 0) ops.size
          simp only [Nat.zero_add] at h7
          exact absurd (hW.1 m (Nat.le_trans h7.1 hm)) h5
    · cases hρ : ρ' (.r m) with
      | none => rfl
      | some c =>
        rcases h4 (.r m) (by rw [hρ]; simp) with ⟨i, hi, _, hn⟩ | h5
        · have h6 := hin i _ hi hn
          obtain ⟨d, hd⟩ : ∃ d, ops.size = i + 1 + d := ⟨ops.size - (i + 1), by omega⟩
          have h7 := hT_mono (rc := rcL rs) (h0 := h) (i := i + 1) d
          rw [← hd] at h7
          simp only at h6; omega
        · have h7 := hT_mono (rc := rcL rs) (h0 := h) (i := 0) ops.size
          simp only [Nat.zero_add] at h7
          exact absurd (hW.2 m (Nat.le_trans h7.2 hm)) h5
  · have hz : ∀ i, frL ops (rcL rs) fr (fun _ => false) i = fr := fun i => by
      induction i with
      | zero => rfl
      | succ i ih => simp [frL, ih]
    have hg : ∀ i, gL (rcL rs) h.get (fun _ => false) i = h.get := fun i => by
      induction i with
      | zero => rfl
      | succ i ih => simp [gL, ih]
    exact ⟨ρ, by rw [hz]; exact hF, by rw [hg]; exact hS, Tr.refl _ _, fun b hb => .inr hb⟩

end
end Go.Sym
