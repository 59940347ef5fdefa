/- Equality of structs and arrays of whole numbers and bools: the model's equality is that of the cells. -/
import Derived.Test.YtnkijhpikeokfaaS5
set_option linter.unusedSimpArgs false
set_option linter.unusedVariables false
namespace Go.Sym
open Go

theorem eqGuard_plain {P : Program} (op : BinOp) (t : TypeId) (x y : Operand) (a b : Value) (w : World) (h1 : ∀ l l', ¬ (a = .agg l ∧ b = .agg l')) (h2 : ¬ (a = .nilIface ∧ b = .nilIface)) : (eqGuard op t x y a b).run P w = .ok () w := by
  cases op
  case eql => cases a <;> cases b <;> first | rfl | (exact absurd ⟨rfl, rfl⟩ (h1 _ _)) | (exact absurd ⟨rfl, rfl⟩ h2)
  case neq => cases a <;> cases b <;> first | rfl | (exact absurd ⟨rfl, rfl⟩ (h1 _ _)) | (exact absurd ⟨rfl, rfl⟩ h2)
  all_goals rfl

def mkV (P : Program) (t : TypeId) (X : List Value) : Value :=
  match tk P t with
  | some k => if k.agg then .agg X.toArray else X.headD undef
  | none => undef

theorem fits_append : ∀ {k rs : List TK} {L : List AV}, fits (k ++ rs) L = true → fits k (L.take k.length) = true ∧ fits rs (L.drop k.length) = true
  | [], rs, L, h => by simpa [fits] using h
  | a :: k, rs, [], h => by cases a <;> simp [fits] at h
  | a :: k, rs, v :: L, h => by
    cases a <;> cases v <;> simp [fits] at h
    all_goals
      first
      | (have := fits_append h.2; simp [fits, h.1, this])
      | (have := fits_append h; simp [fits, this])

theorem fits_length : ∀ {k : List TK} {L : List AV}, fits k L = true → L.length = k.length
  | [], [], _ => rfl
  | [], _ :: _, h => by simp [fits] at h
  | a :: k, [], h => by cases a <;> simp [fits] at h
  | a :: k, v :: L, h => by
    cases a <;> cases v <;> simp [fits] at h
    all_goals
      first
      | (have := fits_length h.2; simp [this])
      | (have := fits_length h; simp [this])

theorem eqCells_append : ∀ {a a' b b' : List AV} {x y : Bool}, eqCells a a' = some x → eqCells b b' = some y → eqCells (a ++ b) (a' ++ b') = some (x && y)
  | [], [], b, b', x, y, h, h' => by simp only [eqCells, Option.some.injEq] at h; subst h; simpa using h'
  | [], v :: _, _, _, _, _, h, _ => by cases v <;> simp [eqCells] at h
  | v :: a, [], _, _, _, _, h, _ => by cases v <;> simp [eqCells] at h
  | u :: a, v :: a', b, b', x, y, h, h' => by
    cases u <;> cases v <;> simp only [eqCells, reduceCtorEq] at h
    · simp only [Option.map_eq_some_iff] at h
      obtain ⟨z, hz, rfl⟩ := h
      simp [eqCells, eqCells_append hz h', Bool.and_assoc]
    · split at h
      · rename_i e
        simp only [Option.map_eq_some_iff] at h
        obtain ⟨z, hz, rfl⟩ := h
        simp [eqCells, eqCells_append hz h', Bool.and_assoc, e]
      · cases h

def eqSegs (d : Nat) (xs ys : Array Value) : List (TypeId × Nat) → Sem Bool
  | [] => pure true
  | (t, o) :: r => do
    let a ← part t xs o
    let b ← part t ys o
    let q ← Op.equalIn d t a b
    if (!q) = true then pure false else eqSegs d xs ys r

section
variable {P : Program} {w : World}

theorem eqItems_segs (d : Nat) (e c : Nat) (xs ys : Array Value) : ∀ is : List Nat, (Op.eqItems d e c xs ys is) = eqSegs d xs ys (is.map fun i => (e, i * c))
  | [] => rfl
  | i :: is => by simp only [Op.eqItems, List.map_cons, eqSegs, eqItems_segs d e c xs ys is]

theorem eqFields_segs (d : Nat) (xs ys : Array Value) : ∀ fs : List Field, (∀ f ∈ fs, f.name ≠ "_") → (Op.eqFields d xs ys fs) = eqSegs d xs ys (fs.map fun f => (f.type, f.offset))
  | [], _ => rfl
  | f :: fs, h => by simp only [Op.eqFields, List.map_cons, eqSegs, eqFields_segs d xs ys fs fun g hg => h g (by simp [hg]), if_pos (h f (by simp))]

inductive SegsOK (P : Program) (d : Nat) : List (TypeId × Nat) → Nat → List TK → Prop
  | nil (o : Nat) : SegsOK P d [] o []
  | cons {t o k r rs} : kindsOf P d t = some k → tsize P t = some k.length → 0 < k.length → SegsOK P d r (o + k.length) rs → SegsOK P d ((t, o) :: r) o (k ++ rs)

theorem kindsOf_tk {d : Nat} {t : TypeId} {k : List TK} (h : kindsOf P d t = some k) : ∃ x, tk P t = some x ∧ (x.agg = false → k.length = 1) := by
  cases d with
  | zero => simp [kindsOf] at h
  | succ d =>
    unfold kindsOf at h
    split at h
    · rename_i k' hu _; cases h; exact ⟨.int k', by simp [tk, hu], by simp⟩
    · rename_i hu _; cases h; exact ⟨.bool, by simp [tk, hu], by simp⟩
    · rename_i n e s hu _; exact ⟨.arr n e, by simp [tk, hu], by simp [TK.agg]⟩
    · rename_i fs s hu _; exact ⟨.st (fs.toList.map fun f => (f.offset, f.type)), by simp only [tk, hu], by simp [TK.agg]⟩
    · cases h

theorem run_part_mk {d : Nat} {t : TypeId} {k : List TK} (hk : kindsOf P d t = some k) (hs : tsize P t = some k.length) (X : List Value) (off : Nat) (hoff : off + k.length ≤ X.length) (w : World) :
    (part t X.toArray off).run P w = .ok (mkV P t ((X.drop off).take k.length)) w := by
  obtain ⟨x, hx, hx1⟩ := kindsOf_tk hk
  unfold mkV
  rw [hx]
  cases ha : x.agg with
  | true => simp [part, run_isAgg hx, ha, run_sizeOf hs, List.extract_eq_take_drop]
  | false =>
    have h1 := hx1 ha
    rw [h1] at hoff
    have : (X.drop off).take k.length = [X[off]'(by omega)] := by
      rw [h1, List.drop_eq_getElem_cons (by omega)]; rfl
    rw [this]
    simp [part, run_isAgg hx, ha, show off < X.length by omega]

theorem segs_fold (d : Nat) : ∀ (fs : List Field) (acc l : List TK),
    fs.foldl (fun acc f => acc.bind fun l => if f.name = "_" ∨ f.offset ≠ l.length then none else (kindsOf P d f.type).bind fun l' => if tsize P f.type = some l'.length ∧ 0 < l'.length then some (l ++ l') else none) (some acc) = some l →
    (∀ f ∈ fs, f.name ≠ "_") ∧ ∃ rs, l = acc ++ rs ∧ SegsOK P d (fs.map fun f => (f.type, f.offset)) acc.length rs
  | [], acc, l, h => by
    simp only [List.foldl_nil, Option.some.injEq] at h
    exact ⟨by simp, [], by simp [h], .nil _⟩
  | f :: fs, acc, l, h => by
    have hnone : ∀ fs : List Field, fs.foldl (fun acc f => acc.bind fun l => if f.name = "_" ∨ f.offset ≠ l.length then none else (kindsOf P d f.type).bind fun l' => if tsize P f.type = some l'.length ∧ 0 < l'.length then some (l ++ l') else none) none = none := by
      intro fs; induction fs with
      | nil => rfl
      | cons f fs ih => simpa using ih
    simp only [List.foldl_cons, Option.bind_some] at h
    split at h
    · rw [hnone] at h; cases h
    · rename_i hc
      simp only [not_or, ne_eq, Decidable.not_not] at hc
      cases hk : kindsOf P d f.type with
      | none => rw [hk] at h; simp only [Option.bind_none] at h; rw [hnone] at h; cases h
      | some k =>
        rw [hk] at h
        simp only [Option.bind_some] at h
        split at h
        · rename_i hs
          obtain ⟨h1, rs, rfl, h2⟩ := segs_fold d fs (acc ++ k) l h
          refine ⟨?_, k ++ rs, by simp, ?_⟩
          · intro g hg
            simp only [List.mem_cons] at hg
            rcases hg with rfl | hg
            · exact hc.1
            · exact h1 g hg
          · simp only [List.map_cons, hc.2]
            exact .cons hk hs.1 hs.2 (by simpa using h2)
        · rw [hnone] at h; cases h

theorem segs_array (d : Nat) {e : TypeId} {k : List TK} (hk : kindsOf P d e = some k) (hs : tsize P e = some k.length) (hp : 0 < k.length) : ∀ (n i : Nat),
    SegsOK P d ((List.range' i n).map fun j => (e, j * k.length)) (i * k.length) (List.replicate n k).flatten
  | 0, i => by simpa using SegsOK.nil _
  | n + 1, i => by
    simp only [List.range'_succ, List.map_cons, List.replicate_succ, List.flatten_cons]
    refine .cons hk hs hp ?_
    have := segs_array d hk hs hp n (i + 1)
    rw [Nat.add_mul, Nat.one_mul] at this
    exact this

theorem VRs_fits {ρ : Rho} {r : List TK} {l : List AV} {X : List Value} (h : VRs ρ l X) (hf : fits r l = true) : X.length = r.length := by rw [h.length, fits_length hf]

theorem segs_equal {ρ : Rho} (d m : Nat) (ih : ∀ (t : TypeId) (k : List TK), kindsOf P d t = some k → ∀ (l l' : List AV) (X Y : List Value), fits k l = true → fits k l' = true → VRs ρ l X → VRs ρ l' Y → ∀ w,
      ∃ b, eqCells l l' = some b ∧ (Op.equalIn (d + m) t (mkV P t X) (mkV P t Y)).run P w = .ok b w) :
    ∀ (segs : List (TypeId × Nat)) (o : Nat) (rs : List TK), SegsOK P d segs o rs → ∀ (l l' : List AV) (X Y : List Value), VRs ρ l X → VRs ρ l' Y → fits rs (l.drop o) = true → fits rs (l'.drop o) = true → ∀ w,
      ∃ b, eqCells (l.drop o) (l'.drop o) = some b ∧ (eqSegs (d + m) X.toArray Y.toArray segs).run P w = .ok b w := by
  intro segs o rs hs
  induction hs with
  | nil o =>
    intro l l' X Y hX hY h1 h2 w
    refine ⟨true, ?_, rfl⟩
    have e1 := fits_length h1
    have e2 := fits_length h2
    rw [List.length_nil, List.length_eq_zero_iff] at e1 e2
    rw [e1, e2]; rfl
  | @cons t o k r rs hk hsz hkl hr ihr =>
    intro l l' X Y hX hY h1 h2 w
    have f1 := fits_append h1
    have f2 := fits_append h2
    have e1 := fits_length h1
    have e2 := fits_length h2
    simp only [List.length_drop, List.length_append] at e1 e2
    have hXl := hX.length
    have hYl := hY.length
    obtain ⟨b1, hb1, hr1⟩ := ih t k hk _ _ _ _ f1.1 f2.1 ((hX.drop o).take k.length) ((hY.drop o).take k.length) w
    obtain ⟨b2, hb2, hr2⟩ := ihr l l' X Y hX hY (by simpa [List.drop_drop] using f1.2) (by simpa [List.drop_drop] using f2.2) w
    refine ⟨b1 && b2, ?_, ?_⟩
    · rw [← List.take_append_drop k.length (l.drop o), ← List.take_append_drop k.length (l'.drop o)]
      refine eqCells_append hb1 ?_
      simpa [List.drop_drop] using hb2
    · simp only [eqSegs, Sem.run_bind, run_part_mk hk hsz X o (by omega) w, run_part_mk hk hsz Y o (by omega) w, Result.andThen_ok, hr1]
      cases b1 with
      | false => simp
      | true => simpa using hr2
end
end Go.Sym
