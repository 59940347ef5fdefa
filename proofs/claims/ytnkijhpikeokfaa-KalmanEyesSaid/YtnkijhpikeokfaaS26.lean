/- A closed run: what the abstract semantics comes to, reckoned by the kernel; it gives a contract. -/
import Derived.Test.YtnkijhpikeokfaaS25
set_option linter.unusedSimpArgs false
set_option linter.unusedVariables false
namespace Go.Sym
open Go

/-! what is reckoned is reckoned at once -/
section force
variable {β : Type}

def forceN (n : Nat) (k : Nat → β) : β :=
  match n with
  | 0 => k 0
  | m + 1 => k (Nat.succ m)
theorem forceN_eq (n : Nat) (k : Nat → β) : forceN n k = k n := by cases n <;> rfl

def forceI (n : Int) (k : Int → β) : β :=
  match n with
  | .ofNat a => forceN a fun a => k (.ofNat a)
  | .negSucc a => forceN a fun a => k (.negSucc a)
theorem forceI_eq (n : Int) (k : Int → β) : forceI n k = k n := by cases n <;> simp [forceI, forceN_eq]

def forceB (b : Bool) (k : Bool → β) : β :=
  match b with
  | true => k true
  | false => k false
theorem forceB_eq (b : Bool) (k : Bool → β) : forceB b k = k b := by cases b <;> rfl

def forceId (b : BId) (k : BId → β) : β :=
  match b with
  | .r n => forceN n fun n => k (.r n)
  | .o n => forceN n fun n => k (.o n)
theorem forceId_eq (b : BId) (k : BId → β) : forceId b k = k b := by cases b <;> simp [forceId, forceN_eq]

mutual
def forceV : AV → (AV → β) → β
  | .top, k => k .top
  | .bool b, k => forceB b fun b => k (.bool b)
  | .int i n, k => forceI n fun n => k (.int i n)
  | .str s, k => k (.str s)
  | .nilptr, k => k .nilptr
  | .ptr b off, k => forceId b fun b => forceN off fun off => k (.ptr b off)
  | .nilsl, k => k .nilsl
  | .sl b off n z f, k => forceId b fun b => forceN off fun off => forceN n fun n => forceN z fun z => forceB f fun f => k (.sl b off n z f)
  | .nilfunc, k => k .nilfunc
  | .func f a b, k => forceN f fun f => forceVs a fun a => forceVs b fun b => k (.func f a b)
  | .agg l, k => forceVs l fun l => k (.agg l)
  | .tuple l, k => forceVs l fun l => k (.tuple l)
def forceVs : List AV → (List AV → β) → β
  | [], k => k []
  | a :: l, k => forceV a fun a => forceVs l fun l => k (a :: l)
end

mutual
theorem forceV_eq : ∀ (v : AV) (k : AV → β), forceV v k = k v
  | .top, k => by simp only [forceV]
  | .bool b, k => by simp only [forceV, forceB_eq]
  | .int i n, k => by simp only [forceV, forceI_eq]
  | .str s, k => by simp only [forceV]
  | .nilptr, k => by simp only [forceV]
  | .ptr b off, k => by simp only [forceV, forceId_eq, forceN_eq]
  | .nilsl, k => by simp only [forceV]
  | .sl b off n z f, k => by simp only [forceV, forceId_eq, forceN_eq, forceB_eq]
  | .nilfunc, k => by simp only [forceV]
  | .func f a b, k => by simp only [forceV, forceN_eq, forceVs_eq a, forceVs_eq b]
  | .agg l, k => by simp only [forceV, forceVs_eq l]
  | .tuple l, k => by simp only [forceV, forceVs_eq l]
theorem forceVs_eq : ∀ (l : List AV) (k : List AV → β), forceVs l k = k l
  | [], k => by simp only [forceVs]
  | a :: l, k => by simp only [forceVs, forceV_eq a, forceVs_eq l]
end

def forceLL : List (List AV) → (List (List AV) → β) → β
  | [], k => k []
  | a :: l, k => forceVs a fun a => forceLL l fun l => k (a :: l)
theorem forceLL_eq : ∀ (l : List (List AV)) (k : List (List AV) → β), forceLL l k = k l
  | [], k => rfl
  | a :: l, k => by simp only [forceLL, forceVs_eq, forceLL_eq l]

def forceOw : List (Option (List AV)) → (List (Option (List AV)) → β) → β
  | [], k => k []
  | none :: l, k => forceOw l fun l => k (none :: l)
  | some a :: l, k => forceVs a fun a => forceOw l fun l => k (some a :: l)
theorem forceOw_eq : ∀ (l : List (Option (List AV))) (k : List (Option (List AV)) → β), forceOw l k = k l
  | [], k => rfl
  | none :: l, k => by simp only [forceOw, forceOw_eq l]
  | some a :: l, k => by simp only [forceOw, forceVs_eq, forceOw_eq l]

def forceH (h : H) (k : H → β) : β := forceLL h.ro fun ro => forceOw h.ow fun ow => k ⟨ro, ow⟩
theorem forceH_eq (h : H) (k : H → β) : forceH h k = k h := by simp only [forceH, forceLL_eq, forceOw_eq]

def forceNs : List Nat → (List Nat → β) → β
  | [], k => k []
  | a :: l, k => forceN a fun a => forceNs l fun l => k (a :: l)
theorem forceNs_eq : ∀ (l : List Nat) (k : List Nat → β), forceNs l k = k l
  | [], k => rfl
  | a :: l, k => by simp only [forceNs, forceN_eq, forceNs_eq l]

def forceW : List (Nat × Nat × List AV) → (List (Nat × Nat × List AV) → β) → β
  | [], k => k []
  | (a, b, c) :: l, k => forceN a fun a => forceN b fun b => forceVs c fun c => forceW l fun l => k ((a, b, c) :: l)
theorem forceW_eq : ∀ (l : List (Nat × Nat × List AV)) (k : List (Nat × Nat × List AV) → β), forceW l k = k l
  | [], k => rfl
  | (a, b, c) :: l, k => by simp only [forceW, forceN_eq, forceVs_eq, forceW_eq l]

def forceRd : List (BId × Nat × Nat) → (List (BId × Nat × Nat) → β) → β
  | [], k => k []
  | (a, b, c) :: l, k => forceId a fun a => forceN b fun b => forceN c fun c => forceRd l fun l => k ((a, b, c) :: l)
theorem forceRd_eq : ∀ (l : List (BId × Nat × Nat)) (k : List (BId × Nat × Nat) → β), forceRd l k = k l
  | [], k => rfl
  | (a, b, c) :: l, k => by simp only [forceRd, forceN_eq, forceId_eq, forceRd_eq l]

def forceR (r : Res) (k : Res → β) : β := forceV r.val fun v => forceW r.wr fun w => forceNs r.kill fun d => forceLL r.newo fun o => forceLL r.newr fun q => k ⟨v, w, d, o, q⟩
theorem forceR_eq (r : Res) (k : Res → β) : forceR r k = k r := by simp only [forceR, forceV_eq, forceW_eq, forceNs_eq, forceLL_eq]
end force

/-! frames: what was set over is let go -/

def prune : Nat → Fs → Fs
  | _, [] => []
  | m, (t, v) :: r => match m.testBit t with
    | true => prune m r
    | false => (t, v) :: prune (m ||| 1 <<< t) r

theorem look_prune : ∀ (fs : Fs) (m t : Nat), m.testBit t = false → look (prune m fs) t = look fs t
  | [], m, t, _ => rfl
  | (d, v) :: r, m, t, h => by
    simp only [prune]
    cases hd : m.testBit d with
    | true =>
      have hne : Nat.beq d t = false := by
        cases hb : Nat.beq d t with
        | false => rfl
        | true => have := Nat.eq_of_beq_eq_true hb; subst this; rw [hd] at h; cases h
      simp only [look, hne]
      exact look_prune r m t h
    | false =>
      simp only [look]
      cases hb : Nat.beq d t with
      | true => rfl
      | false =>
        refine look_prune r _ t ?_
        have hne : d ≠ t := fun e => by subst e; simp at hb
        rw [Nat.testBit_or, h, Nat.one_shiftLeft, Nat.testBit_two_pow]
        simp [hne]

theorem Fs.fr_prune (fs : Fs) : Fs.fr (prune 0 fs) = Fs.fr fs := by
  funext t
  simp only [Fs.fr, look_prune fs 0 t (by simp)]

def forceFs {β : Type} : Fs → (Fs → β) → β
  | [], k => k []
  | (t, v) :: r, k => forceN t fun t => forceFs r fun r => k ((t, v) :: r)
theorem forceFs_eq {β : Type} : ∀ (l : Fs) (k : Fs → β), forceFs l k = k l
  | [], k => rfl
  | (t, v) :: r, k => by simp only [forceFs, forceN_eq, forceFs_eq r]

/-! the run -/

def xOps (P : Program) (O : Oracle) (ops : Array Oper) : List Oper → Fs → H → (Fs → H → Option Res) → Option Res
  | [], fs, h, k => k fs h
  | o :: os, fs, h, k =>
    match wantA ops fs.fr o with
    | some true =>
      match opE P O fs.fr.ev h.get h.ow.length h.ro.length o.op with
      | some (v, e) => forceV v fun v =>
        match e.quiet with
        | true => xOps P O ops os (match o.dst with | some d => (d, v) :: fs | none => fs) h k
        | false => forceH (h.app e) fun h => xOps P O ops os (match o.dst with | some d => (d, v) :: fs | none => fs) h k
      | none => none
    | some false => xOps P O ops os (match o.dst with | some d => (d, .tuple []) :: fs | none => fs) h k
    | none => none

def xOpsV (P : Program) (O : Oracle) (ops : Array Oper) : List Oper → List Rc → Fs → H → (List Rc → Fs → H → Option Res) → Option Res
  | [], rs, fs, h, k => k rs.reverse fs h
  | o :: os, rs, fs, h, k =>
    match wantA ops fs.fr o with
    | some true =>
      match opE P O fs.fr.ev h.get h.ow.length h.ro.length o.op with
      | some (v, e) => forceV v fun v =>
        match e.quiet with
        | true => forceRd e.rd fun rd => xOpsV P O ops os (⟨v, { e with rd := rd }⟩ :: rs) (match o.dst with | some d => (d, v) :: fs | none => fs) h k
        | false => forceH (h.app e) fun h => xOpsV P O ops os (⟨v, e⟩ :: rs) (match o.dst with | some d => (d, v) :: fs | none => fs) h k
      | none => none
    | some false => xOpsV P O ops os (⟨.tuple [], {}⟩ :: rs) (match o.dst with | some d => (d, .tuple []) :: fs | none => fs) h k
    | none => none

def xCode (P : Program) (O : Oracle) (N : Nat) : Nat → Code → Fs → H → (Exit → Fs → H → Option Res) → Option Res
  | 0, _, _, _, _ => none
  | f + 1, c, fs, h, k =>
    match c with
    | .skip => k .normal fs h
    | .label _ => k .normal fs h
    | .exit id => k (.exit id) fs h
    | .ret => k .ret fs h
    | .seq x y => xCode P O N f x fs h fun e fs h => match e with
      | .normal => xCode P O N f y fs h k
      | e => k e fs h
    | .cond c x y => match evO fs c with
      | some (.bool true) => xCode P O N f x fs h k
      | some (.bool false) => xCode P O N f y fs h k
      | _ => none
    | .block id c => xCode P O N f c fs h fun e fs h => match e with
      | .exit id' => if id' = id then k .normal fs h else k (.exit id') fs h
      | e => k e fs h
    | .loop c => xCode P O N f c fs h fun e fs h => match e with
      | .normal => forceFs (prune 0 fs) fun fs => xCode P O N f (.loop c) fs h k
      | e => k e fs h
    | .region _ ops false => match edgesOK N ops with
      | true => xOps P O ops ops.toList fs h fun fs h => k .normal fs h
      | false => none
    | .region _ ops true => match edgesOK N ops, P.follows .mixedOrders with
      | true, true => xOpsV P O ops ops.toList [] fs h fun rs fs h => match pairsOK ops rs with
        | true => k .normal fs h
        | false => none
      | _, _ => none
    | _ => none

section sound
variable {P : Program} {O : Oracle} {no nr N : Nat} {r : Res}

theorem xOps_sound (hO : SoundO P O) {ops : Array Oper} : ∀ (os : List Oper) (fs : Fs) (h : H) (k : Fs → H → Option Res), xOps P O ops os fs h k = some r → RunF P ops os fs h fun fs h => k fs h = some r
  | [], fs, h, k, hx => hx
  | o :: os, fs, h, k, hx => by
    simp only [xOps] at hx
    split at hx
    · rename_i hw
      split at hx
      · rename_i v e hop
        rw [forceV_eq] at hx
        refine ⟨v, e, .inl ⟨hw, O, hO, hop⟩, ?_⟩
        split at hx
        · rename_i hq
          rw [Eff.quiet_app hq]
          exact xOps_sound hO os _ _ k hx
        · rw [forceH_eq] at hx
          exact xOps_sound hO os _ _ k hx
      · cases hx
    · rename_i hw
      refine ⟨.tuple [], {}, .inr ⟨hw, rfl, rfl⟩, ?_⟩
      rw [Eff.quiet_app rfl]
      exact xOps_sound hO os _ _ k hx
    · cases hx

theorem xOpsV_sound (hO : SoundO P O) {ops : Array Oper} : ∀ (os : List Oper) (rs : List Rc) (fs : Fs) (h : H) (k : List Rc → Fs → H → Option Res), xOpsV P O ops os rs fs h k = some r → RunV P ops os rs fs h fun rs fs h => k rs fs h = some r
  | [], rs, fs, h, k, hx => hx
  | o :: os, rs, fs, h, k, hx => by
    simp only [xOpsV] at hx
    split at hx
    · rename_i hw
      split at hx
      · rename_i v e hop
        rw [forceV_eq] at hx
        refine ⟨v, e, .inl ⟨hw, O, hO, hop⟩, ?_⟩
        split at hx
        · rename_i hq
          rw [forceRd_eq] at hx
          rw [Eff.quiet_app hq]
          exact xOpsV_sound hO os _ _ _ k hx
        · rw [forceH_eq] at hx
          exact xOpsV_sound hO os _ _ _ k hx
      · cases hx
    · rename_i hw
      refine ⟨.tuple [], {}, .inr ⟨hw, rfl, rfl⟩, ?_⟩
      rw [Eff.quiet_app rfl]
      exact xOpsV_sound hO os _ _ _ k hx
    · cases hx

theorem RunV.mono {ops : Array Oper} {K K' : List Rc → Fs → H → Prop} (hk : ∀ rs fs h, K rs fs h → K' rs fs h) : ∀ (os : List Oper) (rs : List Rc) (fs : Fs) (h : H), RunV P ops os rs fs h K → RunV P ops os rs fs h K'
  | [], _, _, _, hx => hk _ _ _ hx
  | o :: os, rs, fs, h, ⟨v, e, h1, h2⟩ => ⟨v, e, h1, RunV.mono hk os _ _ _ h2⟩

/-- in a loop: the body is next, and then the loop goes on -/
def AWin (P : Program) (no nr n : Nat) (c : Code) (Q : APost) (fs : Fs) (h : H) : Prop :=
  ∀ (ρ0 : Rho) (w0 : World), Within ρ0 no nr → ∀ a w, Holds ρ0 w0 n fs.fr h a w → ∀ (b : Frame) (k : List Item) (cs : List Frame),
    ∃ e a' w', (∃ fs' h', Q e fs' h' ∧ Holds ρ0 w0 n fs'.fr h' a' w') ∧ Arrives P (lone (b.at a (.code c :: .inLoop c :: k)) cs w) b k cs e a' w'

theorem AWin.loop {c : Code} {Q : APost} {fs : Fs} {h : H} (h1 : AWin P no nr N c Q fs h) : AW P no nr N (.loop c) Q fs h := fun ρ0 w0 hW a w hh => by
  intro b k cs
  obtain ⟨e, a', w', hq, harr⟩ := h1 ρ0 w0 hW a w hh b k cs
  exact ⟨e, a', w', hq, .of_steps (.one step_loop) harr⟩

theorem AWin.go {c : Code} {Q : APost} {fs : Fs} {h : H} (h1 : AW P no nr N c (AThen (fun fs h => AWin P no nr N c Q fs h) Q) fs h) : AWin P no nr N c Q fs h := fun ρ0 w0 hW a w hh => by
  intro b k cs
  obtain ⟨e, a1, w1, ⟨fs', h', hq, hh'⟩, harr⟩ := h1 ρ0 w0 hW a w hh b (.inLoop c :: k) cs
  cases e with
  | normal =>
    obtain ⟨e2, a2, w2, hq2, harr2⟩ := hq ρ0 w0 hW a1 w1 hh' b k cs
    exact ⟨e2, a2, w2, hq2, .of_steps (Steps.trans harr (.one step_inLoop)) harr2⟩
  | exit id => exact ⟨_, a1, w1, ⟨fs', h', hq, hh'⟩, .pass (x := .inLoop c) rfl (fun _ _ => .inl (by simp)) harr⟩
  | goto l => exact ⟨_, a1, w1, ⟨fs', h', hq, hh'⟩, .pass (x := .inLoop c) rfl (fun _ _ => .inl (by simp)) harr⟩
  | ret => exact ⟨_, a1, w1, ⟨fs', h', hq, hh'⟩, .pass (x := .inLoop c) rfl (fun _ _ => .inl (by simp)) harr⟩
  | panic ch => exact ⟨_, a1, w1, ⟨fs', h', hq, hh'⟩, .pass (x := .inLoop c) rfl (fun _ _ => .inl (by simp)) harr⟩
  | outgrown => exact ⟨_, a1, w1, ⟨fs', h', hq, hh'⟩, .pass (x := .inLoop c) rfl (fun _ _ => .inl (by simp)) harr⟩

theorem AWin.ofFr {c : Code} {Q : APost} {fs fs2 : Fs} {h : H} (he : Fs.fr fs2 = Fs.fr fs) (h1 : AWin P no nr N c Q fs2 h) : AWin P no nr N c Q fs h := fun ρ0 w0 hW a w hh => h1 ρ0 w0 hW a w (by rw [he]; exact hh)

theorem xLoop_sound (hO : SoundO P O) : ∀ (f : Nat), (∀ (c : Code) (fs : Fs) (h : H) (k : Exit → Fs → H → Option Res), xCode P O N f c fs h k = some r → AW P no nr N c (fun e fs h => k e fs h = some r) fs h) ∧
    ∀ (c : Code) (fs : Fs) (h : H) (k : Exit → Fs → H → Option Res), xCode P O N f (.loop c) fs h k = some r → AWin P no nr N c (fun e fs h => k e fs h = some r) fs h := by
  intro f
  induction f with
  | zero => exact ⟨fun c fs h k hx => (by cases hx), fun c fs h k hx => (by cases hx)⟩
  | succ f ih =>
    have hin : ∀ (c : Code) (fs : Fs) (h : H) (k : Exit → Fs → H → Option Res), xCode P O N (f + 1) (.loop c) fs h k = some r → AWin P no nr N c (fun e fs h => k e fs h = some r) fs h := by
      intro c fs h k hx
      unfold xCode at hx
      refine AWin.go ((ih.1 _ _ _ _ hx).mono fun e fs h he => ?_)
      cases e with
      | normal =>
        simp only [forceFs_eq] at he
        exact AWin.ofFr (Fs.fr_prune fs) (ih.2 _ _ _ _ he)
      | _ => exact he
    refine ⟨fun c fs h k hx => ?_, hin⟩
    have hx0 := hx
    unfold xCode at hx
    split at hx
    · exact AW.skip hx
    · exact AW.label hx
    · exact AW.exit hx
    · exact AW.ret hx
    · refine AW.seq ((ih.1 _ _ _ _ hx).mono fun e fs h he => ?_)
      cases e with
      | normal => exact ih.1 _ _ _ _ he
      | _ => exact he
    · split at hx
      · rename_i hc; exact AW.cond hc (fun _ => ih.1 _ _ _ _ hx) (fun h => by cases h)
      · rename_i hc; exact AW.cond hc (fun h => by cases h) (fun _ => ih.1 _ _ _ _ hx)
      · cases hx
    · refine AW.block ((ih.1 _ _ _ _ hx).mono fun e fs h he => ?_)
      cases e with
      | exit id' =>
        simp only [AIn]
        simp only at he
        split
        · rename_i h1; rw [if_pos h1] at he; exact he
        · rename_i h1; rw [if_neg h1] at he; exact he
      | _ => exact he
    · exact AWin.loop (hin _ _ _ _ hx0)
    · rename_i id ops
      split at hx
      · rename_i hedge
        have := AW.region (P := P) (no := no) (nr := nr) (n := N) (Q := fun e fs h => k e fs h = some r) (fs := fs) (h := h) (id := id) (os := ops.toList) (by simpa using hedge) (by simpa using xOps_sound hO _ _ _ _ hx)
        simpa using this
      · cases hx
    · rename_i id ops
      split at hx
      · rename_i hedge hm
        have h1 := xOpsV_sound hO _ _ _ _ _ hx
        have := AW.draws (P := P) (no := no) (nr := nr) (n := N) (Q := fun e fs h => k e fs h = some r) (fs := fs) (h := h) (id := id) (os := ops.toList) hm (by simpa using hedge) (by
          simp only [Array.toArray_toList]
          refine RunV.mono (fun rs fs h hq => ?_) _ _ _ _ h1
          split at hq
          · rename_i hp; exact ⟨hp, hq⟩
          · cases hq)
        simpa using this
      · cases hx
    · cases hx

theorem xCode_sound (hO : SoundO P O) (f : Nat) (c : Code) (fs : Fs) (h : H) (k : Exit → Fs → H → Option Res) (hx : xCode P O N f c fs h k = some r) : AW P no nr N c (fun e fs h => k e fs h = some r) fs h := (xLoop_sound hO f).1 c fs h k hx
end sound

/-! what is told at the end -/
mutual
def rnB (σ : Ren) : AV → AV → Bool
  | .top, _ => true
  | .bool b, .bool b' => b == b'
  | .int k n, .int k' n' => decide (k = k') && decide (n = n')
  | .nilptr, .nilptr => true
  | .ptr b off, .ptr b' off' => match σ b with
    | some (c, s) => decide (c = b') && Nat.beq (s + off) off'
    | none => false
  | .nilsl, .nilsl => true
  | .sl b off n z f, .sl b' off' n' z' f' => match σ b with
    | some (c, s) => decide (c = b') && Nat.beq (s + off) off' && Nat.beq n n' && Nat.beq z z' && (!f || f')
    | none => false
  | .nilfunc, .nilfunc => true
  | .func k a b, .func k' a' b' => Nat.beq k k' && rnBs σ a a' && rnBs σ b b'
  | .agg l, .agg l' => rnBs σ l l'
  | .tuple l, .tuple l' => rnBs σ l l'
  | _, _ => false
def rnBs (σ : Ren) : List AV → List AV → Bool
  | [], [] => true
  | a :: l, a' :: l' => rnB σ a a' && rnBs σ l l'
  | _, _ => false
end

mutual
theorem rnB_sound (σ : Ren) : ∀ (v u : AV), rnB σ v u = true → RN false σ v u
  | .top, u, _ => by simp [RN]
  | .bool b, u, h => by cases u <;> simp [rnB] at h; simp [RN, h]
  | .int k n, u, h => by cases u <;> simp [rnB] at h; simp [RN, h]
  | .str s, u, h => by cases u <;> simp [rnB] at h
  | .nilptr, u, h => by cases u <;> simp [rnB] at h; simp [RN]
  | .ptr b off, u, h => by
    cases u <;> simp [rnB] at h
    split at h
    · rename_i c s hs
      simp at h
      simp only [RN]
      exact ⟨_, _, hs, by rw [h.1, h.2]⟩
    · cases h
  | .nilsl, u, h => by cases u <;> simp [rnB] at h; simp [RN]
  | .sl b off n z f, u, h => by
    cases u <;> simp [rnB] at h
    split at h
    · rename_i c s hs
      simp at h
      obtain ⟨⟨⟨⟨h1, h2⟩, h3⟩, h4⟩, h5⟩ := h
      simp only [RN]
      refine ⟨_, _, _, hs, by rw [h1, h2, h3, h4], fun hf => ?_, fun e => by cases e⟩
      rcases h5 with h5 | h5
      · rw [h5] at hf; cases hf
      · exact h5
    · cases h
  | .nilfunc, u, h => by cases u <;> simp [rnB] at h; simp [RN]
  | .func k a b, u, h => by
    cases u <;> simp [rnB] at h
    simp only [RN]
    exact ⟨_, _, by rw [h.1.1], rnBs_sound σ a _ h.1.2, rnBs_sound σ b _ h.2⟩
  | .agg l, u, h => by
    cases u <;> simp [rnB] at h
    simp only [RN]
    exact ⟨_, rfl, rnBs_sound σ l _ h⟩
  | .tuple l, u, h => by
    cases u <;> simp [rnB] at h
    simp only [RN]
    exact ⟨_, rfl, rnBs_sound σ l _ h⟩
theorem rnBs_sound (σ : Ren) : ∀ (l u : List AV), rnBs σ l u = true → RNs false σ l u
  | [], u, h => by cases u <;> simp [rnBs] at h; simp [RNs]
  | a :: l, u, h => by
    cases u <;> simp [rnBs] at h
    simp only [RNs]
    exact ⟨_, _, rfl, rnB_sound σ a _ h.1, rnBs_sound σ l _ h.2⟩
end

def prnB (σ : Ren) : List AV → List AV → Bool
  | [], _ => true
  | v :: vs, u :: us => rnB σ v u && prnB σ vs us
  | _, _ => false
theorem prnB_sound (σ : Ren) : ∀ (l u : List AV), prnB σ l u = true → PRN σ l u
  | [], u, _ => trivial
  | a :: l, [], h => by simp [prnB] at h
  | a :: l, u :: us, h => by
    simp [prnB] at h
    exact ⟨u, us, rfl, rnB_sound σ a u h.1, prnB_sound σ l us h.2⟩

def rowB (σ : Ren) (h : H) (b : BId) (l : List AV) : Bool :=
  match σ b with
  | some (c, _) => match h.get c with
    | some l' => prnB σ l l'
    | none => false
  | none => false
theorem rowB_sound {σ : Ren} {h : H} {b : BId} {l : List AV} (hb : rowB σ h b l = true) : ∃ c s l', σ b = some (c, s) ∧ h.get c = some l' ∧ PRN σ l l' := by
  unfold rowB at hb
  split at hb
  · rename_i c s hc
    split at hb
    · rename_i l' hl; exact ⟨c, s, l', hc, hl, prnB_sound σ _ _ hb⟩
    · cases hb
  · cases hb

def rowsOB (σ : Ren) (h : H) : Nat → List (Option (List AV)) → Bool
  | _, [] => true
  | m, none :: r => rowsOB σ h (m + 1) r
  | m, some l :: r => rowB σ h (.o m) l && rowsOB σ h (m + 1) r
theorem rowsOB_sound {σ : Ren} {h : H} : ∀ (m : Nat) (L : List (Option (List AV))), rowsOB σ h m L = true → RowsO σ h m L
  | _, [], _ => trivial
  | m, none :: r, hb => rowsOB_sound (m + 1) r hb
  | m, some l :: r, hb => by
    simp [rowsOB] at hb
    exact ⟨rowB_sound hb.1, rowsOB_sound (m + 1) r hb.2⟩

def rowsRB (σ : Ren) (h : H) : Nat → List (List AV) → Bool
  | _, [] => true
  | m, l :: r => rowB σ h (.r m) l && rowsRB σ h (m + 1) r
theorem rowsRB_sound {σ : Ren} {h : H} : ∀ (m : Nat) (L : List (List AV)), rowsRB σ h m L = true → RowsR σ h m L
  | _, [], _ => trivial
  | m, l :: r, hb => by
    simp [rowsRB] at hb
    exact ⟨rowB_sound hb.1, rowsRB_sound (m + 1) r hb.2⟩

mutual
def nmV (no : Nat) : AV → List Nat → List Nat
  | .ptr (.o m) _, so => if Nat.ble no m && !so.any (Nat.beq m) then so ++ [m] else so
  | .sl (.o m) _ _ _ _, so => if Nat.ble no m && !so.any (Nat.beq m) then so ++ [m] else so
  | .func _ a b, so => nmVs no b (nmVs no a so)
  | .agg l, so => nmVs no l so
  | .tuple l, so => nmVs no l so
  | _, so => so
def nmVs (no : Nat) : List AV → List Nat → List Nat
  | [], so => so
  | a :: l, so => nmVs no l (nmV no a so)
end

def closeN {β : Type} (h : H) (no : Nat) : Nat → Nat → List Nat → (List Nat → β) → β
  | 0, _, so, k => k so
  | f + 1, i, so, k => match so[i]? with
    | none => k so
    | some m => match h.get (.o m) with
      | some l => forceNs (nmVs no l so) fun so => closeN h no f (i + 1) so k
      | none => k so

theorem closeN_eq {β : Type} (h : H) (no : Nat) : ∀ (f i : Nat) (so : List Nat) (k : List Nat → β), ∃ so', closeN h no f i so k = k so'
  | 0, _, so, k => ⟨so, rfl⟩
  | f + 1, i, so, k => by
    unfold closeN
    split
    · exact ⟨_, rfl⟩
    · split
      · rw [forceNs_eq]; exact closeN_eq h no f _ _ k
      · exact ⟨_, rfl⟩

def idR : Ren := fun b => some (b, 0)

def chg : Nat → List (Option (List AV)) → List (Option (List AV)) → List (Nat × List AV)
  | j, some l0 :: r0, some l :: r => if rnBs idR l0 l then chg (j + 1) r0 r else (j, l) :: chg (j + 1) r0 r
  | j, _ :: r0, _ :: r => chg (j + 1) r0 r
  | _, _, _ => []

def kil : Nat → List (Option (List AV)) → List (Option (List AV)) → List Nat
  | j, some _ :: r0, none :: r => j :: kil (j + 1) r0 r
  | j, _ :: r0, _ :: r => kil (j + 1) r0 r
  | _, _, _ => []

def finB (h0 : H) (so : List Nat) (r : Res) (v : AV) (h h2 : H) : Bool :=
  renOK h0.ow.length h0.ro.length so [] h2 && rowsOB (renOf h0.ow.length h0.ro.length so []) h 0 h2.ow && rowsRB (renOf h0.ow.length h0.ro.length so []) h 0 h2.ro && rnB (renOf h0.ow.length h0.ro.length so []) r.val v

def backTo (no : Nat) (so : List Nat) : BId → BId × Nat
  | .o m => if Nat.blt m no then (.o m, 0) else (.o (no + (idx m so).getD 0), 0)
  | .r m => (.r m, 0)

def finR (h0 h : H) (so : List Nat) (v : AV) : Res :=
  { val := reV (backTo h0.ow.length so) v, wr := (chg 0 h0.ow h.ow).map fun c => (c.1, 0, reL (backTo h0.ow.length so) c.2), kill := kil 0 h0.ow h.ow,
    newo := so.map fun m => reL (backTo h0.ow.length so) ((h.get (.o m)).getD []) }

def fin (P : Program) (fn : Func) (h0 : H) (e : Exit) (fs : Fs) (h : H) : Option Res :=
  match (match e with | .normal => true | .ret => true | _ => false) with
  | true =>
    match ress P fs h fn.results.toList with
    | none => none
    | some vs => forceV (one vs) fun v => closeN h h0.ow.length 1000 0 ((chg 0 h0.ow h.ow).foldl (fun so c => nmVs h0.ow.length c.2 so) (nmV h0.ow.length v [])) fun so =>
      forceR (finR h0 h so v) fun r => forceH (h0.app (r.eff h0)) fun h2 =>
        match finB h0 so r v h h2 with
        | true => some r
        | false => none
  | false => none

theorem fin_sound {P : Program} {fn : Func} {h0 : H} {e : Exit} {fs : Fs} {h : H} {r : Res} (hx : fin P fn h0 e fs h = some r) : FinQ P h0.ow.length h0.ro.length fn.results.toList r.val (h0.app (r.eff h0)) e fs h := by
  unfold fin at hx
  split at hx
  · rename_i he
    split at hx
    · cases hx
    · rename_i vs hvs
      rw [forceV_eq] at hx
      obtain ⟨so, hso⟩ := closeN_eq (β := Option Res) h h0.ow.length 1000 0 ((chg 0 h0.ow h.ow).foldl (fun so c => nmVs h0.ow.length c.2 so) (nmV h0.ow.length (one vs) [])) (fun so =>
        forceR (finR h0 h so (one vs)) fun r => forceH (h0.app (r.eff h0)) fun h2 =>
        match finB h0 so r (one vs) h h2 with
        | true => some r
        | false => none)
      rw [hso, forceR_eq, forceH_eq] at hx
      split at hx
      · rename_i hb
        simp only [finB, Bool.and_eq_true] at hb
        simp only [Option.some.injEq] at hx
        subst hx
        refine ⟨?_, vs, so, [], hvs, hb.1.1.1, rowsOB_sound _ _ hb.1.1.2, rowsRB_sound _ _ hb.1.2, rnB_sound _ _ _ hb.2⟩
        cases e <;> simp at he ⊢
      · cases hx
  · cases hx

/-- a function's run: by the contracts that are known, else by its body -/
def exec (P : Program) (O0 : Oracle) (F : Nat) : Nat → Oracle
  | 0 => O0
  | n + 1 => fun k args h =>
    match O0 k args h with
    | some r => some r
    | none =>
      match P.funcs[k]? with
      | none => none
      | some fn => match fn.body, fn.name != "runtime.NumGoroutine", Nat.ble args.length fn.ntmps with
        | some c, true, true => forceVs args fun args => forceH h fun h => xCode P (exec P O0 F n) fn.ntmps F c (num 0 args) h (fin P fn h)
        | _, _, _ => none

theorem exec_sound {P : Program} {O0 : Oracle} (h0 : SoundO P O0) (F : Nat) : ∀ n, SoundO P (exec P O0 F n)
  | 0 => h0
  | n + 1 => by
    intro k args h r hx
    simp only [exec] at hx
    split at hx
    · rename_i r' hr; cases hx; exact h0 k args h r hr
    · split at hx
      · cases hx
      · rename_i fn hf
        split at hx
        · rename_i c hb hn hle
          rw [forceVs_eq, forceH_eq] at hx
          exact SoundC.of hf hb hn rfl hle ((xCode_sound (exec_sound h0 F n) _ _ _ _ _ hx).mono fun e fs h he => fin_sound he)
        · cases hx

def noO : Oracle := fun _ _ _ => none
theorem noO_sound (P : Program) : SoundO P noO := fun _ _ _ _ h => by cases h

/-- says only: true -/
def saysTrue : Option Res → Bool
  | some ⟨.bool true, [], [], [], []⟩ => true
  | _ => false

theorem SoundC.true {P : Program} {O0 : Oracle} (h0 : SoundO P O0) {F n : Nat} {k : FuncId} {args : List AV} {h : H} (hx : saysTrue (exec P O0 F n k args h) = true) : SoundC P k args h { val := .bool true } := by
  unfold saysTrue at hx
  split at hx
  · rename_i heq; exact exec_sound h0 F n _ _ _ _ heq
  · cases hx
end Go.Sym
