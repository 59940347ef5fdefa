/- The operations on abstract values: what each one gives, which cells it reads, which it writes, which blocks it makes. -/
import Derived.Test.YtnkijhpikeokfaaS1
import Derived.Laws.Entries
import Derived.Laws.StructEq
import Derived.Laws.Small
set_option linter.unusedSimpArgs false
set_option linter.unusedVariables false
namespace Go.Sym
open Go

/-- what an operation does to the heap: cells read, cells of one's own written, blocks that are over, new blocks -/
structure Eff where
  rd : List (BId × Nat × Nat) := []
  wr : List (Nat × Nat × List AV) := []
  kill : List Nat := []
  newo : List (Nat × List AV) := []
  newr : List (Nat × List AV) := []

def lk (n : Nat) : List (Nat × List AV) → Option (List AV)
  | [] => none
  | (m, l) :: r => if m = n then some l else lk n r

def patch (l : List AV) (off : Nat) : List AV → List AV
  | [] => l
  | c :: cs => patch (l.set off c) (off + 1) cs

def patchAll (n : Nat) : List (Nat × Nat × List AV) → List AV → List AV
  | [], l => l
  | (m, off, cs) :: r, l => patchAll n r (if m = n then patch l off cs else l)

def Eff.app (e : Eff) (g : Gh) : Gh
  | .r n => match lk n e.newr with
    | some l => some l
    | none => g (.r n)
  | .o n => match lk n e.newo with
    | some l => some l
    | none => if e.kill.contains n then none else (g (.o n)).map (patchAll n e.wr)

def Eff.news (e : Eff) : BId → Bool
  | .r n => (lk n e.newr).isSome
  | .o n => (lk n e.newo).isSome

inductive TK where
  | int (k : IntKind)
  | bool
  | str
  | ptr (e : TypeId)
  | sl (e : TypeId)
  | arr (n : Nat) (e : TypeId)
  | st (fs : List (Nat × TypeId))
  | other

def tk (P : Program) (t : TypeId) : Option TK :=
  match P.underlying t with
  | none => none
  | some (.int k) => some (.int k)
  | some .bool => some .bool
  | some .string => some .str
  | some (.pointer e) => some (.ptr e)
  | some (.slice e) => some (.sl e)
  | some (.array n e) => some (.arr n e)
  | some (.struct fs) => some (.st (fs.toList.map fun f => (f.offset, f.type)))
  | some _ => some .other

def TK.agg : TK → Bool
  | .arr .. | .st .. => true
  | _ => false

def tsize (P : Program) (t : TypeId) : Option Nat := (P.info? t).map (·.size)
def tbytes (P : Program) (t : TypeId) : Option Nat := (P.info? t).map (·.bytes)

/-- a constant -/
def constA : Value → AV
  | .bool b => .bool b
  | .int k n => .int k n
  | .string s => .str s
  | .pointer none => .nilptr
  | .slice none 0 0 => .nilsl
  | .nilFunc => .nilfunc
  | _ => .top

theorem VR.const (ρ : Rho) (v : Value) : VR ρ (constA v) v := by
  unfold constA; split <;> simp [VR]

def tzero (P : Program) (t : TypeId) : Option (List AV) := ((P.info? t).bind (·.zero)).map fun v => v.cells.toList.map constA

theorem VRs.const (ρ : Rho) : ∀ l : List Value, VRs ρ (l.map constA) l
  | [] => .nil
  | v :: l => .cons (VR.const ρ v) (VRs.const ρ l)

/-- the cells of a value whose make is known -/
def AV.cells? : AV → Option (List AV)
  | .agg l => some l
  | .top | .tuple _ => none
  | v => some [v]

theorem VR.cells {ρ : Rho} {a : AV} {v : Value} {l : List AV} (h : VR ρ a v) (hl : a.cells? = some l) : VRs ρ l v.cells.toList := by
  cases a <;> simp only [AV.cells?, Option.some.injEq, reduceCtorEq] at hl <;> subst hl
  case agg cs =>
    simp only [VR] at h
    obtain ⟨l', rfl, h'⟩ := h
    simpa [Value.cells] using h'
  all_goals
    have h2 := h
    simp only [VR] at h2
    first
    | (subst h2; exact VRs.one h)
    | (obtain ⟨cb, _, rfl⟩ := h2; exact VRs.one h)
    | (rcases h2 with ⟨cb, x, cap, _, rfl, _⟩ | ⟨_, rfl⟩ <;> exact VRs.one h)
    | (obtain ⟨x, y, rfl, _⟩ := h2; exact VRs.one h)

/-- a part of a row of cells -/
def part? (P : Program) (t : TypeId) (l : List AV) (off : Nat) : Option AV :=
  match tk P t, tsize P t with
  | some k, some n => if k.agg then some (.agg ((l.drop off).take n)) else l[off]?
  | _, _ => none

/-- parts laid into cells, at places -/
def fillA (place : Nat → Option (Nat × Nat)) (l : List AV) : List (Nat × AV) → Option (List AV)
  | [] => some l
  | (i, v) :: r =>
    match place i, v.cells? with
    | some (off, n), some cs => if cs.length = n ∧ off + cs.length ≤ l.length then fillA place (patch l off cs) r else none
    | _, _ => none

/-- where the fields of a struct lie, and how many cells each one has -/
def places (P : Program) : List (Nat × TypeId) → Option (List (Nat × Nat))
  | [] => some []
  | (o, t) :: r =>
    match tsize P t, places P r with
    | some s, some l => some ((o, s) :: l)
    | _, _ => none

def zeros (z : List AV) (n : Nat) : List AV :=
  match z with
  | [v] => List.replicate n v
  | z => (List.range n).map fun i => z.getD (i % z.length) .top

/-- are two rows of whole numbers and bools the same? -/
def eqCells : List AV → List AV → Option Bool
  | [], [] => some true
  | .int k a :: l, .int k' b :: l' => if k = k' then (eqCells l l').map fun t => (a == b) && t else none
  | .bool a :: l, .bool b :: l' => (eqCells l l').map fun t => (a == b) && t
  | _, _ => none

def kindsOf (P : Program) : (depth : Nat) → TypeId → Option (List TK)
  | 0, _ => none
  | d + 1, t =>
    match P.underlying t, tsize P t with
    | some (.int k), some 1 => some [.int k]
    | some .bool, some 1 => some [.bool]
    | some (.array n e), some s => (kindsOf P d e).bind fun l => if s = n * l.length ∧ tsize P e = some l.length ∧ 0 < l.length then some (List.replicate n l).flatten else none
    | some (.struct fs), some s =>
      if P.stoodInHeld t then none
      else fs.toList.foldl (fun acc f => acc.bind fun l => if f.name = "_" ∨ f.offset ≠ l.length then none else (kindsOf P d f.type).bind fun l' => if tsize P f.type = some l'.length ∧ 0 < l'.length then some (l ++ l') else none) (some []) |>.bind fun l => if l.length = s then some l else none
    | _, _ => none

def fits : List TK → List AV → Bool
  | [], [] => true
  | .int k :: r, .int k' _ :: l => (k == k') && fits r l
  | .bool :: r, .bool _ :: l => fits r l
  | _, _ => false

def binA (P : Program) (op : BinOp) (t : TypeId) (x y : AV) : Option AV :=
  match op, x, y with
  | .shl, .int k a, .int _ b => if b < 0 then none else some (.int k (k.wrap (a * 2 ^ (min b.toNat k.bits))))
  | .shr, .int k a, .int _ b => if b < 0 then none else some (.int k (a.fdiv (2 ^ (min b.toNat k.bits))))
  | .add, .int k a, .int k' b => if k = k' then some (.int k (k.wrap (a + b))) else none
  | .sub, .int k a, .int k' b => if k = k' then some (.int k (k.wrap (a - b))) else none
  | .mul, .int k a, .int k' b => if k = k' then some (.int k (k.wrap (a * b))) else none
  | .quo, .int k a, .int k' b => if k = k' ∧ b ≠ 0 then some (.int k (k.wrap (a.tdiv b))) else none
  | .rem, .int k a, .int k' b => if k = k' ∧ b ≠ 0 then some (.int k (a.tmod b)) else none
  | .and, .int k a, .int k' b => if k = k' then some (.int k (k.wrap (BitVec.ofInt k.bits a &&& BitVec.ofInt k.bits b).toNat)) else none
  | .or, .int k a, .int k' b => if k = k' then some (.int k (k.wrap (BitVec.ofInt k.bits a ||| BitVec.ofInt k.bits b).toNat)) else none
  | .xor, .int k a, .int k' b => if k = k' then some (.int k (k.wrap (BitVec.ofInt k.bits a ^^^ BitVec.ofInt k.bits b).toNat)) else none
  | .eql, .int k a, .int k' b => if k = k' then some (.bool (a == b)) else none
  | .neq, .int k a, .int k' b => if k = k' then some (.bool (a != b)) else none
  | .lss, .int k a, .int k' b => if k = k' then some (.bool (decide (a < b))) else none
  | .leq, .int k a, .int k' b => if k = k' then some (.bool (decide (a ≤ b))) else none
  | .gtr, .int k a, .int k' b => if k = k' then some (.bool (decide (a > b))) else none
  | .geq, .int k a, .int k' b => if k = k' then some (.bool (decide (a ≥ b))) else none
  | .eql, .bool a, .bool b => match tk P t with | some .bool => some (.bool (a == b)) | _ => none
  | .neq, .bool a, .bool b => match tk P t with | some .bool => some (.bool (a != b)) | _ => none
  | .eql, .sl _ _ n _ _, .nilsl => match tk P t with | some (.sl _) => if n = 0 then none else some (.bool false) | _ => none
  | .neq, .sl _ _ n _ _, .nilsl => match tk P t with | some (.sl _) => if n = 0 then none else some (.bool true) | _ => none
  | .eql, .nilsl, .nilsl => match tk P t with | some (.sl _) => some (.bool true) | _ => none
  | .neq, .nilsl, .nilsl => match tk P t with | some (.sl _) => some (.bool false) | _ => none
  | .eql, .agg l, .agg l' => match tk P t, kindsOf P 20 t with
    | some k, some r => if k.agg && !P.eqGuardType P.depth t && fits r l && fits r l' then (eqCells l l').map .bool else none
    | _, _ => none
  | .neq, .agg l, .agg l' => match tk P t, kindsOf P 20 t with
    | some k, some r => if k.agg && !P.eqGuardType P.depth t && fits r l && fits r l' then (eqCells l l').map fun b => .bool (!b) else none
    | _, _ => none
  | _, _, _ => none

def unA (op : UnOp) (x : AV) : Option AV :=
  match op, x with
  | .neg, .int k n => some (.int k (k.wrap (0 - n)))
  | .not, .bool b => some (.bool (!b))
  | _, _ => none

/-- a whole number, or nothing -/
def AV.int? : AV → Option Int
  | .int _ n => some n
  | _ => none

end Go.Sym
