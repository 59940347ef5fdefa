/- Small laws on what is told of a state, and rows of whole numbers. -/
import Derived.Test.YtnkijhpikeokfaaS22
set_option linter.unusedSimpArgs false
set_option linter.unusedVariables false
namespace Go.Sym
open Go

theorem RNs.prn {σ : Ren} : ∀ {l l' : List AV}, RNs false σ l l' → PRN σ l l'
  | [], _, _ => trivial
  | a :: l, l', h => by
    simp only [RNs] at h
    obtain ⟨c, cs, rfl, h1, h2⟩ := h
    exact ⟨c, cs, rfl, h1, RNs.prn h2⟩

theorem PRN.flat {σ : Ren} {l : List AV} (h : l.all AV.flat = true) : PRN σ l l := RNs.prn (RNs.flat h)
theorem PRN.nil {σ : Ren} {l : List AV} : PRN σ [] l := trivial
theorem PRN.cons {σ : Ren} {v u : AV} {vs us : List AV} (h : RN false σ v u) (hs : PRN σ vs us) : PRN σ (v :: vs) (u :: us) := ⟨u, us, rfl, h, hs⟩

theorem RN.top {σ : Ren} {v : AV} : RN false σ .top v := by simp [RN]
theorem RN.self {σ : Ren} {v : AV} (h : v.flat = true) : RN false σ v v := RN.flat h
theorem RN.ptr {σ : Ren} {b b' : BId} {off : Nat} (h : σ b = some (b', 0)) : RN false σ (.ptr b off) (.ptr b' off) := by
  simp only [RN]; exact ⟨b', 0, h, by simp⟩
theorem RN.sl {σ : Ren} {b b' : BId} {off n z : Nat} {f : Bool} (h : σ b = some (b', 0)) : RN false σ (.sl b off n z f) (.sl b' off n z f) := by
  simp only [RN]; exact ⟨b', 0, f, h, by simp, id, fun h => by cases h⟩
theorem RN.slf {σ : Ren} {b b' : BId} {off n z : Nat} {f : Bool} (h : σ b = some (b', 0)) : RN false σ (.sl b off n z false) (.sl b' off n z f) := by
  simp only [RN]; exact ⟨b', 0, f, h, by simp, by simp, by simp⟩
theorem RN.agg {σ : Ren} {l l' : List AV} (h : RNs false σ l l') : RN false σ (.agg l) (.agg l') := by simp only [RN]; exact ⟨l', rfl, h⟩
theorem RN.tuple {σ : Ren} {l l' : List AV} (h : RNs false σ l l') : RN false σ (.tuple l) (.tuple l') := by simp only [RN]; exact ⟨l', rfl, h⟩
theorem RN.fn {σ : Ren} {k : FuncId} {a a' b b' : List AV} (h : RNs false σ a a') (h' : RNs false σ b b') : RN false σ (.func k a b) (.func k a' b') := by simp only [RN]; exact ⟨a', b', rfl, h, h'⟩
theorem RNs.nil {σ : Ren} : RNs false σ [] [] := by simp [RNs]
theorem RNs.cons {σ : Ren} {v u : AV} {vs us : List AV} (h : RN false σ v u) (hs : RNs false σ vs us) : RNs false σ (v :: vs) (u :: us) := by
  simp only [RNs]; exact ⟨u, us, rfl, h, hs⟩

theorem RowsO.nil {σ : Ren} {h : H} {m : Nat} : RowsO σ h m [] := trivial
theorem RowsO.none {σ : Ren} {h : H} {m : Nat} {r : List (Option (List AV))} (k : RowsO σ h (m + 1) r) : RowsO σ h m (.none :: r) := k
theorem RowsO.some {σ : Ren} {h : H} {m : Nat} {r : List (Option (List AV))} {b : BId} {l l' : List AV} (h1 : σ (.o m) = some (b, 0)) (h2 : h.get b = some l') (h3 : PRN σ l l') (k : RowsO σ h (m + 1) r) : RowsO σ h m (some l :: r) := ⟨⟨b, 0, l', h1, h2, h3⟩, k⟩
theorem RowsR.nil {σ : Ren} {h : H} {m : Nat} : RowsR σ h m [] := trivial
theorem RowsR.cons {σ : Ren} {h : H} {m : Nat} {r : List (List AV)} {b : BId} {l l' : List AV} (h1 : σ (.r m) = some (b, 0)) (h2 : h.get b = some l') (h3 : PRN σ l l') (k : RowsR σ h (m + 1) r) : RowsR σ h m (l :: r) := ⟨⟨b, 0, l', h1, h2, h3⟩, k⟩

theorem FW.nil {σ : Ren} {fs : Fs} : FW σ fs [] := trivial
theorem FW.cons {σ : Ren} {fs fs2 : Fs} {t : Nat} {v u : AV} (h1 : look fs t = some u) (h2 : RN false σ v u) (k : FW σ fs fs2) : FW σ fs ((t, v) :: fs2) := ⟨⟨u, h1, h2⟩, k⟩
theorem FWs.nil {fs : Fs} : FWs fs [] := trivial
theorem FWs.cons {fs fs2 : Fs} {t : Nat} {v : AV} (h1 : look fs t = some v) (k : FWs fs fs2) : FWs fs ((t, v) :: fs2) := ⟨h1, k⟩

theorem FinQ.ret {P : Program} {no nr : Nat} {rs : List ResultVar} {val : AV} {h2 : H} {fs : Fs} {h : H} {vs : List AV} (so : List Nat) (sr : List BId) (h0 : ress P fs h rs = some vs) (h1 : renOK no nr so sr h2 = true)
    (h3 : RowsO (renOf no nr so sr) h 0 h2.ow) (h4 : RowsR (renOf no nr so sr) h 0 h2.ro) (h5 : RN false (renOf no nr so sr) val (one vs)) : FinQ P no nr rs val h2 .ret fs h := ⟨.inr rfl, vs, so, sr, h0, h1, h3, h4, h5⟩
theorem FinQ.normal {P : Program} {no nr : Nat} {rs : List ResultVar} {val : AV} {h2 : H} {fs : Fs} {h : H} {vs : List AV} (so : List Nat) (sr : List BId) (h0 : ress P fs h rs = some vs) (h1 : renOK no nr so sr h2 = true)
    (h3 : RowsO (renOf no nr so sr) h 0 h2.ow) (h4 : RowsR (renOf no nr so sr) h 0 h2.ro) (h5 : RN false (renOf no nr so sr) val (one vs)) : FinQ P no nr rs val h2 .normal fs h := ⟨.inl rfl, vs, so, sr, h0, h1, h3, h4, h5⟩

/-- a row of whole numbers of 64 bits -/
def ints (l : List Int) : List AV := l.map (.int .i64)

@[simp] theorem ints_length (l : List Int) : (ints l).length = l.length := by simp [ints]
@[simp] theorem ints_flat (l : List Int) : (ints l).all AV.flat = true := by simp [ints, AV.flat]
@[simp] theorem ints_scalar (l : List Int) : (ints l).all AV.scalar = true := by simp [ints, AV.scalar]
theorem ints_get (l : List Int) (i : Nat) (h : i < l.length) : (ints l)[i]? = some (.int .i64 l[i]) := by simp [ints, h]
theorem ints_getD (l : List Int) (i : Nat) (h : i < l.length) : (ints l)[i]? = some (.int .i64 (l.getD i 0)) := by simp [ints, h]
theorem ints_append (l l' : List Int) : ints (l ++ l') = ints l ++ ints l' := by simp [ints]
theorem ints_take (l : List Int) (n : Nat) : (ints l).take n = ints (l.take n) := by simp [ints]
theorem ints_drop (l : List Int) (n : Nat) : (ints l).drop n = ints (l.drop n) := by simp [ints]
theorem ints_all (l : List Int) : ((ints l).drop 0).take (l.length * 1) = ints l := by rw [List.drop_zero, List.take_of_length_le (by simp)]

end Go.Sym
