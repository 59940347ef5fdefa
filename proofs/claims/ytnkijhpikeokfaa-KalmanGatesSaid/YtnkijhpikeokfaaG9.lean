/- The texts F31, F32, F33. -/
import Derived.Test.YtnkijhpikeokfaaG8
import Derived.Test.YtnkijhpikeokfaaG7
set_option linter.unusedSimpArgs false
set_option linter.unusedVariables false
/- What comes out of a track told on, or held against a number, is right; what isn't taken stays. -/
namespace Go.Proofs.Ytnkijhpikeokfaa
open Go Go.Sym Go.IntWalk

theorem inQ_add (a b : Int) : inQ (addQ a b) := inQ_clampQ _
theorem pre_right {n : Nat} (n0 : 0 < n) (n8 : n ≤ 8) (F x p Q : List Int) : rightT n 1 (preX F x n) n n (preP F p Q n) = true :=
  good_right n0 n8 (rightM_of (c := 1) n0 n8 (by omega) (by omega) (mulL_len _ _ _ _ _) (mulL_inQ _ _ _ _ _)) (zipM_inQ_add _ _ _ _)
theorem take_right {n : Nat} (n0 : 0 < n) (n8 : n ≤ 8) (x K hl p : List Int) (y r : Int) : rightT n 1 (takeX x K y n) n n (takeP K hl p r n) = true :=
  good_right n0 n8 (rightM_of (c := 1) n0 n8 (by omega) (by omega) (zipM_length _ _ _ _ _) (zipM_inQ_add _ _ _ _)) (zipM_inQ_add _ _ _ _)
/-- the quotients by a number, whatever they are -/
noncomputable def divD (s a : Int) : Int × Bool := by
  classical
  exact if h : clampQ s ≠ 0 then Classical.choose (div_ex a s h) else (0, false)
theorem divD_ok {s : Int} (h : clampQ s ≠ 0) (a : Int) : SoundC Try.prog 122 [.int .i64 a, .int .i64 s] ⟨[], []⟩ { val := .tuple [.int .i64 (divD s a).1, .bool (divD s a).2] } := by
  unfold divD; rw [dif_pos h]; exact (Classical.choose_spec (div_ex a s h)).2
theorem clampQ_pos {s : Int} (h : 0 < s) : clampQ s ≠ 0 := by unfold clampQ; omega

/-- a track held against a number: it stays, or it is taken, and is right then -/
theorem update_ex (n : Nat) (n0 : 0 < n) (n8 : n ≤ 8) (x p hl : List Int) (hx : x.length = n * 1) (hp : p.length = n * n) (hH : hl.length = 1 * n) (f : Bool) (z r gate : Int) (hr : 0 < r) :
    (∃ w : Bool, SoundC Try.prog 37 [.agg [.int .i64 n, .int .i64 1, .sl (.r 0) 0 x.length 1 false, .int .i64 n, .int .i64 n, .sl (.r 1) 0 p.length 1 false], .agg [.int .i64 1, .int .i64 n, .sl (.r 2) 0 hl.length 1 f], .int .i64 z, .int .i64 r, .int .i64 gate] ⟨[ints x, ints p, ints hl], []⟩ { val := .tuple [.agg [.int .i64 n, .int .i64 1, .sl (.r 0) 0 x.length 1 false, .int .i64 n, .int .i64 n, .sl (.r 1) 0 p.length 1 false], .bool false, .bool w, .int .i64 0] }) ∨
    ∃ (w : Bool) (X2 P2 : List Int), rightT n 1 X2 n n P2 = true ∧ SoundC Try.prog 37 [.agg [.int .i64 n, .int .i64 1, .sl (.r 0) 0 x.length 1 false, .int .i64 n, .int .i64 n, .sl (.r 1) 0 p.length 1 false], .agg [.int .i64 1, .int .i64 n, .sl (.r 2) 0 hl.length 1 f], .int .i64 z, .int .i64 r, .int .i64 gate] ⟨[ints x, ints p, ints hl], []⟩ { val := .tuple [.agg [.int .i64 n, .int .i64 1, .sl (.o 0) 0 X2.length 1 false, .int .i64 n, .int .i64 n, .sl (.o 1) 0 P2.length 1 false], .bool true, .bool w, .int .i64 0], newo := [ints X2, ints P2] } := by
  by_cases hs : mulQ (offY hl x n z) (offY hl x n z) > mulQ gate (offS hl p n r) ∨ (offS hl p n r) ≤ 0
  · exact .inl ⟨_, update_stay n n0 n8 x p hl hx hp hH false false f z r hr gate hs⟩
  · have hc : clampQ (offS hl p n r) ≠ 0 := clampQ_pos (by omega)
    exact .inr ⟨_, _, _, take_right n0 n8 _ _ _ _ _ _, update_take n n0 n8 x p hl hx hp hH false false f z r hr gate hs (divD (offS hl p n r)) (fun i hi => divD_ok hc _)⟩

end Go.Proofs.Ytnkijhpikeokfaa

/- What comes out is right; what isn't taken stays: the law's own function. -/
namespace Go.Proofs.Ytnkijhpikeokfaa
open Go Go.Sym Go.IntWalk

set_option maxHeartbeats 1000000 in
theorem kStays_no1 (XR XC PR PC : Int) (fr fc qr qc hR hC z r gate : Int) (x p F Q hl : List Int) (h1 : rightT XR XC x PR PC p = false) : SoundC Try.prog 12 [.agg [.int .i64 XR, .int .i64 XC, .sl (.r 0) 0 x.length 1 false, .int .i64 PR, .int .i64 PC, .sl (.r 1) 0 p.length 1 false, .int .i64 fr, .int .i64 fc, .sl (.r 2) 0 F.length 1 false, .int .i64 qr, .int .i64 qc, .sl (.r 3) 0 Q.length 1 false, .int .i64 hR, .int .i64 hC, .sl (.r 4) 0 hl.length 1 false, .int .i64 z, .int .i64 r, .int .i64 gate]] ⟨[ints x, ints p, ints F, ints Q, ints hl], []⟩ { val := .bool true } := by
  refine SoundC.of (N := 101) Try.func12 rfl rfl rfl rfl ?_
  refine AW.seq ?_
  refine AW.region (by kernel_rfl) ?_
  refine RunF.w (o_box (nm := 0) rfl rfl rfl) nH ?_
  refine RunF.q (o_assign rfl) rfl ?_
  refine AW.seq ?_
  refine AW.region (by kernel_rfl) ?_
  refine RunF.q (o_fieldAddr rfl tk66 rfl ts41 rfl) rfl ?_
  refine RunF.q (o_load_agg rfl tk41 ts41 rfl rfl rfl nL) rfl ?_
  refine RunF.w (o_alloc (nm := 1) tz41 rfl) nH ?_
  refine RunF.wn (o_store rfl rfl rfl ts41 rfl rfl) nH ?_
  refine AW.seq ?_
  refine AW.region (by kernel_rfl) ?_
  refine RunF.q (o_fieldAddr rfl tk66 rfl ts24 rfl) rfl ?_
  refine RunF.q (o_load_agg rfl tk24 ts24 rfl rfl rfl nL) rfl ?_
  refine RunF.w (o_alloc (nm := 2) tz24 rfl) nH ?_
  refine RunF.wn (o_store rfl rfl rfl ts24 rfl rfl) nH ?_
  refine AW.seq ?_
  refine AW.region (by kernel_rfl) ?_
  refine RunF.q (o_fieldAddr rfl tk66 rfl ts24 rfl) rfl ?_
  refine RunF.q (o_load_agg rfl tk24 ts24 rfl rfl rfl nL) rfl ?_
  refine RunF.w (o_alloc (nm := 3) tz24 rfl) nH ?_
  refine RunF.wn (o_store rfl rfl rfl ts24 rfl rfl) nH ?_
  refine AW.seq ?_
  refine AW.region (by kernel_rfl) ?_
  refine RunF.q (o_fieldAddr rfl tk66 rfl ts24 rfl) rfl ?_
  refine RunF.q (o_load_agg rfl tk24 ts24 rfl rfl rfl nL) rfl ?_
  refine RunF.w (o_alloc (nm := 4) tz24 rfl) nH ?_
  refine RunF.wn (o_store rfl rfl rfl ts24 rfl rfl) nH ?_
  refine AW.seq ?_
  refine AW.region (by kernel_rfl) ?_
  refine RunF.q (o_fieldAddr rfl tk66 rfl ts64 rfl) rfl ?_
  refine RunF.q (o_load_agg rfl tk64 ts64 rfl rfl rfl nL) rfl ?_
  refine RunF.w (o_alloc (nm := 5) tz64 rfl) nH ?_
  refine RunF.wn (o_store rfl rfl rfl ts64 rfl rfl) nH ?_
  refine AW.seq ?_
  refine AW.region (by kernel_rfl) ?_
  refine RunF.q (o_call (no := 6) (nr := 5) rfl rfl rfl nC (by rfl) (by exact shown05_ok) (by rfl) rfl rfl nV rfl) (by rfl) ?_
  refine RunF.q (o_assign rfl) rfl ?_
  refine AW.seq ?_
  refine AW.seq ?_
  refine AW.region (by kernel_rfl) ?_
  refine RunF.q (o_load_agg rfl tk41 ts41 rfl rfl rfl nL) rfl ?_
  refine RunF.q (o_call (no := 6) (nr := 5) rfl rfl rfl nC (by rfl) (by exact r5right_is h1) (by rfl) rfl rfl nV rfl) (by rfl) ?_
  refine RunF.q (o_not rfl) rfl ?_
  refine RunF.q (o_move rfl) rfl ?_
  refine RunF.gs (b := true) rfl rfl ?_
  refine RunF.gs (b := true) rfl rfl ?_
  refine RunF.gs (b := true) rfl rfl ?_
  refine RunF.q (o_pick_t rfl rfl) rfl ?_
  refine RunF.q (o_move rfl) rfl ?_
  refine RunF.gs (b := true) rfl rfl ?_
  refine RunF.gs (b := true) rfl rfl ?_
  refine RunF.gs (b := true) rfl rfl ?_
  refine RunF.q (o_pick_t rfl rfl) rfl ?_
  refine RunF.q (o_move rfl) rfl ?_
  refine RunF.gs (b := true) rfl rfl ?_
  refine RunF.gs (b := true) rfl rfl ?_
  refine RunF.gs (b := true) rfl rfl ?_
  refine RunF.q (o_pick_t rfl rfl) rfl ?_
  refine AW.cond rfl (fun hc0 => ?_) (fun hc0 => absurd hc0 (by simp))
  refine AW.seq ?_
  refine AW.region (by kernel_rfl) ?_
  refine RunF.q (o_move rfl) rfl ?_
  refine RunF.q (o_assign rfl) rfl ?_
  refine AW.ret ?_
  exact FinQ.ret [] [] (ress_tmp rfl ress_nil) rfl .nil (.cons rfl rfl nP (.cons rfl rfl nP (.cons rfl rfl nP (.cons rfl rfl nP (.cons rfl rfl nP .nil))))) nR

set_option maxHeartbeats 1000000 in
theorem kStays_no2 (XR XC PR PC : Int) (fr fc qr qc hR hC z r gate : Int) (x p F Q hl : List Int) (h1 : rightT XR XC x PR PC p = true) (h2 : rightM fr fc F = false) : SoundC Try.prog 12 [.agg [.int .i64 XR, .int .i64 XC, .sl (.r 0) 0 x.length 1 false, .int .i64 PR, .int .i64 PC, .sl (.r 1) 0 p.length 1 false, .int .i64 fr, .int .i64 fc, .sl (.r 2) 0 F.length 1 false, .int .i64 qr, .int .i64 qc, .sl (.r 3) 0 Q.length 1 false, .int .i64 hR, .int .i64 hC, .sl (.r 4) 0 hl.length 1 false, .int .i64 z, .int .i64 r, .int .i64 gate]] ⟨[ints x, ints p, ints F, ints Q, ints hl], []⟩ { val := .bool true } := by
  refine SoundC.of (N := 101) Try.func12 rfl rfl rfl rfl ?_
  refine AW.seq ?_
  refine AW.region (by kernel_rfl) ?_
  refine RunF.w (o_box (nm := 0) rfl rfl rfl) nH ?_
  refine RunF.q (o_assign rfl) rfl ?_
  refine AW.seq ?_
  refine AW.region (by kernel_rfl) ?_
  refine RunF.q (o_fieldAddr rfl tk66 rfl ts41 rfl) rfl ?_
  refine RunF.q (o_load_agg rfl tk41 ts41 rfl rfl rfl nL) rfl ?_
  refine RunF.w (o_alloc (nm := 1) tz41 rfl) nH ?_
  refine RunF.wn (o_store rfl rfl rfl ts41 rfl rfl) nH ?_
  refine AW.seq ?_
  refine AW.region (by kernel_rfl) ?_
  refine RunF.q (o_fieldAddr rfl tk66 rfl ts24 rfl) rfl ?_
  refine RunF.q (o_load_agg rfl tk24 ts24 rfl rfl rfl nL) rfl ?_
  refine RunF.w (o_alloc (nm := 2) tz24 rfl) nH ?_
  refine RunF.wn (o_store rfl rfl rfl ts24 rfl rfl) nH ?_
  refine AW.seq ?_
  refine AW.region (by kernel_rfl) ?_
  refine RunF.q (o_fieldAddr rfl tk66 rfl ts24 rfl) rfl ?_
  refine RunF.q (o_load_agg rfl tk24 ts24 rfl rfl rfl nL) rfl ?_
  refine RunF.w (o_alloc (nm := 3) tz24 rfl) nH ?_
  refine RunF.wn (o_store rfl rfl rfl ts24 rfl rfl) nH ?_
  refine AW.seq ?_
  refine AW.region (by kernel_rfl) ?_
  refine RunF.q (o_fieldAddr rfl tk66 rfl ts24 rfl) rfl ?_
  refine RunF.q (o_load_agg rfl tk24 ts24 rfl rfl rfl nL) rfl ?_
  refine RunF.w (o_alloc (nm := 4) tz24 rfl) nH ?_
  refine RunF.wn (o_store rfl rfl rfl ts24 rfl rfl) nH ?_
  refine AW.seq ?_
  refine AW.region (by kernel_rfl) ?_
  refine RunF.q (o_fieldAddr rfl tk66 rfl ts64 rfl) rfl ?_
  refine RunF.q (o_load_agg rfl tk64 ts64 rfl rfl rfl nL) rfl ?_
  refine RunF.w (o_alloc (nm := 5) tz64 rfl) nH ?_
  refine RunF.wn (o_store rfl rfl rfl ts64 rfl rfl) nH ?_
  refine AW.seq ?_
  refine AW.region (by kernel_rfl) ?_
  refine RunF.q (o_call (no := 6) (nr := 5) rfl rfl rfl nC (by rfl) (by exact shown05_ok) (by rfl) rfl rfl nV rfl) (by rfl) ?_
  refine RunF.q (o_assign rfl) rfl ?_
  refine AW.seq ?_
  refine AW.seq ?_
  refine AW.region (by kernel_rfl) ?_
  refine RunF.q (o_load_agg rfl tk41 ts41 rfl rfl rfl nL) rfl ?_
  refine RunF.q (o_call (no := 6) (nr := 5) rfl rfl rfl nC (by rfl) (by exact r5right_is h1) (by rfl) rfl rfl nV rfl) (by rfl) ?_
  refine RunF.q (o_not rfl) rfl ?_
  refine RunF.q (o_move rfl) rfl ?_
  refine RunF.gq rfl (o_load_agg rfl tk24 ts24 rfl rfl rfl nL) rfl ?_
  refine RunF.gq rfl (o_call (no := 6) (nr := 5) rfl rfl rfl nC (by rfl) (by exact rright_is h2) (by rfl) rfl rfl nV rfl) (by rfl) ?_
  refine RunF.gq rfl (o_not rfl) rfl ?_
  refine RunF.q (o_pick_f rfl rfl) rfl ?_
  refine RunF.q (o_move rfl) rfl ?_
  refine RunF.gs (b := true) rfl rfl ?_
  refine RunF.gs (b := true) rfl rfl ?_
  refine RunF.gs (b := true) rfl rfl ?_
  refine RunF.q (o_pick_t rfl rfl) rfl ?_
  refine RunF.q (o_move rfl) rfl ?_
  refine RunF.gs (b := true) rfl rfl ?_
  refine RunF.gs (b := true) rfl rfl ?_
  refine RunF.gs (b := true) rfl rfl ?_
  refine RunF.q (o_pick_t rfl rfl) rfl ?_
  refine AW.cond rfl (fun hc0 => ?_) (fun hc0 => absurd hc0 (by simp))
  refine AW.seq ?_
  refine AW.region (by kernel_rfl) ?_
  refine RunF.q (o_move rfl) rfl ?_
  refine RunF.q (o_assign rfl) rfl ?_
  refine AW.ret ?_
  exact FinQ.ret [] [] (ress_tmp rfl ress_nil) rfl .nil (.cons rfl rfl nP (.cons rfl rfl nP (.cons rfl rfl nP (.cons rfl rfl nP (.cons rfl rfl nP .nil))))) nR

set_option maxHeartbeats 1000000 in
theorem kStays_no3 (XR XC PR PC : Int) (fr fc qr qc hR hC z r gate : Int) (x p F Q hl : List Int) (h1 : rightT XR XC x PR PC p = true) (h2 : rightM fr fc F = true) (h3 : rightM qr qc Q = false) : SoundC Try.prog 12 [.agg [.int .i64 XR, .int .i64 XC, .sl (.r 0) 0 x.length 1 false, .int .i64 PR, .int .i64 PC, .sl (.r 1) 0 p.length 1 false, .int .i64 fr, .int .i64 fc, .sl (.r 2) 0 F.length 1 false, .int .i64 qr, .int .i64 qc, .sl (.r 3) 0 Q.length 1 false, .int .i64 hR, .int .i64 hC, .sl (.r 4) 0 hl.length 1 false, .int .i64 z, .int .i64 r, .int .i64 gate]] ⟨[ints x, ints p, ints F, ints Q, ints hl], []⟩ { val := .bool true } := by
  refine SoundC.of (N := 101) Try.func12 rfl rfl rfl rfl ?_
  refine AW.seq ?_
  refine AW.region (by kernel_rfl) ?_
  refine RunF.w (o_box (nm := 0) rfl rfl rfl) nH ?_
  refine RunF.q (o_assign rfl) rfl ?_
  refine AW.seq ?_
  refine AW.region (by kernel_rfl) ?_
  refine RunF.q (o_fieldAddr rfl tk66 rfl ts41 rfl) rfl ?_
  refine RunF.q (o_load_agg rfl tk41 ts41 rfl rfl rfl nL) rfl ?_
  refine RunF.w (o_alloc (nm := 1) tz41 rfl) nH ?_
  refine RunF.wn (o_store rfl rfl rfl ts41 rfl rfl) nH ?_
  refine AW.seq ?_
  refine AW.region (by kernel_rfl) ?_
  refine RunF.q (o_fieldAddr rfl tk66 rfl ts24 rfl) rfl ?_
  refine RunF.q (o_load_agg rfl tk24 ts24 rfl rfl rfl nL) rfl ?_
  refine RunF.w (o_alloc (nm := 2) tz24 rfl) nH ?_
  refine RunF.wn (o_store rfl rfl rfl ts24 rfl rfl) nH ?_
  refine AW.seq ?_
  refine AW.region (by kernel_rfl) ?_
  refine RunF.q (o_fieldAddr rfl tk66 rfl ts24 rfl) rfl ?_
  refine RunF.q (o_load_agg rfl tk24 ts24 rfl rfl rfl nL) rfl ?_
  refine RunF.w (o_alloc (nm := 3) tz24 rfl) nH ?_
  refine RunF.wn (o_store rfl rfl rfl ts24 rfl rfl) nH ?_
  refine AW.seq ?_
  refine AW.region (by kernel_rfl) ?_
  refine RunF.q (o_fieldAddr rfl tk66 rfl ts24 rfl) rfl ?_
  refine RunF.q (o_load_agg rfl tk24 ts24 rfl rfl rfl nL) rfl ?_
  refine RunF.w (o_alloc (nm := 4) tz24 rfl) nH ?_
  refine RunF.wn (o_store rfl rfl rfl ts24 rfl rfl) nH ?_
  refine AW.seq ?_
  refine AW.region (by kernel_rfl) ?_
  refine RunF.q (o_fieldAddr rfl tk66 rfl ts64 rfl) rfl ?_
  refine RunF.q (o_load_agg rfl tk64 ts64 rfl rfl rfl nL) rfl ?_
  refine RunF.w (o_alloc (nm := 5) tz64 rfl) nH ?_
  refine RunF.wn (o_store rfl rfl rfl ts64 rfl rfl) nH ?_
  refine AW.seq ?_
  refine AW.region (by kernel_rfl) ?_
  refine RunF.q (o_call (no := 6) (nr := 5) rfl rfl rfl nC (by rfl) (by exact shown05_ok) (by rfl) rfl rfl nV rfl) (by rfl) ?_
  refine RunF.q (o_assign rfl) rfl ?_
  refine AW.seq ?_
  refine AW.seq ?_
  refine AW.region (by kernel_rfl) ?_
  refine RunF.q (o_load_agg rfl tk41 ts41 rfl rfl rfl nL) rfl ?_
  refine RunF.q (o_call (no := 6) (nr := 5) rfl rfl rfl nC (by rfl) (by exact r5right_is h1) (by rfl) rfl rfl nV rfl) (by rfl) ?_
  refine RunF.q (o_not rfl) rfl ?_
  refine RunF.q (o_move rfl) rfl ?_
  refine RunF.gq rfl (o_load_agg rfl tk24 ts24 rfl rfl rfl nL) rfl ?_
  refine RunF.gq rfl (o_call (no := 6) (nr := 5) rfl rfl rfl nC (by rfl) (by exact rright_is h2) (by rfl) rfl rfl nV rfl) (by rfl) ?_
  refine RunF.gq rfl (o_not rfl) rfl ?_
  refine RunF.q (o_pick_f rfl rfl) rfl ?_
  refine RunF.q (o_move rfl) rfl ?_
  refine RunF.gq rfl (o_load_agg rfl tk24 ts24 rfl rfl rfl nL) rfl ?_
  refine RunF.gq rfl (o_call (no := 6) (nr := 5) rfl rfl rfl nC (by rfl) (by exact rright_is h3) (by rfl) rfl rfl nV rfl) (by rfl) ?_
  refine RunF.gq rfl (o_not rfl) rfl ?_
  refine RunF.q (o_pick_f rfl rfl) rfl ?_
  refine RunF.q (o_move rfl) rfl ?_
  refine RunF.gs (b := true) rfl rfl ?_
  refine RunF.gs (b := true) rfl rfl ?_
  refine RunF.gs (b := true) rfl rfl ?_
  refine RunF.q (o_pick_t rfl rfl) rfl ?_
  refine AW.cond rfl (fun hc0 => ?_) (fun hc0 => absurd hc0 (by simp))
  refine AW.seq ?_
  refine AW.region (by kernel_rfl) ?_
  refine RunF.q (o_move rfl) rfl ?_
  refine RunF.q (o_assign rfl) rfl ?_
  refine AW.ret ?_
  exact FinQ.ret [] [] (ress_tmp rfl ress_nil) rfl .nil (.cons rfl rfl nP (.cons rfl rfl nP (.cons rfl rfl nP (.cons rfl rfl nP (.cons rfl rfl nP .nil))))) nR

set_option maxHeartbeats 1000000 in
theorem kStays_no4 (XR XC PR PC : Int) (fr fc qr qc hR hC z r gate : Int) (x p F Q hl : List Int) (h1 : rightT XR XC x PR PC p = true) (h2 : rightM fr fc F = true) (h3 : rightM qr qc Q = true) (h4 : rightM hR hC hl = false) : SoundC Try.prog 12 [.agg [.int .i64 XR, .int .i64 XC, .sl (.r 0) 0 x.length 1 false, .int .i64 PR, .int .i64 PC, .sl (.r 1) 0 p.length 1 false, .int .i64 fr, .int .i64 fc, .sl (.r 2) 0 F.length 1 false, .int .i64 qr, .int .i64 qc, .sl (.r 3) 0 Q.length 1 false, .int .i64 hR, .int .i64 hC, .sl (.r 4) 0 hl.length 1 false, .int .i64 z, .int .i64 r, .int .i64 gate]] ⟨[ints x, ints p, ints F, ints Q, ints hl], []⟩ { val := .bool true } := by
  refine SoundC.of (N := 101) Try.func12 rfl rfl rfl rfl ?_
  refine AW.seq ?_
  refine AW.region (by kernel_rfl) ?_
  refine RunF.w (o_box (nm := 0) rfl rfl rfl) nH ?_
  refine RunF.q (o_assign rfl) rfl ?_
  refine AW.seq ?_
  refine AW.region (by kernel_rfl) ?_
  refine RunF.q (o_fieldAddr rfl tk66 rfl ts41 rfl) rfl ?_
  refine RunF.q (o_load_agg rfl tk41 ts41 rfl rfl rfl nL) rfl ?_
  refine RunF.w (o_alloc (nm := 1) tz41 rfl) nH ?_
  refine RunF.wn (o_store rfl rfl rfl ts41 rfl rfl) nH ?_
  refine AW.seq ?_
  refine AW.region (by kernel_rfl) ?_
  refine RunF.q (o_fieldAddr rfl tk66 rfl ts24 rfl) rfl ?_
  refine RunF.q (o_load_agg rfl tk24 ts24 rfl rfl rfl nL) rfl ?_
  refine RunF.w (o_alloc (nm := 2) tz24 rfl) nH ?_
  refine RunF.wn (o_store rfl rfl rfl ts24 rfl rfl) nH ?_
  refine AW.seq ?_
  refine AW.region (by kernel_rfl) ?_
  refine RunF.q (o_fieldAddr rfl tk66 rfl ts24 rfl) rfl ?_
  refine RunF.q (o_load_agg rfl tk24 ts24 rfl rfl rfl nL) rfl ?_
  refine RunF.w (o_alloc (nm := 3) tz24 rfl) nH ?_
  refine RunF.wn (o_store rfl rfl rfl ts24 rfl rfl) nH ?_
  refine AW.seq ?_
  refine AW.region (by kernel_rfl) ?_
  refine RunF.q (o_fieldAddr rfl tk66 rfl ts24 rfl) rfl ?_
  refine RunF.q (o_load_agg rfl tk24 ts24 rfl rfl rfl nL) rfl ?_
  refine RunF.w (o_alloc (nm := 4) tz24 rfl) nH ?_
  refine RunF.wn (o_store rfl rfl rfl ts24 rfl rfl) nH ?_
  refine AW.seq ?_
  refine AW.region (by kernel_rfl) ?_
  refine RunF.q (o_fieldAddr rfl tk66 rfl ts64 rfl) rfl ?_
  refine RunF.q (o_load_agg rfl tk64 ts64 rfl rfl rfl nL) rfl ?_
  refine RunF.w (o_alloc (nm := 5) tz64 rfl) nH ?_
  refine RunF.wn (o_store rfl rfl rfl ts64 rfl rfl) nH ?_
  refine AW.seq ?_
  refine AW.region (by kernel_rfl) ?_
  refine RunF.q (o_call (no := 6) (nr := 5) rfl rfl rfl nC (by rfl) (by exact shown05_ok) (by rfl) rfl rfl nV rfl) (by rfl) ?_
  refine RunF.q (o_assign rfl) rfl ?_
  refine AW.seq ?_
  refine AW.seq ?_
  refine AW.region (by kernel_rfl) ?_
  refine RunF.q (o_load_agg rfl tk41 ts41 rfl rfl rfl nL) rfl ?_
  refine RunF.q (o_call (no := 6) (nr := 5) rfl rfl rfl nC (by rfl) (by exact r5right_is h1) (by rfl) rfl rfl nV rfl) (by rfl) ?_
  refine RunF.q (o_not rfl) rfl ?_
  refine RunF.q (o_move rfl) rfl ?_
  refine RunF.gq rfl (o_load_agg rfl tk24 ts24 rfl rfl rfl nL) rfl ?_
  refine RunF.gq rfl (o_call (no := 6) (nr := 5) rfl rfl rfl nC (by rfl) (by exact rright_is h2) (by rfl) rfl rfl nV rfl) (by rfl) ?_
  refine RunF.gq rfl (o_not rfl) rfl ?_
  refine RunF.q (o_pick_f rfl rfl) rfl ?_
  refine RunF.q (o_move rfl) rfl ?_
  refine RunF.gq rfl (o_load_agg rfl tk24 ts24 rfl rfl rfl nL) rfl ?_
  refine RunF.gq rfl (o_call (no := 6) (nr := 5) rfl rfl rfl nC (by rfl) (by exact rright_is h3) (by rfl) rfl rfl nV rfl) (by rfl) ?_
  refine RunF.gq rfl (o_not rfl) rfl ?_
  refine RunF.q (o_pick_f rfl rfl) rfl ?_
  refine RunF.q (o_move rfl) rfl ?_
  refine RunF.gq rfl (o_load_agg rfl tk24 ts24 rfl rfl rfl nL) rfl ?_
  refine RunF.gq rfl (o_call (no := 6) (nr := 5) rfl rfl rfl nC (by rfl) (by exact rright_is h4) (by rfl) rfl rfl nV rfl) (by rfl) ?_
  refine RunF.gq rfl (o_not rfl) rfl ?_
  refine RunF.q (o_pick_f rfl rfl) rfl ?_
  refine AW.cond rfl (fun hc0 => ?_) (fun hc0 => absurd hc0 (by simp))
  refine AW.seq ?_
  refine AW.region (by kernel_rfl) ?_
  refine RunF.q (o_move rfl) rfl ?_
  refine RunF.q (o_assign rfl) rfl ?_
  refine AW.ret ?_
  exact FinQ.ret [] [] (ress_tmp rfl ress_nil) rfl .nil (.cons rfl rfl nP (.cons rfl rfl nP (.cons rfl rfl nP (.cons rfl rfl nP (.cons rfl rfl nP .nil))))) nR

set_option maxHeartbeats 1000000 in
theorem kStays_nn (n : Nat) (n0 : 0 < n) (n8 : n ≤ 8) (fr fc qr qc hR hC z r gate : Int) (x p F Q hl : List Int) (hx : x.length = n * 1) (hp : p.length = n * n) (hr : rightT n 1 x n n p = true) (h2 : rightM fr fc F = true) (h3 : rightM qr qc Q = true) (h4 : rightM hR hC hl = true) (hpr : SoundC Try.prog 47 [.agg [.int .i64 n, .int .i64 1, .sl (.r 0) 0 x.length 1 false, .int .i64 n, .int .i64 n, .sl (.r 1) 0 p.length 1 false], .agg [.int .i64 fr, .int .i64 fc, .sl (.r 2) 0 F.length 1 false], .agg [.int .i64 qr, .int .i64 qc, .sl (.r 3) 0 Q.length 1 false]] ⟨[ints x, ints p, ints F, ints Q], []⟩ { val := .tuple [.agg [.int .i64 0, .int .i64 0, .nilsl, .int .i64 0, .int .i64 0, .nilsl], .bool false, .int .i64 9] }) (e : Int) (he : e ≠ 0) (hup : SoundC Try.prog 37 [.agg [.int .i64 n, .int .i64 1, .sl (.r 0) 0 x.length 1 false, .int .i64 n, .int .i64 n, .sl (.r 1) 0 p.length 1 false], .agg [.int .i64 hR, .int .i64 hC, .sl (.r 2) 0 hl.length 1 false], .int .i64 z, .int .i64 r, .int .i64 gate] ⟨[ints x, ints p, ints hl], []⟩ { val := .tuple [.agg [.int .i64 0, .int .i64 0, .nilsl, .int .i64 0, .int .i64 0, .nilsl], .bool false, .bool false, .int .i64 e] }) : SoundC Try.prog 12 [.agg [.int .i64 n, .int .i64 1, .sl (.r 0) 0 x.length 1 false, .int .i64 n, .int .i64 n, .sl (.r 1) 0 p.length 1 false, .int .i64 fr, .int .i64 fc, .sl (.r 2) 0 F.length 1 false, .int .i64 qr, .int .i64 qc, .sl (.r 3) 0 Q.length 1 false, .int .i64 hR, .int .i64 hC, .sl (.r 4) 0 hl.length 1 false, .int .i64 z, .int .i64 r, .int .i64 gate]] ⟨[ints x, ints p, ints F, ints Q, ints hl], []⟩ { val := .bool true } := by
  have hsm := small_mul n8 n8
  refine SoundC.of (N := 101) Try.func12 rfl rfl rfl rfl ?_
  refine AW.seq ?_
  refine AW.region (by kernel_rfl) ?_
  refine RunF.w (o_box (nm := 0) rfl rfl rfl) nH2 ?_
  refine RunF.q (o_assign rfl) rfl ?_
  refine AW.seq ?_
  refine AW.region (by kernel_rfl) ?_
  refine RunF.q (o_fieldAddr rfl tk66 rfl ts41 rfl) rfl ?_
  refine RunF.q (o_load_agg rfl tk41 ts41 rfl rfl rfl nL) rfl ?_
  refine RunF.w (o_alloc (nm := 1) tz41 rfl) nH2 ?_
  refine RunF.wn (o_store rfl rfl rfl ts41 rfl rfl) nH2 ?_
  refine AW.seq ?_
  refine AW.region (by kernel_rfl) ?_
  refine RunF.q (o_fieldAddr rfl tk66 rfl ts24 rfl) rfl ?_
  refine RunF.q (o_load_agg rfl tk24 ts24 rfl rfl rfl nL) rfl ?_
  refine RunF.w (o_alloc (nm := 2) tz24 rfl) nH2 ?_
  refine RunF.wn (o_store rfl rfl rfl ts24 rfl rfl) nH2 ?_
  refine AW.seq ?_
  refine AW.region (by kernel_rfl) ?_
  refine RunF.q (o_fieldAddr rfl tk66 rfl ts24 rfl) rfl ?_
  refine RunF.q (o_load_agg rfl tk24 ts24 rfl rfl rfl nL) rfl ?_
  refine RunF.w (o_alloc (nm := 3) tz24 rfl) nH2 ?_
  refine RunF.wn (o_store rfl rfl rfl ts24 rfl rfl) nH2 ?_
  refine AW.seq ?_
  refine AW.region (by kernel_rfl) ?_
  refine RunF.q (o_fieldAddr rfl tk66 rfl ts24 rfl) rfl ?_
  refine RunF.q (o_load_agg rfl tk24 ts24 rfl rfl rfl nL) rfl ?_
  refine RunF.w (o_alloc (nm := 4) tz24 rfl) nH2 ?_
  refine RunF.wn (o_store rfl rfl rfl ts24 rfl rfl) nH2 ?_
  refine AW.seq ?_
  refine AW.region (by kernel_rfl) ?_
  refine RunF.q (o_fieldAddr rfl tk66 rfl ts64 rfl) rfl ?_
  refine RunF.q (o_load_agg rfl tk64 ts64 rfl rfl rfl nL) rfl ?_
  refine RunF.w (o_alloc (nm := 5) tz64 rfl) nH2 ?_
  refine RunF.wn (o_store rfl rfl rfl ts64 rfl rfl) nH2 ?_
  refine AW.seq ?_
  refine AW.region (by kernel_rfl) ?_
  refine RunF.q (o_call (no := 6) (nr := 5) rfl rfl rfl nC (by rfl) (by exact shown05_ok) (by rfl) rfl rfl nV rfl) (by rfl) ?_
  refine RunF.q (o_assign rfl) rfl ?_
  refine AW.seq ?_
  refine AW.seq ?_
  refine AW.region (by kernel_rfl) ?_
  refine RunF.q (o_load_agg rfl tk41 ts41 rfl rfl rfl nL) rfl ?_
  refine RunF.q (o_call (no := 6) (nr := 5) rfl rfl rfl nC (by rfl) (by exact r5right_is hr) (by rfl) rfl rfl nV rfl) (by rfl) ?_
  refine RunF.q (o_not rfl) rfl ?_
  refine RunF.q (o_move rfl) rfl ?_
  refine RunF.gq rfl (o_load_agg rfl tk24 ts24 rfl rfl rfl nL) rfl ?_
  refine RunF.gq rfl (o_call (no := 6) (nr := 5) rfl rfl rfl nC (by rfl) (by exact rright_is h2) (by rfl) rfl rfl nV rfl) (by rfl) ?_
  refine RunF.gq rfl (o_not rfl) rfl ?_
  refine RunF.q (o_pick_f rfl rfl) rfl ?_
  refine RunF.q (o_move rfl) rfl ?_
  refine RunF.gq rfl (o_load_agg rfl tk24 ts24 rfl rfl rfl nL) rfl ?_
  refine RunF.gq rfl (o_call (no := 6) (nr := 5) rfl rfl rfl nC (by rfl) (by exact rright_is h3) (by rfl) rfl rfl nV rfl) (by rfl) ?_
  refine RunF.gq rfl (o_not rfl) rfl ?_
  refine RunF.q (o_pick_f rfl rfl) rfl ?_
  refine RunF.q (o_move rfl) rfl ?_
  refine RunF.gq rfl (o_load_agg rfl tk24 ts24 rfl rfl rfl nL) rfl ?_
  refine RunF.gq rfl (o_call (no := 6) (nr := 5) rfl rfl rfl nC (by rfl) (by exact rright_is h4) (by rfl) rfl rfl nV rfl) (by rfl) ?_
  refine RunF.gq rfl (o_not rfl) rfl ?_
  refine RunF.q (o_pick_f rfl rfl) rfl ?_
  refine AW.cond rfl (fun hc0 => absurd hc0 (by simp)) (fun hc0 => ?_)
  refine AW.skip ?_
  refine AW.seq ?_
  refine AW.region (by kernel_rfl) ?_
  refine RunF.q (o_load_agg rfl tk41 ts41 rfl rfl rfl nL) rfl ?_
  refine RunF.q (o_load_agg rfl tk24 ts24 rfl rfl rfl nL) rfl ?_
  refine RunF.q (o_load_agg rfl tk24 ts24 rfl rfl rfl nL) rfl ?_
  refine RunF.q (o_call (no := 6) (nr := 5) rfl rfl rfl nC (by rfl) (by exact hpr) (by rfl) rfl rfl nV rfl) (by rfl) ?_
  refine RunF.q (o_move rfl) rfl ?_
  refine RunF.q (o_extract rfl rfl) rfl ?_
  refine RunF.q (o_extract rfl rfl) rfl ?_
  refine RunF.q (o_extract rfl rfl) rfl ?_
  refine RunF.w (o_alloc (nm := 6) tz41 rfl) nH2 ?_
  refine RunF.wn (o_store rfl rfl rfl ts41 rfl rfl) nH2 ?_
  refine RunF.q (o_assign rfl) rfl ?_
  refine RunF.q (o_assign rfl) rfl ?_
  refine AW.seq ?_
  refine AW.region (by kernel_rfl) ?_
  refine RunF.q (o_load_agg rfl tk41 ts41 rfl rfl rfl nL) rfl ?_
  refine RunF.q (o_load_agg rfl tk24 ts24 rfl rfl rfl nL) rfl ?_
  refine RunF.q (o_indexAddr_arr tk64 ts30 rfl rfl (by first | decide | (constructor <;> omega)) rfl) rfl ?_
  refine RunF.q (o_load rfl tk30 ts30 rfl rfl rfl) rfl ?_
  refine RunF.q (o_indexAddr_arr tk64 ts30 rfl rfl (by first | decide | (constructor <;> omega)) rfl) rfl ?_
  refine RunF.q (o_load rfl tk30 ts30 rfl rfl rfl) rfl ?_
  refine RunF.q (o_indexAddr_arr tk64 ts30 rfl rfl (by first | decide | (constructor <;> omega)) rfl) rfl ?_
  refine RunF.q (o_load rfl tk30 ts30 rfl rfl rfl) rfl ?_
  refine RunF.q (o_call (no := 7) (nr := 5) rfl rfl rfl nC (by rfl) (by exact hup) (by rfl) rfl rfl nV rfl) (by rfl) ?_
  refine RunF.q (o_move rfl) rfl ?_
  refine RunF.q (o_extract rfl rfl) rfl ?_
  refine RunF.q (o_extract rfl rfl) rfl ?_
  refine RunF.q (o_extract rfl rfl) rfl ?_
  refine RunF.q (o_extract rfl rfl) rfl ?_
  refine RunF.w (o_alloc (nm := 7) tz41 rfl) nH2 ?_
  refine RunF.wn (o_store rfl rfl rfl ts41 rfl rfl) nH2 ?_
  refine RunF.q (o_assign rfl) rfl ?_
  refine RunF.q (o_assign rfl) rfl ?_
  refine RunF.q (o_assign rfl) rfl ?_
  refine AW.seq ?_
  refine AW.seq ?_
  refine AW.region (by kernel_rfl) ?_
  refine RunF.q (o_move rfl) rfl ?_
  refine RunF.q (o_eql rfl rfl) rfl ?_
  refine RunF.q (o_move rfl) rfl ?_
  refine RunF.gs (b := false) rfl rfl ?_
  refine RunF.gs (b := false) rfl rfl ?_
  refine RunF.gs (b := false) rfl rfl ?_
  refine RunF.q (o_pick_f rfl rfl) rfl ?_
  refine RunF.q (o_move rfl) rfl ?_
  refine RunF.gq rfl (o_move rfl) rfl ?_
  refine RunF.gq rfl (o_bin (v := .bool false) rfl rfl (by simp only [binA, if_true]; rw [beq_eq_false_iff_ne.mpr he])) rfl ?_
  refine RunF.gq rfl (o_move rfl) rfl ?_
  refine RunF.gs (b := false) rfl rfl ?_
  refine RunF.gs (b := false) rfl rfl ?_
  refine RunF.gs (b := false) rfl rfl ?_
  refine RunF.gq rfl (o_pick_f rfl rfl) rfl ?_
  refine RunF.q (o_pick_f rfl rfl) rfl ?_
  refine AW.cond rfl (fun hc1 => absurd hc1 (by simp)) (fun hc1 => ?_)
  refine AW.skip ?_
  refine AW.seq ?_
  refine AW.region (by kernel_rfl) ?_
  refine RunF.q (o_move rfl) rfl ?_
  refine RunF.q (o_move rfl) rfl ?_
  refine RunF.gq rfl (o_move rfl) rfl ?_
  refine RunF.gq rfl (o_bin (v := .bool true) rfl rfl (by simp only [binA, if_true]; rw [bne_iff_ne.mpr he])) rfl ?_
  refine RunF.gq rfl (o_move rfl) rfl ?_
  refine RunF.gs (b := true) rfl rfl ?_
  refine RunF.gq rfl (o_pick_t rfl rfl) rfl ?_
  refine RunF.gq rfl (o_move rfl) rfl ?_
  refine RunF.gs (b := true) rfl rfl ?_
  refine RunF.gs (b := true) rfl rfl ?_
  refine RunF.gs (b := true) rfl rfl ?_
  refine RunF.gq rfl (o_pick_t rfl rfl) rfl ?_
  refine RunF.q (o_pick_t rfl rfl) rfl ?_
  refine RunF.q (o_move rfl) rfl ?_
  refine RunF.gq rfl (o_load_agg rfl tk41 ts41 rfl rfl rfl nL) rfl ?_
  refine RunF.gq rfl (o_call (no := 8) (nr := 5) rfl rfl rfl nC (by rfl) (by exact kright_is hr) (by rfl) rfl rfl nV rfl) (by rfl) ?_
  refine RunF.q (o_pick_t rfl rfl) rfl ?_
  refine RunF.q (o_assign rfl) rfl ?_
  refine AW.ret ?_
  exact FinQ.ret [] [] (ress_tmp rfl ress_nil) rfl .nil (.cons rfl rfl nP (.cons rfl rfl nP (.cons rfl rfl nP (.cons rfl rfl nP (.cons rfl rfl nP .nil))))) nR

set_option maxHeartbeats 1000000 in
theorem kStays_ns (n : Nat) (n0 : 0 < n) (n8 : n ≤ 8) (fr fc qr qc hR hC z r gate : Int) (x p F Q hl : List Int) (hx : x.length = n * 1) (hp : p.length = n * n) (hr : rightT n 1 x n n p = true) (h2 : rightM fr fc F = true) (h3 : rightM qr qc Q = true) (h4 : rightM hR hC hl = true) (hpr : SoundC Try.prog 47 [.agg [.int .i64 n, .int .i64 1, .sl (.r 0) 0 x.length 1 false, .int .i64 n, .int .i64 n, .sl (.r 1) 0 p.length 1 false], .agg [.int .i64 fr, .int .i64 fc, .sl (.r 2) 0 F.length 1 false], .agg [.int .i64 qr, .int .i64 qc, .sl (.r 3) 0 Q.length 1 false]] ⟨[ints x, ints p, ints F, ints Q], []⟩ { val := .tuple [.agg [.int .i64 0, .int .i64 0, .nilsl, .int .i64 0, .int .i64 0, .nilsl], .bool false, .int .i64 9] }) (w2 : Bool) (hup : SoundC Try.prog 37 [.agg [.int .i64 n, .int .i64 1, .sl (.r 0) 0 x.length 1 false, .int .i64 n, .int .i64 n, .sl (.r 1) 0 p.length 1 false], .agg [.int .i64 hR, .int .i64 hC, .sl (.r 2) 0 hl.length 1 false], .int .i64 z, .int .i64 r, .int .i64 gate] ⟨[ints x, ints p, ints hl], []⟩ { val := .tuple [.agg [.int .i64 n, .int .i64 1, .sl (.r 0) 0 x.length 1 false, .int .i64 n, .int .i64 n, .sl (.r 1) 0 p.length 1 false], .bool false, .bool w2, .int .i64 0] }) : SoundC Try.prog 12 [.agg [.int .i64 n, .int .i64 1, .sl (.r 0) 0 x.length 1 false, .int .i64 n, .int .i64 n, .sl (.r 1) 0 p.length 1 false, .int .i64 fr, .int .i64 fc, .sl (.r 2) 0 F.length 1 false, .int .i64 qr, .int .i64 qc, .sl (.r 3) 0 Q.length 1 false, .int .i64 hR, .int .i64 hC, .sl (.r 4) 0 hl.length 1 false, .int .i64 z, .int .i64 r, .int .i64 gate]] ⟨[ints x, ints p, ints F, ints Q, ints hl], []⟩ { val := .bool true } := by
  have hsm := small_mul n8 n8
  refine SoundC.of (N := 101) Try.func12 rfl rfl rfl rfl ?_
  refine AW.seq ?_
  refine AW.region (by kernel_rfl) ?_
  refine RunF.w (o_box (nm := 0) rfl rfl rfl) nH2 ?_
  refine RunF.q (o_assign rfl) rfl ?_
  refine AW.seq ?_
  refine AW.region (by kernel_rfl) ?_
  refine RunF.q (o_fieldAddr rfl tk66 rfl ts41 rfl) rfl ?_
  refine RunF.q (o_load_agg rfl tk41 ts41 rfl rfl rfl nL) rfl ?_
  refine RunF.w (o_alloc (nm := 1) tz41 rfl) nH2 ?_
  refine RunF.wn (o_store rfl rfl rfl ts41 rfl rfl) nH2 ?_
  refine AW.seq ?_
  refine AW.region (by kernel_rfl) ?_
  refine RunF.q (o_fieldAddr rfl tk66 rfl ts24 rfl) rfl ?_
  refine RunF.q (o_load_agg rfl tk24 ts24 rfl rfl rfl nL) rfl ?_
  refine RunF.w (o_alloc (nm := 2) tz24 rfl) nH2 ?_
  refine RunF.wn (o_store rfl rfl rfl ts24 rfl rfl) nH2 ?_
  refine AW.seq ?_
  refine AW.region (by kernel_rfl) ?_
  refine RunF.q (o_fieldAddr rfl tk66 rfl ts24 rfl) rfl ?_
  refine RunF.q (o_load_agg rfl tk24 ts24 rfl rfl rfl nL) rfl ?_
  refine RunF.w (o_alloc (nm := 3) tz24 rfl) nH2 ?_
  refine RunF.wn (o_store rfl rfl rfl ts24 rfl rfl) nH2 ?_
  refine AW.seq ?_
  refine AW.region (by kernel_rfl) ?_
  refine RunF.q (o_fieldAddr rfl tk66 rfl ts24 rfl) rfl ?_
  refine RunF.q (o_load_agg rfl tk24 ts24 rfl rfl rfl nL) rfl ?_
  refine RunF.w (o_alloc (nm := 4) tz24 rfl) nH2 ?_
  refine RunF.wn (o_store rfl rfl rfl ts24 rfl rfl) nH2 ?_
  refine AW.seq ?_
  refine AW.region (by kernel_rfl) ?_
  refine RunF.q (o_fieldAddr rfl tk66 rfl ts64 rfl) rfl ?_
  refine RunF.q (o_load_agg rfl tk64 ts64 rfl rfl rfl nL) rfl ?_
  refine RunF.w (o_alloc (nm := 5) tz64 rfl) nH2 ?_
  refine RunF.wn (o_store rfl rfl rfl ts64 rfl rfl) nH2 ?_
  refine AW.seq ?_
  refine AW.region (by kernel_rfl) ?_
  refine RunF.q (o_call (no := 6) (nr := 5) rfl rfl rfl nC (by rfl) (by exact shown05_ok) (by rfl) rfl rfl nV rfl) (by rfl) ?_
  refine RunF.q (o_assign rfl) rfl ?_
  refine AW.seq ?_
  refine AW.seq ?_
  refine AW.region (by kernel_rfl) ?_
  refine RunF.q (o_load_agg rfl tk41 ts41 rfl rfl rfl nL) rfl ?_
  refine RunF.q (o_call (no := 6) (nr := 5) rfl rfl rfl nC (by rfl) (by exact r5right_is hr) (by rfl) rfl rfl nV rfl) (by rfl) ?_
  refine RunF.q (o_not rfl) rfl ?_
  refine RunF.q (o_move rfl) rfl ?_
  refine RunF.gq rfl (o_load_agg rfl tk24 ts24 rfl rfl rfl nL) rfl ?_
  refine RunF.gq rfl (o_call (no := 6) (nr := 5) rfl rfl rfl nC (by rfl) (by exact rright_is h2) (by rfl) rfl rfl nV rfl) (by rfl) ?_
  refine RunF.gq rfl (o_not rfl) rfl ?_
  refine RunF.q (o_pick_f rfl rfl) rfl ?_
  refine RunF.q (o_move rfl) rfl ?_
  refine RunF.gq rfl (o_load_agg rfl tk24 ts24 rfl rfl rfl nL) rfl ?_
  refine RunF.gq rfl (o_call (no := 6) (nr := 5) rfl rfl rfl nC (by rfl) (by exact rright_is h3) (by rfl) rfl rfl nV rfl) (by rfl) ?_
  refine RunF.gq rfl (o_not rfl) rfl ?_
  refine RunF.q (o_pick_f rfl rfl) rfl ?_
  refine RunF.q (o_move rfl) rfl ?_
  refine RunF.gq rfl (o_load_agg rfl tk24 ts24 rfl rfl rfl nL) rfl ?_
  refine RunF.gq rfl (o_call (no := 6) (nr := 5) rfl rfl rfl nC (by rfl) (by exact rright_is h4) (by rfl) rfl rfl nV rfl) (by rfl) ?_
  refine RunF.gq rfl (o_not rfl) rfl ?_
  refine RunF.q (o_pick_f rfl rfl) rfl ?_
  refine AW.cond rfl (fun hc0 => absurd hc0 (by simp)) (fun hc0 => ?_)
  refine AW.skip ?_
  refine AW.seq ?_
  refine AW.region (by kernel_rfl) ?_
  refine RunF.q (o_load_agg rfl tk41 ts41 rfl rfl rfl nL) rfl ?_
  refine RunF.q (o_load_agg rfl tk24 ts24 rfl rfl rfl nL) rfl ?_
  refine RunF.q (o_load_agg rfl tk24 ts24 rfl rfl rfl nL) rfl ?_
  refine RunF.q (o_call (no := 6) (nr := 5) rfl rfl rfl nC (by rfl) (by exact hpr) (by rfl) rfl rfl nV rfl) (by rfl) ?_
  refine RunF.q (o_move rfl) rfl ?_
  refine RunF.q (o_extract rfl rfl) rfl ?_
  refine RunF.q (o_extract rfl rfl) rfl ?_
  refine RunF.q (o_extract rfl rfl) rfl ?_
  refine RunF.w (o_alloc (nm := 6) tz41 rfl) nH2 ?_
  refine RunF.wn (o_store rfl rfl rfl ts41 rfl rfl) nH2 ?_
  refine RunF.q (o_assign rfl) rfl ?_
  refine RunF.q (o_assign rfl) rfl ?_
  refine AW.seq ?_
  refine AW.region (by kernel_rfl) ?_
  refine RunF.q (o_load_agg rfl tk41 ts41 rfl rfl rfl nL) rfl ?_
  refine RunF.q (o_load_agg rfl tk24 ts24 rfl rfl rfl nL) rfl ?_
  refine RunF.q (o_indexAddr_arr tk64 ts30 rfl rfl (by first | decide | (constructor <;> omega)) rfl) rfl ?_
  refine RunF.q (o_load rfl tk30 ts30 rfl rfl rfl) rfl ?_
  refine RunF.q (o_indexAddr_arr tk64 ts30 rfl rfl (by first | decide | (constructor <;> omega)) rfl) rfl ?_
  refine RunF.q (o_load rfl tk30 ts30 rfl rfl rfl) rfl ?_
  refine RunF.q (o_indexAddr_arr tk64 ts30 rfl rfl (by first | decide | (constructor <;> omega)) rfl) rfl ?_
  refine RunF.q (o_load rfl tk30 ts30 rfl rfl rfl) rfl ?_
  refine RunF.q (o_call (no := 7) (nr := 5) rfl rfl rfl nC (by rfl) (by exact hup) (by rfl) rfl rfl nV rfl) (by rfl) ?_
  refine RunF.q (o_move rfl) rfl ?_
  refine RunF.q (o_extract rfl rfl) rfl ?_
  refine RunF.q (o_extract rfl rfl) rfl ?_
  refine RunF.q (o_extract rfl rfl) rfl ?_
  refine RunF.q (o_extract rfl rfl) rfl ?_
  refine RunF.w (o_alloc (nm := 7) tz41 rfl) nH2 ?_
  refine RunF.wn (o_store rfl rfl rfl ts41 rfl rfl) nH2 ?_
  refine RunF.q (o_assign rfl) rfl ?_
  refine RunF.q (o_assign rfl) rfl ?_
  refine RunF.q (o_assign rfl) rfl ?_
  refine AW.seq ?_
  refine AW.seq ?_
  refine AW.region (by kernel_rfl) ?_
  refine RunF.q (o_move rfl) rfl ?_
  refine RunF.q (o_eql rfl rfl) rfl ?_
  refine RunF.q (o_move rfl) rfl ?_
  refine RunF.gs (b := false) rfl rfl ?_
  refine RunF.gs (b := false) rfl rfl ?_
  refine RunF.gs (b := false) rfl rfl ?_
  refine RunF.q (o_pick_f rfl rfl) rfl ?_
  refine RunF.q (o_move rfl) rfl ?_
  refine RunF.gq rfl (o_move rfl) rfl ?_
  refine RunF.gq rfl (o_eql rfl rfl) rfl ?_
  refine RunF.gq rfl (o_move rfl) rfl ?_
  refine RunF.gq rfl (o_load_agg rfl tk41 ts41 rfl rfl rfl nL) rfl ?_
  refine RunF.gq rfl (o_call (no := 8) (nr := 5) rfl rfl rfl nC (by rfl) (by exact r5right_is hr) (by rfl) rfl rfl nV rfl) (by rfl) ?_
  refine RunF.gq rfl (o_not rfl) rfl ?_
  refine RunF.gq rfl (o_pick_t rfl rfl) rfl ?_
  refine RunF.q (o_pick_f rfl rfl) rfl ?_
  refine AW.cond rfl (fun hc1 => absurd hc1 (by simp)) (fun hc1 => ?_)
  refine AW.skip ?_
  refine AW.seq ?_
  refine AW.region (by kernel_rfl) ?_
  refine RunF.q (o_move rfl) rfl ?_
  refine RunF.q (o_move rfl) rfl ?_
  refine RunF.gq rfl (o_move rfl) rfl ?_
  refine RunF.gq rfl (o_neq rfl rfl) rfl ?_
  refine RunF.gq rfl (o_move rfl) rfl ?_
  refine RunF.gq rfl (o_move rfl) rfl ?_
  refine RunF.gq rfl (o_pick_f rfl rfl) rfl ?_
  refine RunF.gq rfl (o_move rfl) rfl ?_
  refine RunF.gq rfl (o_load_agg rfl tk41 ts41 rfl rfl rfl nL) rfl ?_
  refine RunF.gq rfl (o_load_agg rfl tk41 ts41 rfl rfl rfl nL) rfl ?_
  refine RunF.gq rfl (o_call (no := 8) (nr := 5) rfl rfl rfl nC (by rfl) (by exact r5same_is (z := true) (by omega) (by omega) (by rw [sameM_refl, sameM_refl]; rfl)) (by rfl) rfl rfl nV rfl) (by rfl) ?_
  refine RunF.gq rfl (o_pick_f rfl rfl) rfl ?_
  refine RunF.q (o_pick_t rfl rfl) rfl ?_
  refine RunF.q (o_move rfl) rfl ?_
  refine RunF.gq rfl (o_load_agg rfl tk41 ts41 rfl rfl rfl nL) rfl ?_
  refine RunF.gq rfl (o_call (no := 8) (nr := 5) rfl rfl rfl nC (by rfl) (by exact kright_is hr) (by rfl) rfl rfl nV rfl) (by rfl) ?_
  refine RunF.q (o_pick_t rfl rfl) rfl ?_
  refine RunF.q (o_assign rfl) rfl ?_
  refine AW.ret ?_
  exact FinQ.ret [] [] (ress_tmp rfl ress_nil) rfl .nil (.cons rfl rfl nP (.cons rfl rfl nP (.cons rfl rfl nP (.cons rfl rfl nP (.cons rfl rfl nP .nil))))) nR

set_option maxHeartbeats 1000000 in
theorem kStays_nt (n : Nat) (n0 : 0 < n) (n8 : n ≤ 8) (fr fc qr qc hR hC z r gate : Int) (x p F Q hl : List Int) (hx : x.length = n * 1) (hp : p.length = n * n) (hr : rightT n 1 x n n p = true) (h2 : rightM fr fc F = true) (h3 : rightM qr qc Q = true) (h4 : rightM hR hC hl = true) (hpr : SoundC Try.prog 47 [.agg [.int .i64 n, .int .i64 1, .sl (.r 0) 0 x.length 1 false, .int .i64 n, .int .i64 n, .sl (.r 1) 0 p.length 1 false], .agg [.int .i64 fr, .int .i64 fc, .sl (.r 2) 0 F.length 1 false], .agg [.int .i64 qr, .int .i64 qc, .sl (.r 3) 0 Q.length 1 false]] ⟨[ints x, ints p, ints F, ints Q], []⟩ { val := .tuple [.agg [.int .i64 0, .int .i64 0, .nilsl, .int .i64 0, .int .i64 0, .nilsl], .bool false, .int .i64 9] }) (w2 : Bool) (X2 P2 : List Int) (hr2 : rightT n 1 X2 n n P2 = true) (hup : SoundC Try.prog 37 [.agg [.int .i64 n, .int .i64 1, .sl (.r 0) 0 x.length 1 false, .int .i64 n, .int .i64 n, .sl (.r 1) 0 p.length 1 false], .agg [.int .i64 hR, .int .i64 hC, .sl (.r 2) 0 hl.length 1 false], .int .i64 z, .int .i64 r, .int .i64 gate] ⟨[ints x, ints p, ints hl], []⟩ { val := .tuple [.agg [.int .i64 n, .int .i64 1, .sl (.o 0) 0 X2.length 1 false, .int .i64 n, .int .i64 n, .sl (.o 1) 0 P2.length 1 false], .bool true, .bool w2, .int .i64 0], newo := [ints X2, ints P2] }) : SoundC Try.prog 12 [.agg [.int .i64 n, .int .i64 1, .sl (.r 0) 0 x.length 1 false, .int .i64 n, .int .i64 n, .sl (.r 1) 0 p.length 1 false, .int .i64 fr, .int .i64 fc, .sl (.r 2) 0 F.length 1 false, .int .i64 qr, .int .i64 qc, .sl (.r 3) 0 Q.length 1 false, .int .i64 hR, .int .i64 hC, .sl (.r 4) 0 hl.length 1 false, .int .i64 z, .int .i64 r, .int .i64 gate]] ⟨[ints x, ints p, ints F, ints Q, ints hl], []⟩ { val := .bool true } := by
  have hsm := small_mul n8 n8
  refine SoundC.of (N := 101) Try.func12 rfl rfl rfl rfl ?_
  refine AW.seq ?_
  refine AW.region (by kernel_rfl) ?_
  refine RunF.w (o_box (nm := 0) rfl rfl rfl) nH2 ?_
  refine RunF.q (o_assign rfl) rfl ?_
  refine AW.seq ?_
  refine AW.region (by kernel_rfl) ?_
  refine RunF.q (o_fieldAddr rfl tk66 rfl ts41 rfl) rfl ?_
  refine RunF.q (o_load_agg rfl tk41 ts41 rfl rfl rfl nL) rfl ?_
  refine RunF.w (o_alloc (nm := 1) tz41 rfl) nH2 ?_
  refine RunF.wn (o_store rfl rfl rfl ts41 rfl rfl) nH2 ?_
  refine AW.seq ?_
  refine AW.region (by kernel_rfl) ?_
  refine RunF.q (o_fieldAddr rfl tk66 rfl ts24 rfl) rfl ?_
  refine RunF.q (o_load_agg rfl tk24 ts24 rfl rfl rfl nL) rfl ?_
  refine RunF.w (o_alloc (nm := 2) tz24 rfl) nH2 ?_
  refine RunF.wn (o_store rfl rfl rfl ts24 rfl rfl) nH2 ?_
  refine AW.seq ?_
  refine AW.region (by kernel_rfl) ?_
  refine RunF.q (o_fieldAddr rfl tk66 rfl ts24 rfl) rfl ?_
  refine RunF.q (o_load_agg rfl tk24 ts24 rfl rfl rfl nL) rfl ?_
  refine RunF.w (o_alloc (nm := 3) tz24 rfl) nH2 ?_
  refine RunF.wn (o_store rfl rfl rfl ts24 rfl rfl) nH2 ?_
  refine AW.seq ?_
  refine AW.region (by kernel_rfl) ?_
  refine RunF.q (o_fieldAddr rfl tk66 rfl ts24 rfl) rfl ?_
  refine RunF.q (o_load_agg rfl tk24 ts24 rfl rfl rfl nL) rfl ?_
  refine RunF.w (o_alloc (nm := 4) tz24 rfl) nH2 ?_
  refine RunF.wn (o_store rfl rfl rfl ts24 rfl rfl) nH2 ?_
  refine AW.seq ?_
  refine AW.region (by kernel_rfl) ?_
  refine RunF.q (o_fieldAddr rfl tk66 rfl ts64 rfl) rfl ?_
  refine RunF.q (o_load_agg rfl tk64 ts64 rfl rfl rfl nL) rfl ?_
  refine RunF.w (o_alloc (nm := 5) tz64 rfl) nH2 ?_
  refine RunF.wn (o_store rfl rfl rfl ts64 rfl rfl) nH2 ?_
  refine AW.seq ?_
  refine AW.region (by kernel_rfl) ?_
  refine RunF.q (o_call (no := 6) (nr := 5) rfl rfl rfl nC (by rfl) (by exact shown05_ok) (by rfl) rfl rfl nV rfl) (by rfl) ?_
  refine RunF.q (o_assign rfl) rfl ?_
  refine AW.seq ?_
  refine AW.seq ?_
  refine AW.region (by kernel_rfl) ?_
  refine RunF.q (o_load_agg rfl tk41 ts41 rfl rfl rfl nL) rfl ?_
  refine RunF.q (o_call (no := 6) (nr := 5) rfl rfl rfl nC (by rfl) (by exact r5right_is hr) (by rfl) rfl rfl nV rfl) (by rfl) ?_
  refine RunF.q (o_not rfl) rfl ?_
  refine RunF.q (o_move rfl) rfl ?_
  refine RunF.gq rfl (o_load_agg rfl tk24 ts24 rfl rfl rfl nL) rfl ?_
  refine RunF.gq rfl (o_call (no := 6) (nr := 5) rfl rfl rfl nC (by rfl) (by exact rright_is h2) (by rfl) rfl rfl nV rfl) (by rfl) ?_
  refine RunF.gq rfl (o_not rfl) rfl ?_
  refine RunF.q (o_pick_f rfl rfl) rfl ?_
  refine RunF.q (o_move rfl) rfl ?_
  refine RunF.gq rfl (o_load_agg rfl tk24 ts24 rfl rfl rfl nL) rfl ?_
  refine RunF.gq rfl (o_call (no := 6) (nr := 5) rfl rfl rfl nC (by rfl) (by exact rright_is h3) (by rfl) rfl rfl nV rfl) (by rfl) ?_
  refine RunF.gq rfl (o_not rfl) rfl ?_
  refine RunF.q (o_pick_f rfl rfl) rfl ?_
  refine RunF.q (o_move rfl) rfl ?_
  refine RunF.gq rfl (o_load_agg rfl tk24 ts24 rfl rfl rfl nL) rfl ?_
  refine RunF.gq rfl (o_call (no := 6) (nr := 5) rfl rfl rfl nC (by rfl) (by exact rright_is h4) (by rfl) rfl rfl nV rfl) (by rfl) ?_
  refine RunF.gq rfl (o_not rfl) rfl ?_
  refine RunF.q (o_pick_f rfl rfl) rfl ?_
  refine AW.cond rfl (fun hc0 => absurd hc0 (by simp)) (fun hc0 => ?_)
  refine AW.skip ?_
  refine AW.seq ?_
  refine AW.region (by kernel_rfl) ?_
  refine RunF.q (o_load_agg rfl tk41 ts41 rfl rfl rfl nL) rfl ?_
  refine RunF.q (o_load_agg rfl tk24 ts24 rfl rfl rfl nL) rfl ?_
  refine RunF.q (o_load_agg rfl tk24 ts24 rfl rfl rfl nL) rfl ?_
  refine RunF.q (o_call (no := 6) (nr := 5) rfl rfl rfl nC (by rfl) (by exact hpr) (by rfl) rfl rfl nV rfl) (by rfl) ?_
  refine RunF.q (o_move rfl) rfl ?_
  refine RunF.q (o_extract rfl rfl) rfl ?_
  refine RunF.q (o_extract rfl rfl) rfl ?_
  refine RunF.q (o_extract rfl rfl) rfl ?_
  refine RunF.w (o_alloc (nm := 6) tz41 rfl) nH2 ?_
  refine RunF.wn (o_store rfl rfl rfl ts41 rfl rfl) nH2 ?_
  refine RunF.q (o_assign rfl) rfl ?_
  refine RunF.q (o_assign rfl) rfl ?_
  refine AW.seq ?_
  refine AW.region (by kernel_rfl) ?_
  refine RunF.q (o_load_agg rfl tk41 ts41 rfl rfl rfl nL) rfl ?_
  refine RunF.q (o_load_agg rfl tk24 ts24 rfl rfl rfl nL) rfl ?_
  refine RunF.q (o_indexAddr_arr tk64 ts30 rfl rfl (by first | decide | (constructor <;> omega)) rfl) rfl ?_
  refine RunF.q (o_load rfl tk30 ts30 rfl rfl rfl) rfl ?_
  refine RunF.q (o_indexAddr_arr tk64 ts30 rfl rfl (by first | decide | (constructor <;> omega)) rfl) rfl ?_
  refine RunF.q (o_load rfl tk30 ts30 rfl rfl rfl) rfl ?_
  refine RunF.q (o_indexAddr_arr tk64 ts30 rfl rfl (by first | decide | (constructor <;> omega)) rfl) rfl ?_
  refine RunF.q (o_load rfl tk30 ts30 rfl rfl rfl) rfl ?_
  refine RunF.w (o_call (no := 7) (nr := 5) rfl rfl rfl nC (by rfl) (by exact hup) (by rfl) rfl rfl nV nE) nH2 ?_
  refine RunF.q (o_move rfl) rfl ?_
  refine RunF.q (o_extract rfl rfl) rfl ?_
  refine RunF.q (o_extract rfl rfl) rfl ?_
  refine RunF.q (o_extract rfl rfl) rfl ?_
  refine RunF.q (o_extract rfl rfl) rfl ?_
  refine RunF.w (o_alloc (nm := 9) tz41 rfl) nH2 ?_
  refine RunF.wn (o_store rfl rfl rfl ts41 rfl rfl) nH2 ?_
  refine RunF.q (o_assign rfl) rfl ?_
  refine RunF.q (o_assign rfl) rfl ?_
  refine RunF.q (o_assign rfl) rfl ?_
  refine AW.seq ?_
  refine AW.seq ?_
  refine AW.region (by kernel_rfl) ?_
  refine RunF.q (o_move rfl) rfl ?_
  refine RunF.q (o_eql rfl rfl) rfl ?_
  refine RunF.q (o_move rfl) rfl ?_
  refine RunF.gs (b := false) rfl rfl ?_
  refine RunF.gs (b := false) rfl rfl ?_
  refine RunF.gs (b := false) rfl rfl ?_
  refine RunF.q (o_pick_f rfl rfl) rfl ?_
  refine RunF.q (o_move rfl) rfl ?_
  refine RunF.gq rfl (o_move rfl) rfl ?_
  refine RunF.gq rfl (o_eql rfl rfl) rfl ?_
  refine RunF.gq rfl (o_move rfl) rfl ?_
  refine RunF.gq rfl (o_load_agg rfl tk41 ts41 rfl rfl rfl nL) rfl ?_
  refine RunF.gq rfl (o_call (no := 10) (nr := 5) rfl rfl rfl nC (by rfl) (by exact r5right_is hr2) (by rfl) rfl rfl nV rfl) (by rfl) ?_
  refine RunF.gq rfl (o_not rfl) rfl ?_
  refine RunF.gq rfl (o_pick_t rfl rfl) rfl ?_
  refine RunF.q (o_pick_f rfl rfl) rfl ?_
  refine AW.cond rfl (fun hc1 => absurd hc1 (by simp)) (fun hc1 => ?_)
  refine AW.skip ?_
  refine AW.seq ?_
  refine AW.region (by kernel_rfl) ?_
  refine RunF.q (o_move rfl) rfl ?_
  refine RunF.q (o_move rfl) rfl ?_
  refine RunF.gq rfl (o_move rfl) rfl ?_
  refine RunF.gq rfl (o_neq rfl rfl) rfl ?_
  refine RunF.gq rfl (o_move rfl) rfl ?_
  refine RunF.gq rfl (o_move rfl) rfl ?_
  refine RunF.gq rfl (o_pick_f rfl rfl) rfl ?_
  refine RunF.gq rfl (o_move rfl) rfl ?_
  refine RunF.gs (b := true) rfl rfl ?_
  refine RunF.gs (b := true) rfl rfl ?_
  refine RunF.gs (b := true) rfl rfl ?_
  refine RunF.gq rfl (o_pick_t rfl rfl) rfl ?_
  refine RunF.q (o_pick_t rfl rfl) rfl ?_
  refine RunF.q (o_move rfl) rfl ?_
  refine RunF.gq rfl (o_load_agg rfl tk41 ts41 rfl rfl rfl nL) rfl ?_
  refine RunF.gq rfl (o_call (no := 10) (nr := 5) rfl rfl rfl nC (by rfl) (by exact kright_is hr) (by rfl) rfl rfl nV rfl) (by rfl) ?_
  refine RunF.q (o_pick_t rfl rfl) rfl ?_
  refine RunF.q (o_assign rfl) rfl ?_
  refine AW.ret ?_
  exact FinQ.ret [] [] (ress_tmp rfl ress_nil) rfl .nil (.cons rfl rfl nP (.cons rfl rfl nP (.cons rfl rfl nP (.cons rfl rfl nP (.cons rfl rfl nP .nil))))) nR

set_option maxHeartbeats 1000000 in
theorem kStays_yn (n : Nat) (n0 : 0 < n) (n8 : n ≤ 8) (fr fc qr qc hR hC z r gate : Int) (x p F Q hl : List Int) (hx : x.length = n * 1) (hp : p.length = n * n) (hr : rightT n 1 x n n p = true) (h2 : rightM fr fc F = true) (h3 : rightM qr qc Q = true) (h4 : rightM hR hC hl = true) (w1 : Bool) (X1 P1 : List Int) (hr1 : rightT n 1 X1 n n P1 = true) (hpr : SoundC Try.prog 47 [.agg [.int .i64 n, .int .i64 1, .sl (.r 0) 0 x.length 1 false, .int .i64 n, .int .i64 n, .sl (.r 1) 0 p.length 1 false], .agg [.int .i64 fr, .int .i64 fc, .sl (.r 2) 0 F.length 1 false], .agg [.int .i64 qr, .int .i64 qc, .sl (.r 3) 0 Q.length 1 false]] ⟨[ints x, ints p, ints F, ints Q], []⟩ { val := .tuple [.agg [.int .i64 n, .int .i64 1, .sl (.o 0) 0 X1.length 1 false, .int .i64 n, .int .i64 n, .sl (.o 1) 0 P1.length 1 false], .bool w1, .int .i64 0], newo := [ints X1, ints P1] }) (e : Int) (he : e ≠ 0) (hup : SoundC Try.prog 37 [.agg [.int .i64 n, .int .i64 1, .sl (.r 0) 0 x.length 1 false, .int .i64 n, .int .i64 n, .sl (.r 1) 0 p.length 1 false], .agg [.int .i64 hR, .int .i64 hC, .sl (.r 2) 0 hl.length 1 false], .int .i64 z, .int .i64 r, .int .i64 gate] ⟨[ints x, ints p, ints hl], []⟩ { val := .tuple [.agg [.int .i64 0, .int .i64 0, .nilsl, .int .i64 0, .int .i64 0, .nilsl], .bool false, .bool false, .int .i64 e] }) : SoundC Try.prog 12 [.agg [.int .i64 n, .int .i64 1, .sl (.r 0) 0 x.length 1 false, .int .i64 n, .int .i64 n, .sl (.r 1) 0 p.length 1 false, .int .i64 fr, .int .i64 fc, .sl (.r 2) 0 F.length 1 false, .int .i64 qr, .int .i64 qc, .sl (.r 3) 0 Q.length 1 false, .int .i64 hR, .int .i64 hC, .sl (.r 4) 0 hl.length 1 false, .int .i64 z, .int .i64 r, .int .i64 gate]] ⟨[ints x, ints p, ints F, ints Q, ints hl], []⟩ { val := .bool true } := by
  have hsm := small_mul n8 n8
  refine SoundC.of (N := 101) Try.func12 rfl rfl rfl rfl ?_
  refine AW.seq ?_
  refine AW.region (by kernel_rfl) ?_
  refine RunF.w (o_box (nm := 0) rfl rfl rfl) nH2 ?_
  refine RunF.q (o_assign rfl) rfl ?_
  refine AW.seq ?_
  refine AW.region (by kernel_rfl) ?_
  refine RunF.q (o_fieldAddr rfl tk66 rfl ts41 rfl) rfl ?_
  refine RunF.q (o_load_agg rfl tk41 ts41 rfl rfl rfl nL) rfl ?_
  refine RunF.w (o_alloc (nm := 1) tz41 rfl) nH2 ?_
  refine RunF.wn (o_store rfl rfl rfl ts41 rfl rfl) nH2 ?_
  refine AW.seq ?_
  refine AW.region (by kernel_rfl) ?_
  refine RunF.q (o_fieldAddr rfl tk66 rfl ts24 rfl) rfl ?_
  refine RunF.q (o_load_agg rfl tk24 ts24 rfl rfl rfl nL) rfl ?_
  refine RunF.w (o_alloc (nm := 2) tz24 rfl) nH2 ?_
  refine RunF.wn (o_store rfl rfl rfl ts24 rfl rfl) nH2 ?_
  refine AW.seq ?_
  refine AW.region (by kernel_rfl) ?_
  refine RunF.q (o_fieldAddr rfl tk66 rfl ts24 rfl) rfl ?_
  refine RunF.q (o_load_agg rfl tk24 ts24 rfl rfl rfl nL) rfl ?_
  refine RunF.w (o_alloc (nm := 3) tz24 rfl) nH2 ?_
  refine RunF.wn (o_store rfl rfl rfl ts24 rfl rfl) nH2 ?_
  refine AW.seq ?_
  refine AW.region (by kernel_rfl) ?_
  refine RunF.q (o_fieldAddr rfl tk66 rfl ts24 rfl) rfl ?_
  refine RunF.q (o_load_agg rfl tk24 ts24 rfl rfl rfl nL) rfl ?_
  refine RunF.w (o_alloc (nm := 4) tz24 rfl) nH2 ?_
  refine RunF.wn (o_store rfl rfl rfl ts24 rfl rfl) nH2 ?_
  refine AW.seq ?_
  refine AW.region (by kernel_rfl) ?_
  refine RunF.q (o_fieldAddr rfl tk66 rfl ts64 rfl) rfl ?_
  refine RunF.q (o_load_agg rfl tk64 ts64 rfl rfl rfl nL) rfl ?_
  refine RunF.w (o_alloc (nm := 5) tz64 rfl) nH2 ?_
  refine RunF.wn (o_store rfl rfl rfl ts64 rfl rfl) nH2 ?_
  refine AW.seq ?_
  refine AW.region (by kernel_rfl) ?_
  refine RunF.q (o_call (no := 6) (nr := 5) rfl rfl rfl nC (by rfl) (by exact shown05_ok) (by rfl) rfl rfl nV rfl) (by rfl) ?_
  refine RunF.q (o_assign rfl) rfl ?_
  refine AW.seq ?_
  refine AW.seq ?_
  refine AW.region (by kernel_rfl) ?_
  refine RunF.q (o_load_agg rfl tk41 ts41 rfl rfl rfl nL) rfl ?_
  refine RunF.q (o_call (no := 6) (nr := 5) rfl rfl rfl nC (by rfl) (by exact r5right_is hr) (by rfl) rfl rfl nV rfl) (by rfl) ?_
  refine RunF.q (o_not rfl) rfl ?_
  refine RunF.q (o_move rfl) rfl ?_
  refine RunF.gq rfl (o_load_agg rfl tk24 ts24 rfl rfl rfl nL) rfl ?_
  refine RunF.gq rfl (o_call (no := 6) (nr := 5) rfl rfl rfl nC (by rfl) (by exact rright_is h2) (by rfl) rfl rfl nV rfl) (by rfl) ?_
  refine RunF.gq rfl (o_not rfl) rfl ?_
  refine RunF.q (o_pick_f rfl rfl) rfl ?_
  refine RunF.q (o_move rfl) rfl ?_
  refine RunF.gq rfl (o_load_agg rfl tk24 ts24 rfl rfl rfl nL) rfl ?_
  refine RunF.gq rfl (o_call (no := 6) (nr := 5) rfl rfl rfl nC (by rfl) (by exact rright_is h3) (by rfl) rfl rfl nV rfl) (by rfl) ?_
  refine RunF.gq rfl (o_not rfl) rfl ?_
  refine RunF.q (o_pick_f rfl rfl) rfl ?_
  refine RunF.q (o_move rfl) rfl ?_
  refine RunF.gq rfl (o_load_agg rfl tk24 ts24 rfl rfl rfl nL) rfl ?_
  refine RunF.gq rfl (o_call (no := 6) (nr := 5) rfl rfl rfl nC (by rfl) (by exact rright_is h4) (by rfl) rfl rfl nV rfl) (by rfl) ?_
  refine RunF.gq rfl (o_not rfl) rfl ?_
  refine RunF.q (o_pick_f rfl rfl) rfl ?_
  refine AW.cond rfl (fun hc0 => absurd hc0 (by simp)) (fun hc0 => ?_)
  refine AW.skip ?_
  refine AW.seq ?_
  refine AW.region (by kernel_rfl) ?_
  refine RunF.q (o_load_agg rfl tk41 ts41 rfl rfl rfl nL) rfl ?_
  refine RunF.q (o_load_agg rfl tk24 ts24 rfl rfl rfl nL) rfl ?_
  refine RunF.q (o_load_agg rfl tk24 ts24 rfl rfl rfl nL) rfl ?_
  refine RunF.w (o_call (no := 6) (nr := 5) rfl rfl rfl nC (by rfl) (by exact hpr) (by rfl) rfl rfl nV nE) nH2 ?_
  refine RunF.q (o_move rfl) rfl ?_
  refine RunF.q (o_extract rfl rfl) rfl ?_
  refine RunF.q (o_extract rfl rfl) rfl ?_
  refine RunF.q (o_extract rfl rfl) rfl ?_
  refine RunF.w (o_alloc (nm := 8) tz41 rfl) nH2 ?_
  refine RunF.wn (o_store rfl rfl rfl ts41 rfl rfl) nH2 ?_
  refine RunF.q (o_assign rfl) rfl ?_
  refine RunF.q (o_assign rfl) rfl ?_
  refine AW.seq ?_
  refine AW.region (by kernel_rfl) ?_
  refine RunF.q (o_load_agg rfl tk41 ts41 rfl rfl rfl nL) rfl ?_
  refine RunF.q (o_load_agg rfl tk24 ts24 rfl rfl rfl nL) rfl ?_
  refine RunF.q (o_indexAddr_arr tk64 ts30 rfl rfl (by first | decide | (constructor <;> omega)) rfl) rfl ?_
  refine RunF.q (o_load rfl tk30 ts30 rfl rfl rfl) rfl ?_
  refine RunF.q (o_indexAddr_arr tk64 ts30 rfl rfl (by first | decide | (constructor <;> omega)) rfl) rfl ?_
  refine RunF.q (o_load rfl tk30 ts30 rfl rfl rfl) rfl ?_
  refine RunF.q (o_indexAddr_arr tk64 ts30 rfl rfl (by first | decide | (constructor <;> omega)) rfl) rfl ?_
  refine RunF.q (o_load rfl tk30 ts30 rfl rfl rfl) rfl ?_
  refine RunF.q (o_call (no := 9) (nr := 5) rfl rfl rfl nC (by rfl) (by exact hup) (by rfl) rfl rfl nV rfl) (by rfl) ?_
  refine RunF.q (o_move rfl) rfl ?_
  refine RunF.q (o_extract rfl rfl) rfl ?_
  refine RunF.q (o_extract rfl rfl) rfl ?_
  refine RunF.q (o_extract rfl rfl) rfl ?_
  refine RunF.q (o_extract rfl rfl) rfl ?_
  refine RunF.w (o_alloc (nm := 9) tz41 rfl) nH2 ?_
  refine RunF.wn (o_store rfl rfl rfl ts41 rfl rfl) nH2 ?_
  refine RunF.q (o_assign rfl) rfl ?_
  refine RunF.q (o_assign rfl) rfl ?_
  refine RunF.q (o_assign rfl) rfl ?_
  refine AW.seq ?_
  refine AW.seq ?_
  refine AW.region (by kernel_rfl) ?_
  refine RunF.q (o_move rfl) rfl ?_
  refine RunF.q (o_eql rfl rfl) rfl ?_
  refine RunF.q (o_move rfl) rfl ?_
  refine RunF.gq rfl (o_load_agg rfl tk41 ts41 rfl rfl rfl nL) rfl ?_
  refine RunF.gq rfl (o_call (no := 10) (nr := 5) rfl rfl rfl nC (by rfl) (by exact r5right_is hr1) (by rfl) rfl rfl nV rfl) (by rfl) ?_
  refine RunF.gq rfl (o_not rfl) rfl ?_
  refine RunF.q (o_pick_t rfl rfl) rfl ?_
  refine RunF.q (o_move rfl) rfl ?_
  refine RunF.gq rfl (o_move rfl) rfl ?_
  refine RunF.gq rfl (o_bin (v := .bool false) rfl rfl (by simp only [binA, if_true]; rw [beq_eq_false_iff_ne.mpr he])) rfl ?_
  refine RunF.gq rfl (o_move rfl) rfl ?_
  refine RunF.gs (b := false) rfl rfl ?_
  refine RunF.gs (b := false) rfl rfl ?_
  refine RunF.gs (b := false) rfl rfl ?_
  refine RunF.gq rfl (o_pick_f rfl rfl) rfl ?_
  refine RunF.q (o_pick_f rfl rfl) rfl ?_
  refine AW.cond rfl (fun hc1 => absurd hc1 (by simp)) (fun hc1 => ?_)
  refine AW.skip ?_
  refine AW.seq ?_
  refine AW.region (by kernel_rfl) ?_
  refine RunF.q (o_move rfl) rfl ?_
  refine RunF.q (o_move rfl) rfl ?_
  refine RunF.gq rfl (o_move rfl) rfl ?_
  refine RunF.gq rfl (o_bin (v := .bool true) rfl rfl (by simp only [binA, if_true]; rw [bne_iff_ne.mpr he])) rfl ?_
  refine RunF.gq rfl (o_move rfl) rfl ?_
  refine RunF.gs (b := true) rfl rfl ?_
  refine RunF.gq rfl (o_pick_t rfl rfl) rfl ?_
  refine RunF.gq rfl (o_move rfl) rfl ?_
  refine RunF.gs (b := true) rfl rfl ?_
  refine RunF.gs (b := true) rfl rfl ?_
  refine RunF.gs (b := true) rfl rfl ?_
  refine RunF.gq rfl (o_pick_t rfl rfl) rfl ?_
  refine RunF.q (o_pick_t rfl rfl) rfl ?_
  refine RunF.q (o_move rfl) rfl ?_
  refine RunF.gq rfl (o_load_agg rfl tk41 ts41 rfl rfl rfl nL) rfl ?_
  refine RunF.gq rfl (o_call (no := 10) (nr := 5) rfl rfl rfl nC (by rfl) (by exact kright_is hr) (by rfl) rfl rfl nV rfl) (by rfl) ?_
  refine RunF.q (o_pick_t rfl rfl) rfl ?_
  refine RunF.q (o_assign rfl) rfl ?_
  refine AW.ret ?_
  exact FinQ.ret [] [] (ress_tmp rfl ress_nil) rfl .nil (.cons rfl rfl nP (.cons rfl rfl nP (.cons rfl rfl nP (.cons rfl rfl nP (.cons rfl rfl nP .nil))))) nR

set_option maxHeartbeats 1000000 in
theorem kStays_ys (n : Nat) (n0 : 0 < n) (n8 : n ≤ 8) (fr fc qr qc hR hC z r gate : Int) (x p F Q hl : List Int) (hx : x.length = n * 1) (hp : p.length = n * n) (hr : rightT n 1 x n n p = true) (h2 : rightM fr fc F = true) (h3 : rightM qr qc Q = true) (h4 : rightM hR hC hl = true) (w1 : Bool) (X1 P1 : List Int) (hr1 : rightT n 1 X1 n n P1 = true) (hpr : SoundC Try.prog 47 [.agg [.int .i64 n, .int .i64 1, .sl (.r 0) 0 x.length 1 false, .int .i64 n, .int .i64 n, .sl (.r 1) 0 p.length 1 false], .agg [.int .i64 fr, .int .i64 fc, .sl (.r 2) 0 F.length 1 false], .agg [.int .i64 qr, .int .i64 qc, .sl (.r 3) 0 Q.length 1 false]] ⟨[ints x, ints p, ints F, ints Q], []⟩ { val := .tuple [.agg [.int .i64 n, .int .i64 1, .sl (.o 0) 0 X1.length 1 false, .int .i64 n, .int .i64 n, .sl (.o 1) 0 P1.length 1 false], .bool w1, .int .i64 0], newo := [ints X1, ints P1] }) (w2 : Bool) (hup : SoundC Try.prog 37 [.agg [.int .i64 n, .int .i64 1, .sl (.r 0) 0 x.length 1 false, .int .i64 n, .int .i64 n, .sl (.r 1) 0 p.length 1 false], .agg [.int .i64 hR, .int .i64 hC, .sl (.r 2) 0 hl.length 1 false], .int .i64 z, .int .i64 r, .int .i64 gate] ⟨[ints x, ints p, ints hl], []⟩ { val := .tuple [.agg [.int .i64 n, .int .i64 1, .sl (.r 0) 0 x.length 1 false, .int .i64 n, .int .i64 n, .sl (.r 1) 0 p.length 1 false], .bool false, .bool w2, .int .i64 0] }) : SoundC Try.prog 12 [.agg [.int .i64 n, .int .i64 1, .sl (.r 0) 0 x.length 1 false, .int .i64 n, .int .i64 n, .sl (.r 1) 0 p.length 1 false, .int .i64 fr, .int .i64 fc, .sl (.r 2) 0 F.length 1 false, .int .i64 qr, .int .i64 qc, .sl (.r 3) 0 Q.length 1 false, .int .i64 hR, .int .i64 hC, .sl (.r 4) 0 hl.length 1 false, .int .i64 z, .int .i64 r, .int .i64 gate]] ⟨[ints x, ints p, ints F, ints Q, ints hl], []⟩ { val := .bool true } := by
  have hsm := small_mul n8 n8
  refine SoundC.of (N := 101) Try.func12 rfl rfl rfl rfl ?_
  refine AW.seq ?_
  refine AW.region (by kernel_rfl) ?_
  refine RunF.w (o_box (nm := 0) rfl rfl rfl) nH2 ?_
  refine RunF.q (o_assign rfl) rfl ?_
  refine AW.seq ?_
  refine AW.region (by kernel_rfl) ?_
  refine RunF.q (o_fieldAddr rfl tk66 rfl ts41 rfl) rfl ?_
  refine RunF.q (o_load_agg rfl tk41 ts41 rfl rfl rfl nL) rfl ?_
  refine RunF.w (o_alloc (nm := 1) tz41 rfl) nH2 ?_
  refine RunF.wn (o_store rfl rfl rfl ts41 rfl rfl) nH2 ?_
  refine AW.seq ?_
  refine AW.region (by kernel_rfl) ?_
  refine RunF.q (o_fieldAddr rfl tk66 rfl ts24 rfl) rfl ?_
  refine RunF.q (o_load_agg rfl tk24 ts24 rfl rfl rfl nL) rfl ?_
  refine RunF.w (o_alloc (nm := 2) tz24 rfl) nH2 ?_
  refine RunF.wn (o_store rfl rfl rfl ts24 rfl rfl) nH2 ?_
  refine AW.seq ?_
  refine AW.region (by kernel_rfl) ?_
  refine RunF.q (o_fieldAddr rfl tk66 rfl ts24 rfl) rfl ?_
  refine RunF.q (o_load_agg rfl tk24 ts24 rfl rfl rfl nL) rfl ?_
  refine RunF.w (o_alloc (nm := 3) tz24 rfl) nH2 ?_
  refine RunF.wn (o_store rfl rfl rfl ts24 rfl rfl) nH2 ?_
  refine AW.seq ?_
  refine AW.region (by kernel_rfl) ?_
  refine RunF.q (o_fieldAddr rfl tk66 rfl ts24 rfl) rfl ?_
  refine RunF.q (o_load_agg rfl tk24 ts24 rfl rfl rfl nL) rfl ?_
  refine RunF.w (o_alloc (nm := 4) tz24 rfl) nH2 ?_
  refine RunF.wn (o_store rfl rfl rfl ts24 rfl rfl) nH2 ?_
  refine AW.seq ?_
  refine AW.region (by kernel_rfl) ?_
  refine RunF.q (o_fieldAddr rfl tk66 rfl ts64 rfl) rfl ?_
  refine RunF.q (o_load_agg rfl tk64 ts64 rfl rfl rfl nL) rfl ?_
  refine RunF.w (o_alloc (nm := 5) tz64 rfl) nH2 ?_
  refine RunF.wn (o_store rfl rfl rfl ts64 rfl rfl) nH2 ?_
  refine AW.seq ?_
  refine AW.region (by kernel_rfl) ?_
  refine RunF.q (o_call (no := 6) (nr := 5) rfl rfl rfl nC (by rfl) (by exact shown05_ok) (by rfl) rfl rfl nV rfl) (by rfl) ?_
  refine RunF.q (o_assign rfl) rfl ?_
  refine AW.seq ?_
  refine AW.seq ?_
  refine AW.region (by kernel_rfl) ?_
  refine RunF.q (o_load_agg rfl tk41 ts41 rfl rfl rfl nL) rfl ?_
  refine RunF.q (o_call (no := 6) (nr := 5) rfl rfl rfl nC (by rfl) (by exact r5right_is hr) (by rfl) rfl rfl nV rfl) (by rfl) ?_
  refine RunF.q (o_not rfl) rfl ?_
  refine RunF.q (o_move rfl) rfl ?_
  refine RunF.gq rfl (o_load_agg rfl tk24 ts24 rfl rfl rfl nL) rfl ?_
  refine RunF.gq rfl (o_call (no := 6) (nr := 5) rfl rfl rfl nC (by rfl) (by exact rright_is h2) (by rfl) rfl rfl nV rfl) (by rfl) ?_
  refine RunF.gq rfl (o_not rfl) rfl ?_
  refine RunF.q (o_pick_f rfl rfl) rfl ?_
  refine RunF.q (o_move rfl) rfl ?_
  refine RunF.gq rfl (o_load_agg rfl tk24 ts24 rfl rfl rfl nL) rfl ?_
  refine RunF.gq rfl (o_call (no := 6) (nr := 5) rfl rfl rfl nC (by rfl) (by exact rright_is h3) (by rfl) rfl rfl nV rfl) (by rfl) ?_
  refine RunF.gq rfl (o_not rfl) rfl ?_
  refine RunF.q (o_pick_f rfl rfl) rfl ?_
  refine RunF.q (o_move rfl) rfl ?_
  refine RunF.gq rfl (o_load_agg rfl tk24 ts24 rfl rfl rfl nL) rfl ?_
  refine RunF.gq rfl (o_call (no := 6) (nr := 5) rfl rfl rfl nC (by rfl) (by exact rright_is h4) (by rfl) rfl rfl nV rfl) (by rfl) ?_
  refine RunF.gq rfl (o_not rfl) rfl ?_
  refine RunF.q (o_pick_f rfl rfl) rfl ?_
  refine AW.cond rfl (fun hc0 => absurd hc0 (by simp)) (fun hc0 => ?_)
  refine AW.skip ?_
  refine AW.seq ?_
  refine AW.region (by kernel_rfl) ?_
  refine RunF.q (o_load_agg rfl tk41 ts41 rfl rfl rfl nL) rfl ?_
  refine RunF.q (o_load_agg rfl tk24 ts24 rfl rfl rfl nL) rfl ?_
  refine RunF.q (o_load_agg rfl tk24 ts24 rfl rfl rfl nL) rfl ?_
  refine RunF.w (o_call (no := 6) (nr := 5) rfl rfl rfl nC (by rfl) (by exact hpr) (by rfl) rfl rfl nV nE) nH2 ?_
  refine RunF.q (o_move rfl) rfl ?_
  refine RunF.q (o_extract rfl rfl) rfl ?_
  refine RunF.q (o_extract rfl rfl) rfl ?_
  refine RunF.q (o_extract rfl rfl) rfl ?_
  refine RunF.w (o_alloc (nm := 8) tz41 rfl) nH2 ?_
  refine RunF.wn (o_store rfl rfl rfl ts41 rfl rfl) nH2 ?_
  refine RunF.q (o_assign rfl) rfl ?_
  refine RunF.q (o_assign rfl) rfl ?_
  refine AW.seq ?_
  refine AW.region (by kernel_rfl) ?_
  refine RunF.q (o_load_agg rfl tk41 ts41 rfl rfl rfl nL) rfl ?_
  refine RunF.q (o_load_agg rfl tk24 ts24 rfl rfl rfl nL) rfl ?_
  refine RunF.q (o_indexAddr_arr tk64 ts30 rfl rfl (by first | decide | (constructor <;> omega)) rfl) rfl ?_
  refine RunF.q (o_load rfl tk30 ts30 rfl rfl rfl) rfl ?_
  refine RunF.q (o_indexAddr_arr tk64 ts30 rfl rfl (by first | decide | (constructor <;> omega)) rfl) rfl ?_
  refine RunF.q (o_load rfl tk30 ts30 rfl rfl rfl) rfl ?_
  refine RunF.q (o_indexAddr_arr tk64 ts30 rfl rfl (by first | decide | (constructor <;> omega)) rfl) rfl ?_
  refine RunF.q (o_load rfl tk30 ts30 rfl rfl rfl) rfl ?_
  refine RunF.q (o_call (no := 9) (nr := 5) rfl rfl rfl nC (by rfl) (by exact hup) (by rfl) rfl rfl nV rfl) (by rfl) ?_
  refine RunF.q (o_move rfl) rfl ?_
  refine RunF.q (o_extract rfl rfl) rfl ?_
  refine RunF.q (o_extract rfl rfl) rfl ?_
  refine RunF.q (o_extract rfl rfl) rfl ?_
  refine RunF.q (o_extract rfl rfl) rfl ?_
  refine RunF.w (o_alloc (nm := 9) tz41 rfl) nH2 ?_
  refine RunF.wn (o_store rfl rfl rfl ts41 rfl rfl) nH2 ?_
  refine RunF.q (o_assign rfl) rfl ?_
  refine RunF.q (o_assign rfl) rfl ?_
  refine RunF.q (o_assign rfl) rfl ?_
  refine AW.seq ?_
  refine AW.seq ?_
  refine AW.region (by kernel_rfl) ?_
  refine RunF.q (o_move rfl) rfl ?_
  refine RunF.q (o_eql rfl rfl) rfl ?_
  refine RunF.q (o_move rfl) rfl ?_
  refine RunF.gq rfl (o_load_agg rfl tk41 ts41 rfl rfl rfl nL) rfl ?_
  refine RunF.gq rfl (o_call (no := 10) (nr := 5) rfl rfl rfl nC (by rfl) (by exact r5right_is hr1) (by rfl) rfl rfl nV rfl) (by rfl) ?_
  refine RunF.gq rfl (o_not rfl) rfl ?_
  refine RunF.q (o_pick_t rfl rfl) rfl ?_
  refine RunF.q (o_move rfl) rfl ?_
  refine RunF.gq rfl (o_move rfl) rfl ?_
  refine RunF.gq rfl (o_eql rfl rfl) rfl ?_
  refine RunF.gq rfl (o_move rfl) rfl ?_
  refine RunF.gq rfl (o_load_agg rfl tk41 ts41 rfl rfl rfl nL) rfl ?_
  refine RunF.gq rfl (o_call (no := 10) (nr := 5) rfl rfl rfl nC (by rfl) (by exact r5right_is hr) (by rfl) rfl rfl nV rfl) (by rfl) ?_
  refine RunF.gq rfl (o_not rfl) rfl ?_
  refine RunF.gq rfl (o_pick_t rfl rfl) rfl ?_
  refine RunF.q (o_pick_f rfl rfl) rfl ?_
  refine AW.cond rfl (fun hc1 => absurd hc1 (by simp)) (fun hc1 => ?_)
  refine AW.skip ?_
  refine AW.seq ?_
  refine AW.region (by kernel_rfl) ?_
  refine RunF.q (o_move rfl) rfl ?_
  refine RunF.q (o_move rfl) rfl ?_
  refine RunF.gq rfl (o_move rfl) rfl ?_
  refine RunF.gq rfl (o_neq rfl rfl) rfl ?_
  refine RunF.gq rfl (o_move rfl) rfl ?_
  refine RunF.gq rfl (o_move rfl) rfl ?_
  refine RunF.gq rfl (o_pick_f rfl rfl) rfl ?_
  refine RunF.gq rfl (o_move rfl) rfl ?_
  refine RunF.gq rfl (o_load_agg rfl tk41 ts41 rfl rfl rfl nL) rfl ?_
  refine RunF.gq rfl (o_load_agg rfl tk41 ts41 rfl rfl rfl nL) rfl ?_
  refine RunF.gq rfl (o_call (no := 10) (nr := 5) rfl rfl rfl nC (by rfl) (by exact r5same_is (z := true) (by omega) (by omega) (by rw [sameM_refl, sameM_refl]; rfl)) (by rfl) rfl rfl nV rfl) (by rfl) ?_
  refine RunF.gq rfl (o_pick_f rfl rfl) rfl ?_
  refine RunF.q (o_pick_t rfl rfl) rfl ?_
  refine RunF.q (o_move rfl) rfl ?_
  refine RunF.gq rfl (o_load_agg rfl tk41 ts41 rfl rfl rfl nL) rfl ?_
  refine RunF.gq rfl (o_call (no := 10) (nr := 5) rfl rfl rfl nC (by rfl) (by exact kright_is hr) (by rfl) rfl rfl nV rfl) (by rfl) ?_
  refine RunF.q (o_pick_t rfl rfl) rfl ?_
  refine RunF.q (o_assign rfl) rfl ?_
  refine AW.ret ?_
  exact FinQ.ret [] [] (ress_tmp rfl ress_nil) rfl .nil (.cons rfl rfl nP (.cons rfl rfl nP (.cons rfl rfl nP (.cons rfl rfl nP (.cons rfl rfl nP .nil))))) nR

set_option maxHeartbeats 1000000 in
theorem kStays_yt (n : Nat) (n0 : 0 < n) (n8 : n ≤ 8) (fr fc qr qc hR hC z r gate : Int) (x p F Q hl : List Int) (hx : x.length = n * 1) (hp : p.length = n * n) (hr : rightT n 1 x n n p = true) (h2 : rightM fr fc F = true) (h3 : rightM qr qc Q = true) (h4 : rightM hR hC hl = true) (w1 : Bool) (X1 P1 : List Int) (hr1 : rightT n 1 X1 n n P1 = true) (hpr : SoundC Try.prog 47 [.agg [.int .i64 n, .int .i64 1, .sl (.r 0) 0 x.length 1 false, .int .i64 n, .int .i64 n, .sl (.r 1) 0 p.length 1 false], .agg [.int .i64 fr, .int .i64 fc, .sl (.r 2) 0 F.length 1 false], .agg [.int .i64 qr, .int .i64 qc, .sl (.r 3) 0 Q.length 1 false]] ⟨[ints x, ints p, ints F, ints Q], []⟩ { val := .tuple [.agg [.int .i64 n, .int .i64 1, .sl (.o 0) 0 X1.length 1 false, .int .i64 n, .int .i64 n, .sl (.o 1) 0 P1.length 1 false], .bool w1, .int .i64 0], newo := [ints X1, ints P1] }) (w2 : Bool) (X2 P2 : List Int) (hr2 : rightT n 1 X2 n n P2 = true) (hup : SoundC Try.prog 37 [.agg [.int .i64 n, .int .i64 1, .sl (.r 0) 0 x.length 1 false, .int .i64 n, .int .i64 n, .sl (.r 1) 0 p.length 1 false], .agg [.int .i64 hR, .int .i64 hC, .sl (.r 2) 0 hl.length 1 false], .int .i64 z, .int .i64 r, .int .i64 gate] ⟨[ints x, ints p, ints hl], []⟩ { val := .tuple [.agg [.int .i64 n, .int .i64 1, .sl (.o 0) 0 X2.length 1 false, .int .i64 n, .int .i64 n, .sl (.o 1) 0 P2.length 1 false], .bool true, .bool w2, .int .i64 0], newo := [ints X2, ints P2] }) : SoundC Try.prog 12 [.agg [.int .i64 n, .int .i64 1, .sl (.r 0) 0 x.length 1 false, .int .i64 n, .int .i64 n, .sl (.r 1) 0 p.length 1 false, .int .i64 fr, .int .i64 fc, .sl (.r 2) 0 F.length 1 false, .int .i64 qr, .int .i64 qc, .sl (.r 3) 0 Q.length 1 false, .int .i64 hR, .int .i64 hC, .sl (.r 4) 0 hl.length 1 false, .int .i64 z, .int .i64 r, .int .i64 gate]] ⟨[ints x, ints p, ints F, ints Q, ints hl], []⟩ { val := .bool true } := by
  have hsm := small_mul n8 n8
  refine SoundC.of (N := 101) Try.func12 rfl rfl rfl rfl ?_
  refine AW.seq ?_
  refine AW.region (by kernel_rfl) ?_
  refine RunF.w (o_box (nm := 0) rfl rfl rfl) nH2 ?_
  refine RunF.q (o_assign rfl) rfl ?_
  refine AW.seq ?_
  refine AW.region (by kernel_rfl) ?_
  refine RunF.q (o_fieldAddr rfl tk66 rfl ts41 rfl) rfl ?_
  refine RunF.q (o_load_agg rfl tk41 ts41 rfl rfl rfl nL) rfl ?_
  refine RunF.w (o_alloc (nm := 1) tz41 rfl) nH2 ?_
  refine RunF.wn (o_store rfl rfl rfl ts41 rfl rfl) nH2 ?_
  refine AW.seq ?_
  refine AW.region (by kernel_rfl) ?_
  refine RunF.q (o_fieldAddr rfl tk66 rfl ts24 rfl) rfl ?_
  refine RunF.q (o_load_agg rfl tk24 ts24 rfl rfl rfl nL) rfl ?_
  refine RunF.w (o_alloc (nm := 2) tz24 rfl) nH2 ?_
  refine RunF.wn (o_store rfl rfl rfl ts24 rfl rfl) nH2 ?_
  refine AW.seq ?_
  refine AW.region (by kernel_rfl) ?_
  refine RunF.q (o_fieldAddr rfl tk66 rfl ts24 rfl) rfl ?_
  refine RunF.q (o_load_agg rfl tk24 ts24 rfl rfl rfl nL) rfl ?_
  refine RunF.w (o_alloc (nm := 3) tz24 rfl) nH2 ?_
  refine RunF.wn (o_store rfl rfl rfl ts24 rfl rfl) nH2 ?_
  refine AW.seq ?_
  refine AW.region (by kernel_rfl) ?_
  refine RunF.q (o_fieldAddr rfl tk66 rfl ts24 rfl) rfl ?_
  refine RunF.q (o_load_agg rfl tk24 ts24 rfl rfl rfl nL) rfl ?_
  refine RunF.w (o_alloc (nm := 4) tz24 rfl) nH2 ?_
  refine RunF.wn (o_store rfl rfl rfl ts24 rfl rfl) nH2 ?_
  refine AW.seq ?_
  refine AW.region (by kernel_rfl) ?_
  refine RunF.q (o_fieldAddr rfl tk66 rfl ts64 rfl) rfl ?_
  refine RunF.q (o_load_agg rfl tk64 ts64 rfl rfl rfl nL) rfl ?_
  refine RunF.w (o_alloc (nm := 5) tz64 rfl) nH2 ?_
  refine RunF.wn (o_store rfl rfl rfl ts64 rfl rfl) nH2 ?_
  refine AW.seq ?_
  refine AW.region (by kernel_rfl) ?_
  refine RunF.q (o_call (no := 6) (nr := 5) rfl rfl rfl nC (by rfl) (by exact shown05_ok) (by rfl) rfl rfl nV rfl) (by rfl) ?_
  refine RunF.q (o_assign rfl) rfl ?_
  refine AW.seq ?_
  refine AW.seq ?_
  refine AW.region (by kernel_rfl) ?_
  refine RunF.q (o_load_agg rfl tk41 ts41 rfl rfl rfl nL) rfl ?_
  refine RunF.q (o_call (no := 6) (nr := 5) rfl rfl rfl nC (by rfl) (by exact r5right_is hr) (by rfl) rfl rfl nV rfl) (by rfl) ?_
  refine RunF.q (o_not rfl) rfl ?_
  refine RunF.q (o_move rfl) rfl ?_
  refine RunF.gq rfl (o_load_agg rfl tk24 ts24 rfl rfl rfl nL) rfl ?_
  refine RunF.gq rfl (o_call (no := 6) (nr := 5) rfl rfl rfl nC (by rfl) (by exact rright_is h2) (by rfl) rfl rfl nV rfl) (by rfl) ?_
  refine RunF.gq rfl (o_not rfl) rfl ?_
  refine RunF.q (o_pick_f rfl rfl) rfl ?_
  refine RunF.q (o_move rfl) rfl ?_
  refine RunF.gq rfl (o_load_agg rfl tk24 ts24 rfl rfl rfl nL) rfl ?_
  refine RunF.gq rfl (o_call (no := 6) (nr := 5) rfl rfl rfl nC (by rfl) (by exact rright_is h3) (by rfl) rfl rfl nV rfl) (by rfl) ?_
  refine RunF.gq rfl (o_not rfl) rfl ?_
  refine RunF.q (o_pick_f rfl rfl) rfl ?_
  refine RunF.q (o_move rfl) rfl ?_
  refine RunF.gq rfl (o_load_agg rfl tk24 ts24 rfl rfl rfl nL) rfl ?_
  refine RunF.gq rfl (o_call (no := 6) (nr := 5) rfl rfl rfl nC (by rfl) (by exact rright_is h4) (by rfl) rfl rfl nV rfl) (by rfl) ?_
  refine RunF.gq rfl (o_not rfl) rfl ?_
  refine RunF.q (o_pick_f rfl rfl) rfl ?_
  refine AW.cond rfl (fun hc0 => absurd hc0 (by simp)) (fun hc0 => ?_)
  refine AW.skip ?_
  refine AW.seq ?_
  refine AW.region (by kernel_rfl) ?_
  refine RunF.q (o_load_agg rfl tk41 ts41 rfl rfl rfl nL) rfl ?_
  refine RunF.q (o_load_agg rfl tk24 ts24 rfl rfl rfl nL) rfl ?_
  refine RunF.q (o_load_agg rfl tk24 ts24 rfl rfl rfl nL) rfl ?_
  refine RunF.w (o_call (no := 6) (nr := 5) rfl rfl rfl nC (by rfl) (by exact hpr) (by rfl) rfl rfl nV nE) nH2 ?_
  refine RunF.q (o_move rfl) rfl ?_
  refine RunF.q (o_extract rfl rfl) rfl ?_
  refine RunF.q (o_extract rfl rfl) rfl ?_
  refine RunF.q (o_extract rfl rfl) rfl ?_
  refine RunF.w (o_alloc (nm := 8) tz41 rfl) nH2 ?_
  refine RunF.wn (o_store rfl rfl rfl ts41 rfl rfl) nH2 ?_
  refine RunF.q (o_assign rfl) rfl ?_
  refine RunF.q (o_assign rfl) rfl ?_
  refine AW.seq ?_
  refine AW.region (by kernel_rfl) ?_
  refine RunF.q (o_load_agg rfl tk41 ts41 rfl rfl rfl nL) rfl ?_
  refine RunF.q (o_load_agg rfl tk24 ts24 rfl rfl rfl nL) rfl ?_
  refine RunF.q (o_indexAddr_arr tk64 ts30 rfl rfl (by first | decide | (constructor <;> omega)) rfl) rfl ?_
  refine RunF.q (o_load rfl tk30 ts30 rfl rfl rfl) rfl ?_
  refine RunF.q (o_indexAddr_arr tk64 ts30 rfl rfl (by first | decide | (constructor <;> omega)) rfl) rfl ?_
  refine RunF.q (o_load rfl tk30 ts30 rfl rfl rfl) rfl ?_
  refine RunF.q (o_indexAddr_arr tk64 ts30 rfl rfl (by first | decide | (constructor <;> omega)) rfl) rfl ?_
  refine RunF.q (o_load rfl tk30 ts30 rfl rfl rfl) rfl ?_
  refine RunF.w (o_call (no := 9) (nr := 5) rfl rfl rfl nC (by rfl) (by exact hup) (by rfl) rfl rfl nV nE) nH2 ?_
  refine RunF.q (o_move rfl) rfl ?_
  refine RunF.q (o_extract rfl rfl) rfl ?_
  refine RunF.q (o_extract rfl rfl) rfl ?_
  refine RunF.q (o_extract rfl rfl) rfl ?_
  refine RunF.q (o_extract rfl rfl) rfl ?_
  refine RunF.w (o_alloc (nm := 11) tz41 rfl) nH2 ?_
  refine RunF.wn (o_store rfl rfl rfl ts41 rfl rfl) nH2 ?_
  refine RunF.q (o_assign rfl) rfl ?_
  refine RunF.q (o_assign rfl) rfl ?_
  refine RunF.q (o_assign rfl) rfl ?_
  refine AW.seq ?_
  refine AW.seq ?_
  refine AW.region (by kernel_rfl) ?_
  refine RunF.q (o_move rfl) rfl ?_
  refine RunF.q (o_eql rfl rfl) rfl ?_
  refine RunF.q (o_move rfl) rfl ?_
  refine RunF.gq rfl (o_load_agg rfl tk41 ts41 rfl rfl rfl nL) rfl ?_
  refine RunF.gq rfl (o_call (no := 12) (nr := 5) rfl rfl rfl nC (by rfl) (by exact r5right_is hr1) (by rfl) rfl rfl nV rfl) (by rfl) ?_
  refine RunF.gq rfl (o_not rfl) rfl ?_
  refine RunF.q (o_pick_t rfl rfl) rfl ?_
  refine RunF.q (o_move rfl) rfl ?_
  refine RunF.gq rfl (o_move rfl) rfl ?_
  refine RunF.gq rfl (o_eql rfl rfl) rfl ?_
  refine RunF.gq rfl (o_move rfl) rfl ?_
  refine RunF.gq rfl (o_load_agg rfl tk41 ts41 rfl rfl rfl nL) rfl ?_
  refine RunF.gq rfl (o_call (no := 12) (nr := 5) rfl rfl rfl nC (by rfl) (by exact r5right_is hr2) (by rfl) rfl rfl nV rfl) (by rfl) ?_
  refine RunF.gq rfl (o_not rfl) rfl ?_
  refine RunF.gq rfl (o_pick_t rfl rfl) rfl ?_
  refine RunF.q (o_pick_f rfl rfl) rfl ?_
  refine AW.cond rfl (fun hc1 => absurd hc1 (by simp)) (fun hc1 => ?_)
  refine AW.skip ?_
  refine AW.seq ?_
  refine AW.region (by kernel_rfl) ?_
  refine RunF.q (o_move rfl) rfl ?_
  refine RunF.q (o_move rfl) rfl ?_
  refine RunF.gq rfl (o_move rfl) rfl ?_
  refine RunF.gq rfl (o_neq rfl rfl) rfl ?_
  refine RunF.gq rfl (o_move rfl) rfl ?_
  refine RunF.gq rfl (o_move rfl) rfl ?_
  refine RunF.gq rfl (o_pick_f rfl rfl) rfl ?_
  refine RunF.gq rfl (o_move rfl) rfl ?_
  refine RunF.gs (b := true) rfl rfl ?_
  refine RunF.gs (b := true) rfl rfl ?_
  refine RunF.gs (b := true) rfl rfl ?_
  refine RunF.gq rfl (o_pick_t rfl rfl) rfl ?_
  refine RunF.q (o_pick_t rfl rfl) rfl ?_
  refine RunF.q (o_move rfl) rfl ?_
  refine RunF.gq rfl (o_load_agg rfl tk41 ts41 rfl rfl rfl nL) rfl ?_
  refine RunF.gq rfl (o_call (no := 12) (nr := 5) rfl rfl rfl nC (by rfl) (by exact kright_is hr) (by rfl) rfl rfl nV rfl) (by rfl) ?_
  refine RunF.q (o_pick_t rfl rfl) rfl ?_
  refine RunF.q (o_assign rfl) rfl ?_
  refine AW.ret ?_
  exact FinQ.ret [] [] (ress_tmp rfl ress_nil) rfl .nil (.cons rfl rfl nP (.cons rfl rfl nP (.cons rfl rfl nP (.cons rfl rfl nP (.cons rfl rfl nP .nil))))) nR

end Go.Proofs.Ytnkijhpikeokfaa

/- What is right off is taken, and leaves the numbers as they were; with a gate below 0 what is off isn't taken. -/
namespace Go.Proofs.Ytnkijhpikeokfaa
open Go Go.Sym Go.IntWalk

theorem offY_back {H x : List Int} {n : Nat} (h1 : -70368744177664 < offY H x n 0) (h2 : offY H x n 0 < 70368744177663) : offY H x n (0 - offY H x n 0) = 0 := by
  unfold offY subQ at *
  generalize (mulL H x 1 n 1).getD 0 0 = m at *
  unfold clampQ at *; omega
theorem offY_in (H x : List Int) (n : Nat) (z : Int) : -70368744177664 ≤ offY H x n z ∧ offY H x n z ≤ 70368744177663 := by
  unfold offY subQ clampQ; omega
theorem offS_in (H p : List Int) (n : Nat) (r : Int) : -70368744177664 ≤ offS H p n r ∧ offS H p n r ≤ 70368744177663 := by
  unfold offS addQ clampQ; omega
theorem signed_pos (n : Nat) : 0 ≤ signedQ ((n / 18446744073709551616 : Nat) : Int) ((n % 18446744073709551616 : Nat) : Int) false := by
  unfold signedQ clampQ
  simp only [Bool.false_eq_true, if_false]
  split <;> omega
theorem mulQ_sq (d : Int) : 0 ≤ mulQ d d := by
  have : mulZ d d = false := by unfold mulZ; simp
  unfold mulQ; rw [this]; exact signed_pos _
theorem mulQ_pos {s : Int} (hs : 0 < s) : 0 ≤ mulQ 16777216 s := by
  have e : clampQ (16777216 : Int) = 16777216 := by unfold clampQ; omega
  have : mulZ 16777216 s = false := by
    unfold mulZ; rw [e, decide_eq_false (show ¬ (16777216 : Int) < 0 by omega), decide_eq_false (show ¬ clampQ s < 0 by unfold clampQ; omega)]; rfl
  unfold mulQ; rw [this]; exact signed_pos _
theorem mulQ_below {s : Int} (h1 : 0 < s) (h2 : s ≤ 70368744177663) : mulQ (-16777216) s < 0 := by
  have e : clampQ (-16777216 : Int) = -16777216 := by unfold clampQ; omega
  have es : clampQ s = s := by unfold clampQ; omega
  have hz : mulZ (-16777216) s = true := by
    unfold mulZ; rw [e, es, decide_eq_true (show (-16777216 : Int) < 0 by omega), decide_eq_false (show ¬ s < 0 by omega)]; rfl
  have hn : mulN2 (-16777216) s = s.natAbs := by
    unfold mulN2; rw [e, es]
    show rnd24 (16777216 * s.natAbs) = _
    unfold rnd24
    rw [if_neg (by omega)]; omega
  unfold mulQ; rw [hn, hz]
  unfold signedQ
  rw [if_neg (by omega)]
  simp only [if_true]
  unfold clampQ; omega
theorem mulQ_zero_right (k : Int) : mulQ k 0 = 0 := by
  have h : mulN2 k 0 = 0 := by unfold mulN2 rnd24; rw [show (clampQ 0).natAbs = 0 from rfl, Nat.mul_zero]; decide
  unfold mulQ; rw [h]
  unfold signedQ
  rw [if_neg (by decide)]
  cases mulZ k 0 <;> rfl
theorem scale_zero (K : List Int) (r c : Nat) : scaleL K 0 r c = List.replicate (r * c) 0 := by
  refine List.ext_getElem (by simp [scaleL_length]) fun j h1 h2 => ?_
  simp only [scaleL, tab, List.getElem_map, List.getElem_range, List.getElem_replicate, mulQ_zero_right]
theorem takeX_zero {x : List Int} {n : Nat} (hx : x.length = n * 1) (hq : ∀ v ∈ x, inQ v) (K : List Int) : takeX x K 0 n = x := by
  unfold takeX; rw [scale_zero]; exact (add_zeros hx hq).1

set_option maxHeartbeats 1000000 in
theorem kGates_no1 (XR XC PR PC hR hC : Int) (r off : Int) (x p hl : List Int) (h1 : rightT XR XC x PR PC p = false) : SoundC Try.prog 11 [.agg [.int .i64 XR, .int .i64 XC, .sl (.r 0) 0 x.length 1 false, .int .i64 PR, .int .i64 PC, .sl (.r 1) 0 p.length 1 false, .int .i64 hR, .int .i64 hC, .sl (.r 2) 0 hl.length 1 false, .int .i64 r, .int .i64 off]] ⟨[ints x, ints p, ints hl], []⟩ { val := .bool true } := by
  refine SoundC.of (N := 162) Try.func11 rfl rfl rfl rfl ?_
  refine AW.seq ?_
  refine AW.region (by kernel_rfl) ?_
  refine RunF.w (o_box (nm := 0) rfl rfl rfl) nH ?_
  refine RunF.q (o_assign rfl) rfl ?_
  refine AW.seq ?_
  refine AW.region (by kernel_rfl) ?_
  refine RunF.q (o_fieldAddr rfl tk60 rfl ts41 rfl) rfl ?_
  refine RunF.q (o_load_agg rfl tk41 ts41 rfl rfl rfl nL) rfl ?_
  refine RunF.w (o_alloc (nm := 1) tz41 rfl) nH ?_
  refine RunF.wn (o_store rfl rfl rfl ts41 rfl rfl) nH ?_
  refine AW.seq ?_
  refine AW.region (by kernel_rfl) ?_
  refine RunF.q (o_fieldAddr rfl tk60 rfl ts24 rfl) rfl ?_
  refine RunF.q (o_load_agg rfl tk24 ts24 rfl rfl rfl nL) rfl ?_
  refine RunF.w (o_alloc (nm := 2) tz24 rfl) nH ?_
  refine RunF.wn (o_store rfl rfl rfl ts24 rfl rfl) nH ?_
  refine AW.seq ?_
  refine AW.region (by kernel_rfl) ?_
  refine RunF.q (o_fieldAddr rfl tk60 rfl ts30 rfl) rfl ?_
  refine RunF.q (o_load rfl tk30 ts30 rfl rfl rfl) rfl ?_
  refine RunF.q (o_assign rfl) rfl ?_
  refine AW.seq ?_
  refine AW.region (by kernel_rfl) ?_
  refine RunF.q (o_fieldAddr rfl tk60 rfl ts30 rfl) rfl ?_
  refine RunF.q (o_load rfl tk30 ts30 rfl rfl rfl) rfl ?_
  refine RunF.q (o_assign rfl) rfl ?_
  refine AW.seq ?_
  refine AW.region (by kernel_rfl) ?_
  refine RunF.q (o_call (no := 3) (nr := 3) rfl rfl rfl nC (by rfl) (by exact shown05_ok) (by rfl) rfl rfl nV rfl) (by rfl) ?_
  refine RunF.q (o_assign rfl) rfl ?_
  refine AW.seq ?_
  refine AW.seq ?_
  refine AW.region (by kernel_rfl) ?_
  refine RunF.q (o_load_agg rfl tk41 ts41 rfl rfl rfl nL) rfl ?_
  refine RunF.q (o_call (no := 3) (nr := 3) rfl rfl rfl nC (by rfl) (by exact r5right_is h1) (by rfl) rfl rfl nV rfl) (by rfl) ?_
  refine RunF.q (o_not rfl) rfl ?_
  refine RunF.q (o_move rfl) rfl ?_
  refine RunF.gs (b := true) rfl rfl ?_
  refine RunF.gs (b := true) rfl rfl ?_
  refine RunF.gs (b := true) rfl rfl ?_
  refine RunF.q (o_pick_t rfl rfl) rfl ?_
  refine RunF.q (o_move rfl) rfl ?_
  refine RunF.gs (b := true) rfl rfl ?_
  refine RunF.gs (b := true) rfl rfl ?_
  refine RunF.gs (b := true) rfl rfl ?_
  refine RunF.q (o_pick_t rfl rfl) rfl ?_
  refine RunF.q (o_move rfl) rfl ?_
  refine RunF.gs (b := true) rfl rfl ?_
  refine RunF.gs (b := true) rfl rfl ?_
  refine RunF.gs (b := true) rfl rfl ?_
  refine RunF.gs (b := true) rfl rfl ?_
  refine RunF.gs (b := true) rfl rfl ?_
  refine RunF.gs (b := true) rfl rfl ?_
  refine RunF.q (o_pick_t rfl rfl) rfl ?_
  refine RunF.q (o_move rfl) rfl ?_
  refine RunF.gs (b := true) rfl rfl ?_
  refine RunF.gs (b := true) rfl rfl ?_
  refine RunF.q (o_pick_t rfl rfl) rfl ?_
  refine AW.cond rfl (fun hc0 => ?_) (fun hc0 => absurd hc0 (by simp))
  refine AW.seq ?_
  refine AW.region (by kernel_rfl) ?_
  refine RunF.q (o_move rfl) rfl ?_
  refine RunF.q (o_assign rfl) rfl ?_
  refine AW.ret ?_
  exact FinQ.ret [] [] (ress_tmp rfl ress_nil) rfl .nil (.cons rfl rfl nP (.cons rfl rfl nP (.cons rfl rfl nP .nil))) nR

set_option maxHeartbeats 1000000 in
theorem kGates_no2 (XR XC PR PC hR hC : Int) (r off : Int) (x p hl : List Int) (h1 : rightT XR XC x PR PC p = true) (h2 : rightM hR hC hl = false) : SoundC Try.prog 11 [.agg [.int .i64 XR, .int .i64 XC, .sl (.r 0) 0 x.length 1 false, .int .i64 PR, .int .i64 PC, .sl (.r 1) 0 p.length 1 false, .int .i64 hR, .int .i64 hC, .sl (.r 2) 0 hl.length 1 false, .int .i64 r, .int .i64 off]] ⟨[ints x, ints p, ints hl], []⟩ { val := .bool true } := by
  refine SoundC.of (N := 162) Try.func11 rfl rfl rfl rfl ?_
  refine AW.seq ?_
  refine AW.region (by kernel_rfl) ?_
  refine RunF.w (o_box (nm := 0) rfl rfl rfl) nH ?_
  refine RunF.q (o_assign rfl) rfl ?_
  refine AW.seq ?_
  refine AW.region (by kernel_rfl) ?_
  refine RunF.q (o_fieldAddr rfl tk60 rfl ts41 rfl) rfl ?_
  refine RunF.q (o_load_agg rfl tk41 ts41 rfl rfl rfl nL) rfl ?_
  refine RunF.w (o_alloc (nm := 1) tz41 rfl) nH ?_
  refine RunF.wn (o_store rfl rfl rfl ts41 rfl rfl) nH ?_
  refine AW.seq ?_
  refine AW.region (by kernel_rfl) ?_
  refine RunF.q (o_fieldAddr rfl tk60 rfl ts24 rfl) rfl ?_
  refine RunF.q (o_load_agg rfl tk24 ts24 rfl rfl rfl nL) rfl ?_
  refine RunF.w (o_alloc (nm := 2) tz24 rfl) nH ?_
  refine RunF.wn (o_store rfl rfl rfl ts24 rfl rfl) nH ?_
  refine AW.seq ?_
  refine AW.region (by kernel_rfl) ?_
  refine RunF.q (o_fieldAddr rfl tk60 rfl ts30 rfl) rfl ?_
  refine RunF.q (o_load rfl tk30 ts30 rfl rfl rfl) rfl ?_
  refine RunF.q (o_assign rfl) rfl ?_
  refine AW.seq ?_
  refine AW.region (by kernel_rfl) ?_
  refine RunF.q (o_fieldAddr rfl tk60 rfl ts30 rfl) rfl ?_
  refine RunF.q (o_load rfl tk30 ts30 rfl rfl rfl) rfl ?_
  refine RunF.q (o_assign rfl) rfl ?_
  refine AW.seq ?_
  refine AW.region (by kernel_rfl) ?_
  refine RunF.q (o_call (no := 3) (nr := 3) rfl rfl rfl nC (by rfl) (by exact shown05_ok) (by rfl) rfl rfl nV rfl) (by rfl) ?_
  refine RunF.q (o_assign rfl) rfl ?_
  refine AW.seq ?_
  refine AW.seq ?_
  refine AW.region (by kernel_rfl) ?_
  refine RunF.q (o_load_agg rfl tk41 ts41 rfl rfl rfl nL) rfl ?_
  refine RunF.q (o_call (no := 3) (nr := 3) rfl rfl rfl nC (by rfl) (by exact r5right_is h1) (by rfl) rfl rfl nV rfl) (by rfl) ?_
  refine RunF.q (o_not rfl) rfl ?_
  refine RunF.q (o_move rfl) rfl ?_
  refine RunF.gq rfl (o_load_agg rfl tk24 ts24 rfl rfl rfl nL) rfl ?_
  refine RunF.gq rfl (o_call (no := 3) (nr := 3) rfl rfl rfl nC (by rfl) (by exact rright_is h2) (by rfl) rfl rfl nV rfl) (by rfl) ?_
  refine RunF.gq rfl (o_not rfl) rfl ?_
  refine RunF.q (o_pick_f rfl rfl) rfl ?_
  refine RunF.q (o_move rfl) rfl ?_
  refine RunF.gs (b := true) rfl rfl ?_
  refine RunF.gs (b := true) rfl rfl ?_
  refine RunF.gs (b := true) rfl rfl ?_
  refine RunF.q (o_pick_t rfl rfl) rfl ?_
  refine RunF.q (o_move rfl) rfl ?_
  refine RunF.gs (b := true) rfl rfl ?_
  refine RunF.gs (b := true) rfl rfl ?_
  refine RunF.gs (b := true) rfl rfl ?_
  refine RunF.gs (b := true) rfl rfl ?_
  refine RunF.gs (b := true) rfl rfl ?_
  refine RunF.gs (b := true) rfl rfl ?_
  refine RunF.q (o_pick_t rfl rfl) rfl ?_
  refine RunF.q (o_move rfl) rfl ?_
  refine RunF.gs (b := true) rfl rfl ?_
  refine RunF.gs (b := true) rfl rfl ?_
  refine RunF.q (o_pick_t rfl rfl) rfl ?_
  refine AW.cond rfl (fun hc0 => ?_) (fun hc0 => absurd hc0 (by simp))
  refine AW.seq ?_
  refine AW.region (by kernel_rfl) ?_
  refine RunF.q (o_move rfl) rfl ?_
  refine RunF.q (o_assign rfl) rfl ?_
  refine AW.ret ?_
  exact FinQ.ret [] [] (ress_tmp rfl ress_nil) rfl .nil (.cons rfl rfl nP (.cons rfl rfl nP (.cons rfl rfl nP .nil))) nR

set_option maxHeartbeats 1000000 in
theorem kGates_no3 (XR XC PR PC hR hC : Int) (r off : Int) (x p hl : List Int) (h1 : rightT XR XC x PR PC p = true) (h2 : rightM hR hC hl = true) (h3 : ¬ (hR = 1 ∧ hC = XR ∧ 0 < r)) : SoundC Try.prog 11 [.agg [.int .i64 XR, .int .i64 XC, .sl (.r 0) 0 x.length 1 false, .int .i64 PR, .int .i64 PC, .sl (.r 1) 0 p.length 1 false, .int .i64 hR, .int .i64 hC, .sl (.r 2) 0 hl.length 1 false, .int .i64 r, .int .i64 off]] ⟨[ints x, ints p, ints hl], []⟩ { val := .bool true } := by
  refine SoundC.of (N := 162) Try.func11 rfl rfl rfl rfl ?_
  refine AW.seq ?_
  refine AW.region (by kernel_rfl) ?_
  refine RunF.w (o_box (nm := 0) rfl rfl rfl) nH ?_
  refine RunF.q (o_assign rfl) rfl ?_
  refine AW.seq ?_
  refine AW.region (by kernel_rfl) ?_
  refine RunF.q (o_fieldAddr rfl tk60 rfl ts41 rfl) rfl ?_
  refine RunF.q (o_load_agg rfl tk41 ts41 rfl rfl rfl nL) rfl ?_
  refine RunF.w (o_alloc (nm := 1) tz41 rfl) nH ?_
  refine RunF.wn (o_store rfl rfl rfl ts41 rfl rfl) nH ?_
  refine AW.seq ?_
  refine AW.region (by kernel_rfl) ?_
  refine RunF.q (o_fieldAddr rfl tk60 rfl ts24 rfl) rfl ?_
  refine RunF.q (o_load_agg rfl tk24 ts24 rfl rfl rfl nL) rfl ?_
  refine RunF.w (o_alloc (nm := 2) tz24 rfl) nH ?_
  refine RunF.wn (o_store rfl rfl rfl ts24 rfl rfl) nH ?_
  refine AW.seq ?_
  refine AW.region (by kernel_rfl) ?_
  refine RunF.q (o_fieldAddr rfl tk60 rfl ts30 rfl) rfl ?_
  refine RunF.q (o_load rfl tk30 ts30 rfl rfl rfl) rfl ?_
  refine RunF.q (o_assign rfl) rfl ?_
  refine AW.seq ?_
  refine AW.region (by kernel_rfl) ?_
  refine RunF.q (o_fieldAddr rfl tk60 rfl ts30 rfl) rfl ?_
  refine RunF.q (o_load rfl tk30 ts30 rfl rfl rfl) rfl ?_
  refine RunF.q (o_assign rfl) rfl ?_
  refine AW.seq ?_
  refine AW.region (by kernel_rfl) ?_
  refine RunF.q (o_call (no := 3) (nr := 3) rfl rfl rfl nC (by rfl) (by exact shown05_ok) (by rfl) rfl rfl nV rfl) (by rfl) ?_
  refine RunF.q (o_assign rfl) rfl ?_
  refine AW.seq ?_
  refine AW.seq ?_
  refine AW.region (by kernel_rfl) ?_
  refine RunF.q (o_load_agg rfl tk41 ts41 rfl rfl rfl nL) rfl ?_
  refine RunF.q (o_call (no := 3) (nr := 3) rfl rfl rfl nC (by rfl) (by exact r5right_is h1) (by rfl) rfl rfl nV rfl) (by rfl) ?_
  refine RunF.q (o_not rfl) rfl ?_
  refine RunF.q (o_move rfl) rfl ?_
  refine RunF.gq rfl (o_load_agg rfl tk24 ts24 rfl rfl rfl nL) rfl ?_
  refine RunF.gq rfl (o_call (no := 3) (nr := 3) rfl rfl rfl nC (by rfl) (by exact rright_is h2) (by rfl) rfl rfl nV rfl) (by rfl) ?_
  refine RunF.gq rfl (o_not rfl) rfl ?_
  refine RunF.q (o_pick_f rfl rfl) rfl ?_
  refine RunF.q (o_move rfl) rfl ?_
  refine RunF.gq rfl (o_fieldAddr rfl tk24 rfl ts3 rfl) rfl ?_
  refine RunF.gq rfl (o_load rfl tk3 ts3 rfl rfl rfl) rfl ?_
  refine RunF.gq rfl (o_neq rfl rfl) rfl ?_
  refine RunF.q (o_pick_f rfl rfl) rfl ?_
  refine RunF.br (o_move rfl) rfl (fun hb6_13 => ?_) (fun hb6_13 => ?_)
  · try simp only [decide_eq_true_eq, decide_eq_false_iff_not, bne_iff_ne, beq_iff_eq, bne_eq_false_iff_eq, beq_eq_false_iff_ne, ne_eq, Bool.not_eq_true', Bool.not_eq_false'] at hb6_13
    refine RunF.gs (b := true) rfl rfl ?_
    refine RunF.gs (b := true) rfl rfl ?_
    refine RunF.gs (b := true) rfl rfl ?_
    refine RunF.gs (b := true) rfl rfl ?_
    refine RunF.gs (b := true) rfl rfl ?_
    refine RunF.gs (b := true) rfl rfl ?_
    refine RunF.q (o_pick_t rfl rfl) rfl ?_
    refine RunF.q (o_move rfl) rfl ?_
    refine RunF.gs (b := true) rfl rfl ?_
    refine RunF.gs (b := true) rfl rfl ?_
    refine RunF.q (o_pick_t rfl rfl) rfl ?_
    refine AW.cond rfl (fun hc0 => ?_) (fun hc0 => absurd hc0 (by first | (intro h; cases h; done) | (intro h; simp at h; exact h3 ⟨hb6_13, hb6_21, h⟩)))
    refine AW.seq ?_
    refine AW.region (by kernel_rfl) ?_
    refine RunF.q (o_move rfl) rfl ?_
    refine RunF.q (o_assign rfl) rfl ?_
    refine AW.ret ?_
    exact FinQ.ret [] [] (ress_tmp rfl ress_nil) rfl .nil (.cons rfl rfl nP (.cons rfl rfl nP (.cons rfl rfl nP .nil))) nR
  · try simp only [decide_eq_true_eq, decide_eq_false_iff_not, bne_iff_ne, beq_iff_eq, bne_eq_false_iff_eq, beq_eq_false_iff_ne, ne_eq, Bool.not_eq_true', Bool.not_eq_false'] at hb6_13
    refine RunF.gq rfl (o_fieldAddr rfl tk24 rfl ts3 rfl) rfl ?_
    refine RunF.gq rfl (o_load rfl tk3 ts3 rfl rfl rfl) rfl ?_
    refine RunF.gq rfl (o_fieldAddr rfl tk41 rfl ts24 rfl) rfl ?_
    refine RunF.gq rfl (o_fieldAddr rfl tk24 rfl ts3 rfl) rfl ?_
    refine RunF.gq rfl (o_load rfl tk3 ts3 rfl rfl rfl) rfl ?_
    refine RunF.gq rfl (o_neq rfl rfl) rfl ?_
    refine RunF.q (o_pick_f rfl rfl) rfl ?_
    refine RunF.br (o_move rfl) rfl (fun hb6_21 => ?_) (fun hb6_21 => ?_)
    · try simp only [decide_eq_true_eq, decide_eq_false_iff_not, bne_iff_ne, beq_iff_eq, bne_eq_false_iff_eq, beq_eq_false_iff_ne, ne_eq, Bool.not_eq_true', Bool.not_eq_false'] at hb6_21
      refine RunF.gs (b := true) rfl rfl ?_
      refine RunF.gs (b := true) rfl rfl ?_
      refine RunF.q (o_pick_t rfl rfl) rfl ?_
      refine AW.cond rfl (fun hc0 => ?_) (fun hc0 => absurd hc0 (by first | (intro h; cases h; done) | (intro h; simp at h; exact h3 ⟨hb6_13, hb6_21, h⟩)))
      refine AW.seq ?_
      refine AW.region (by kernel_rfl) ?_
      refine RunF.q (o_move rfl) rfl ?_
      refine RunF.q (o_assign rfl) rfl ?_
      refine AW.ret ?_
      exact FinQ.ret [] [] (ress_tmp rfl ress_nil) rfl .nil (.cons rfl rfl nP (.cons rfl rfl nP (.cons rfl rfl nP .nil))) nR
    · try simp only [decide_eq_true_eq, decide_eq_false_iff_not, bne_iff_ne, beq_iff_eq, bne_eq_false_iff_eq, beq_eq_false_iff_ne, ne_eq, Bool.not_eq_true', Bool.not_eq_false'] at hb6_21
      refine RunF.gq rfl (o_move rfl) rfl ?_
      refine RunF.gq rfl (o_leq rfl rfl) rfl ?_
      refine RunF.q (o_pick_f rfl rfl) rfl ?_
      refine AW.cond rfl (fun hc0 => ?_) (fun hc0 => absurd hc0 (by first | (intro h; cases h; done) | (intro h; simp at h; exact h3 ⟨hb6_13, hb6_21, h⟩)))
      refine AW.seq ?_
      refine AW.region (by kernel_rfl) ?_
      refine RunF.q (o_move rfl) rfl ?_
      refine RunF.q (o_assign rfl) rfl ?_
      refine AW.ret ?_
      exact FinQ.ret [] [] (ress_tmp rfl ress_nil) rfl .nil (.cons rfl rfl nP (.cons rfl rfl nP (.cons rfl rfl nP .nil))) nR

set_option maxHeartbeats 1000000 in
theorem kGates_upss (n : Nat) (n0 : 0 < n) (n8 : n ≤ 8) (r off : Int) (x p hl : List Int) (hx : x.length = n * 1) (hp : p.length = n * n) (hH : hl.length = 1 * n) (hr : 0 < r) (h1 : rightT n 1 x n n p = true) (h2 : rightM 1 n hl = true) (hA : (offY hl x n 0) ≤ -70368744177664 ∨ (offY hl x n 0) ≥ 70368744177663 ∨ (offS hl p n r) < 16777216) (w1 : Bool) (hup1 : SoundC Try.prog 37 [.agg [.int .i64 n, .int .i64 1, .sl (.r 0) 0 x.length 1 false, .int .i64 n, .int .i64 n, .sl (.r 1) 0 p.length 1 false], .agg [.int .i64 1, .int .i64 n, .sl (.r 2) 0 hl.length 1 false], .int .i64 (0 - (offY hl x n 0)), .int .i64 r, .int .i64 16777216] ⟨[ints x, ints p, ints hl], []⟩ { val := .tuple [.agg [.int .i64 n, .int .i64 1, .sl (.r 0) 0 x.length 1 false, .int .i64 n, .int .i64 n, .sl (.r 1) 0 p.length 1 false], .bool false, .bool w1, .int .i64 0] }) (w2 : Bool) (hup2 : SoundC Try.prog 37 [.agg [.int .i64 n, .int .i64 1, .sl (.r 0) 0 x.length 1 false, .int .i64 n, .int .i64 n, .sl (.r 1) 0 p.length 1 false], .agg [.int .i64 1, .int .i64 n, .sl (.r 2) 0 hl.length 1 false], .int .i64 off, .int .i64 r, .int .i64 (-16777216)] ⟨[ints x, ints p, ints hl], []⟩ { val := .tuple [.agg [.int .i64 n, .int .i64 1, .sl (.r 0) 0 x.length 1 false, .int .i64 n, .int .i64 n, .sl (.r 1) 0 p.length 1 false], .bool false, .bool w2, .int .i64 0] }) : SoundC Try.prog 11 [.agg [.int .i64 n, .int .i64 1, .sl (.r 0) 0 x.length 1 false, .int .i64 n, .int .i64 n, .sl (.r 1) 0 p.length 1 false, .int .i64 1, .int .i64 n, .sl (.r 2) 0 hl.length 1 false, .int .i64 r, .int .i64 off]] ⟨[ints x, ints p, ints hl], []⟩ { val := .bool true } := by
  have hy := offY_in hl x n 0
  refine SoundC.of (N := 162) Try.func11 rfl rfl rfl rfl ?_
  refine AW.seq ?_
  refine AW.region (by kernel_rfl) ?_
  refine RunF.w (o_box (nm := 0) rfl rfl rfl) nH2 ?_
  refine RunF.q (o_assign rfl) rfl ?_
  refine AW.seq ?_
  refine AW.region (by kernel_rfl) ?_
  refine RunF.q (o_fieldAddr rfl tk60 rfl ts41 rfl) rfl ?_
  refine RunF.q (o_load_agg rfl tk41 ts41 rfl rfl rfl nL) rfl ?_
  refine RunF.w (o_alloc (nm := 1) tz41 rfl) nH2 ?_
  refine RunF.wn (o_store rfl rfl rfl ts41 rfl rfl) nH2 ?_
  refine AW.seq ?_
  refine AW.region (by kernel_rfl) ?_
  refine RunF.q (o_fieldAddr rfl tk60 rfl ts24 rfl) rfl ?_
  refine RunF.q (o_load_agg rfl tk24 ts24 rfl rfl rfl nL) rfl ?_
  refine RunF.w (o_alloc (nm := 2) tz24 rfl) nH2 ?_
  refine RunF.wn (o_store rfl rfl rfl ts24 rfl rfl) nH2 ?_
  refine AW.seq ?_
  refine AW.region (by kernel_rfl) ?_
  refine RunF.q (o_fieldAddr rfl tk60 rfl ts30 rfl) rfl ?_
  refine RunF.q (o_load rfl tk30 ts30 rfl rfl rfl) rfl ?_
  refine RunF.q (o_assign rfl) rfl ?_
  refine AW.seq ?_
  refine AW.region (by kernel_rfl) ?_
  refine RunF.q (o_fieldAddr rfl tk60 rfl ts30 rfl) rfl ?_
  refine RunF.q (o_load rfl tk30 ts30 rfl rfl rfl) rfl ?_
  refine RunF.q (o_assign rfl) rfl ?_
  refine AW.seq ?_
  refine AW.region (by kernel_rfl) ?_
  refine RunF.q (o_call (no := 3) (nr := 3) rfl rfl rfl nC (by rfl) (by exact shown05_ok) (by rfl) rfl rfl nV rfl) (by rfl) ?_
  refine RunF.q (o_assign rfl) rfl ?_
  refine AW.seq ?_
  refine AW.seq ?_
  refine AW.region (by kernel_rfl) ?_
  refine RunF.q (o_load_agg rfl tk41 ts41 rfl rfl rfl nL) rfl ?_
  refine RunF.q (o_call (no := 3) (nr := 3) rfl rfl rfl nC (by rfl) (by exact r5right_is h1) (by rfl) rfl rfl nV rfl) (by rfl) ?_
  refine RunF.q (o_not rfl) rfl ?_
  refine RunF.q (o_move rfl) rfl ?_
  refine RunF.gq rfl (o_load_agg rfl tk24 ts24 rfl rfl rfl nL) rfl ?_
  refine RunF.gq rfl (o_call (no := 3) (nr := 3) rfl rfl rfl nC (by rfl) (by exact rright_is h2) (by rfl) rfl rfl nV rfl) (by rfl) ?_
  refine RunF.gq rfl (o_not rfl) rfl ?_
  refine RunF.q (o_pick_f rfl rfl) rfl ?_
  refine RunF.q (o_move rfl) rfl ?_
  refine RunF.gq rfl (o_fieldAddr rfl tk24 rfl ts3 rfl) rfl ?_
  refine RunF.gq rfl (o_load rfl tk3 ts3 rfl rfl rfl) rfl ?_
  refine RunF.gq rfl (o_bin (v := .bool false) rfl rfl (by simp only [binA]; rfl)) rfl ?_
  refine RunF.q (o_pick_f rfl rfl) rfl ?_
  refine RunF.q (o_move rfl) rfl ?_
  refine RunF.gq rfl (o_fieldAddr rfl tk24 rfl ts3 rfl) rfl ?_
  refine RunF.gq rfl (o_load rfl tk3 ts3 rfl rfl rfl) rfl ?_
  refine RunF.gq rfl (o_fieldAddr rfl tk41 rfl ts24 rfl) rfl ?_
  refine RunF.gq rfl (o_fieldAddr rfl tk24 rfl ts3 rfl) rfl ?_
  refine RunF.gq rfl (o_load rfl tk3 ts3 rfl rfl rfl) rfl ?_
  refine RunF.gq rfl (o_bin (v := .bool false) rfl rfl (by simp only [binA]; simp)) rfl ?_
  refine RunF.q (o_pick_f rfl rfl) rfl ?_
  refine RunF.q (o_move rfl) rfl ?_
  refine RunF.gq rfl (o_move rfl) rfl ?_
  refine RunF.gq rfl (o_leq rfl rfl) rfl ?_
  refine RunF.q (o_pick_f rfl rfl) rfl ?_
  refine AW.cond rfl (fun hc0 => absurd hc0 (by intro h; simp at h; omega)) (fun hc0 => ?_)
  refine AW.skip ?_
  refine AW.seq ?_
  refine AW.region (by kernel_rfl) ?_
  refine RunF.q (o_load_agg rfl tk41 ts41 rfl rfl rfl nL) rfl ?_
  refine RunF.q (o_load_agg rfl tk24 ts24 rfl rfl rfl nL) rfl ?_
  refine RunF.q (o_move rfl) rfl ?_
  refine RunF.q (o_call (no := 3) (nr := 3) rfl rfl rfl nC (by rfl) (by exact Innov_ok n n0 n8 x p hl hx hp hH false false false 0 r hr) (by rfl) rfl rfl nV rfl) (by rfl) ?_
  refine RunF.q (o_move rfl) rfl ?_
  refine RunF.q (o_extract rfl rfl) rfl ?_
  refine RunF.q (o_extract rfl rfl) rfl ?_
  refine RunF.q (o_extract rfl rfl) rfl ?_
  refine RunF.q (o_extract rfl rfl) rfl ?_
  refine RunF.q (o_assign rfl) rfl ?_
  refine RunF.q (o_assign rfl) rfl ?_
  refine RunF.q (o_assign rfl) rfl ?_
  refine RunF.q (o_assign rfl) rfl ?_
  refine AW.seq ?_
  refine AW.region (by kernel_rfl) ?_
  refine RunF.q (o_move rfl) rfl ?_
  refine RunF.q (o_sub rfl rfl (by first | exact i64_in _ (by omega) | rfl)) rfl ?_
  refine RunF.q (o_assign rfl) rfl ?_
  refine AW.seq ?_
  refine AW.region (by kernel_rfl) ?_
  refine RunF.q (o_load_agg rfl tk41 ts41 rfl rfl rfl nL) rfl ?_
  refine RunF.q (o_load_agg rfl tk24 ts24 rfl rfl rfl nL) rfl ?_
  refine RunF.q (o_move rfl) rfl ?_
  refine RunF.q (o_move rfl) rfl ?_
  refine RunF.q (o_call (no := 3) (nr := 3) rfl rfl rfl nC (by rfl) (by exact hup1) (by rfl) rfl rfl nV rfl) (by rfl) ?_
  refine RunF.q (o_move rfl) rfl ?_
  refine RunF.q (o_extract rfl rfl) rfl ?_
  refine RunF.q (o_extract rfl rfl) rfl ?_
  refine RunF.q (o_extract rfl rfl) rfl ?_
  refine RunF.q (o_extract rfl rfl) rfl ?_
  refine RunF.w (o_alloc (nm := 3) tz41 rfl) nH2 ?_
  refine RunF.wn (o_store rfl rfl rfl ts41 rfl rfl) nH2 ?_
  refine RunF.q (o_assign rfl) rfl ?_
  refine RunF.q (o_assign rfl) rfl ?_
  refine RunF.q (o_assign rfl) rfl ?_
  refine AW.seq ?_
  refine AW.region (by kernel_rfl) ?_
  refine RunF.q (o_load_agg rfl tk41 ts41 rfl rfl rfl nL) rfl ?_
  refine RunF.q (o_load_agg rfl tk24 ts24 rfl rfl rfl nL) rfl ?_
  refine RunF.q (o_move rfl) rfl ?_
  refine RunF.q (o_move rfl) rfl ?_
  refine RunF.q (o_call (no := 4) (nr := 3) rfl rfl rfl nC (by rfl) (by exact hup2) (by rfl) rfl rfl nV rfl) (by rfl) ?_
  refine RunF.q (o_move rfl) rfl ?_
  refine RunF.q (o_extract rfl rfl) rfl ?_
  refine RunF.q (o_extract rfl rfl) rfl ?_
  refine RunF.q (o_extract rfl rfl) rfl ?_
  refine RunF.q (o_extract rfl rfl) rfl ?_
  refine RunF.w (o_alloc (nm := 4) tz41 rfl) nH2 ?_
  refine RunF.wn (o_store rfl rfl rfl ts41 rfl rfl) nH2 ?_
  refine RunF.q (o_assign rfl) rfl ?_
  refine RunF.q (o_assign rfl) rfl ?_
  refine RunF.q (o_assign rfl) rfl ?_
  refine AW.seq ?_
  refine AW.region (by kernel_rfl) ?_
  refine RunF.q (o_load_agg rfl tk41 ts41 rfl rfl rfl nL) rfl ?_
  refine RunF.q (o_load_agg rfl tk24 ts24 rfl rfl rfl nL) rfl ?_
  refine RunF.q (o_move rfl) rfl ?_
  refine RunF.q (o_move rfl) rfl ?_
  refine RunF.q (o_call (no := 5) (nr := 3) rfl rfl rfl nC (by rfl) (by exact Innov_ok n n0 n8 x p hl hx hp hH false false false off r hr) (by rfl) rfl rfl nV rfl) (by rfl) ?_
  refine RunF.q (o_move rfl) rfl ?_
  refine RunF.q (o_extract rfl rfl) rfl ?_
  refine RunF.q (o_extract rfl rfl) rfl ?_
  refine RunF.q (o_extract rfl rfl) rfl ?_
  refine RunF.q (o_extract rfl rfl) rfl ?_
  refine RunF.q (o_assign rfl) rfl ?_
  refine RunF.q (o_assign rfl) rfl ?_
  refine RunF.q (o_assign rfl) rfl ?_
  refine RunF.q (o_assign rfl) rfl ?_
  refine AW.seq ?_
  refine AW.seq ?_
  refine AW.region (by kernel_rfl) ?_
  refine RunF.q (o_move rfl) rfl ?_
  refine RunF.q (o_neq rfl rfl) rfl ?_
  refine RunF.q (o_move rfl) rfl ?_
  refine RunF.gq rfl (o_move rfl) rfl ?_
  refine RunF.gq rfl (o_neq rfl rfl) rfl ?_
  refine RunF.q (o_pick_f rfl rfl) rfl ?_
  refine RunF.q (o_move rfl) rfl ?_
  refine RunF.gq rfl (o_move rfl) rfl ?_
  refine RunF.gq rfl (o_neq rfl rfl) rfl ?_
  refine RunF.q (o_pick_f rfl rfl) rfl ?_
  refine AW.cond rfl (fun hc1 => absurd hc1 (by simp)) (fun hc1 => ?_)
  refine AW.skip ?_
  refine AW.seq ?_
  refine AW.seq ?_
  refine AW.region (by kernel_rfl) ?_
  refine RunF.q (o_move rfl) rfl ?_
  refine RunF.q (o_leq rfl rfl) rfl ?_
  refine RunF.br (o_move rfl) rfl (fun hb15_2 => ?_) (fun hb15_2 => ?_)
  · try simp only [decide_eq_true_eq, decide_eq_false_iff_not, bne_iff_ne, beq_iff_eq, bne_eq_false_iff_eq, beq_eq_false_iff_ne, ne_eq, Bool.not_eq_true', Bool.not_eq_false'] at hb15_2
    refine RunF.gs (b := true) rfl rfl ?_
    refine RunF.gs (b := true) rfl rfl ?_
    refine RunF.q (o_pick_t rfl rfl) rfl ?_
    refine RunF.q (o_move rfl) rfl ?_
    refine RunF.gs (b := true) rfl rfl ?_
    refine RunF.gs (b := true) rfl rfl ?_
    refine RunF.q (o_pick_t rfl rfl) rfl ?_
    refine AW.cond rfl (fun hc2 => ?_) (fun hc2 => absurd hc2 (by first | (intro h; cases h; done) | (intro h; simp at h; omega)))
    refine AW.seq ?_
    refine AW.region (by kernel_rfl) ?_
    refine RunF.q (o_move rfl) rfl ?_
    refine RunF.q (o_assign rfl) rfl ?_
    refine AW.ret ?_
    exact FinQ.ret [] [] (ress_tmp rfl ress_nil) rfl .nil (.cons rfl rfl nP (.cons rfl rfl nP (.cons rfl rfl nP .nil))) nR
  · try simp only [decide_eq_true_eq, decide_eq_false_iff_not, bne_iff_ne, beq_iff_eq, bne_eq_false_iff_eq, beq_eq_false_iff_ne, ne_eq, Bool.not_eq_true', Bool.not_eq_false'] at hb15_2
    refine RunF.gq rfl (o_move rfl) rfl ?_
    refine RunF.gq rfl (o_geq rfl rfl) rfl ?_
    refine RunF.q (o_pick_f rfl rfl) rfl ?_
    refine RunF.br (o_move rfl) rfl (fun hb15_6 => ?_) (fun hb15_6 => ?_)
    · try simp only [decide_eq_true_eq, decide_eq_false_iff_not, bne_iff_ne, beq_iff_eq, bne_eq_false_iff_eq, beq_eq_false_iff_ne, ne_eq, Bool.not_eq_true', Bool.not_eq_false'] at hb15_6
      refine RunF.gs (b := true) rfl rfl ?_
      refine RunF.gs (b := true) rfl rfl ?_
      refine RunF.q (o_pick_t rfl rfl) rfl ?_
      refine AW.cond rfl (fun hc2 => ?_) (fun hc2 => absurd hc2 (by first | (intro h; cases h; done) | (intro h; simp at h; omega)))
      refine AW.seq ?_
      refine AW.region (by kernel_rfl) ?_
      refine RunF.q (o_move rfl) rfl ?_
      refine RunF.q (o_assign rfl) rfl ?_
      refine AW.ret ?_
      exact FinQ.ret [] [] (ress_tmp rfl ress_nil) rfl .nil (.cons rfl rfl nP (.cons rfl rfl nP (.cons rfl rfl nP .nil))) nR
    · try simp only [decide_eq_true_eq, decide_eq_false_iff_not, bne_iff_ne, beq_iff_eq, bne_eq_false_iff_eq, beq_eq_false_iff_ne, ne_eq, Bool.not_eq_true', Bool.not_eq_false'] at hb15_6
      refine RunF.gq rfl (o_move rfl) rfl ?_
      refine RunF.gq rfl (o_lss rfl rfl) rfl ?_
      refine RunF.q (o_pick_f rfl rfl) rfl ?_
      refine AW.cond rfl (fun hc2 => ?_) (fun hc2 => absurd hc2 (by first | (intro h; cases h; done) | (intro h; simp at h; omega)))
      refine AW.seq ?_
      refine AW.region (by kernel_rfl) ?_
      refine RunF.q (o_move rfl) rfl ?_
      refine RunF.q (o_assign rfl) rfl ?_
      refine AW.ret ?_
      exact FinQ.ret [] [] (ress_tmp rfl ress_nil) rfl .nil (.cons rfl rfl nP (.cons rfl rfl nP (.cons rfl rfl nP .nil))) nR

set_option maxHeartbeats 1000000 in
theorem kGates_upst (n : Nat) (n0 : 0 < n) (n8 : n ≤ 8) (r off : Int) (x p hl : List Int) (hx : x.length = n * 1) (hp : p.length = n * n) (hH : hl.length = 1 * n) (hr : 0 < r) (h1 : rightT n 1 x n n p = true) (h2 : rightM 1 n hl = true) (hA : (offY hl x n 0) ≤ -70368744177664 ∨ (offY hl x n 0) ≥ 70368744177663 ∨ (offS hl p n r) < 16777216) (w1 : Bool) (hup1 : SoundC Try.prog 37 [.agg [.int .i64 n, .int .i64 1, .sl (.r 0) 0 x.length 1 false, .int .i64 n, .int .i64 n, .sl (.r 1) 0 p.length 1 false], .agg [.int .i64 1, .int .i64 n, .sl (.r 2) 0 hl.length 1 false], .int .i64 (0 - (offY hl x n 0)), .int .i64 r, .int .i64 16777216] ⟨[ints x, ints p, ints hl], []⟩ { val := .tuple [.agg [.int .i64 n, .int .i64 1, .sl (.r 0) 0 x.length 1 false, .int .i64 n, .int .i64 n, .sl (.r 1) 0 p.length 1 false], .bool false, .bool w1, .int .i64 0] }) (w2 : Bool) (X2 P2 : List Int) (hup2 : SoundC Try.prog 37 [.agg [.int .i64 n, .int .i64 1, .sl (.r 0) 0 x.length 1 false, .int .i64 n, .int .i64 n, .sl (.r 1) 0 p.length 1 false], .agg [.int .i64 1, .int .i64 n, .sl (.r 2) 0 hl.length 1 false], .int .i64 off, .int .i64 r, .int .i64 (-16777216)] ⟨[ints x, ints p, ints hl], []⟩ { val := .tuple [.agg [.int .i64 n, .int .i64 1, .sl (.o 0) 0 X2.length 1 false, .int .i64 n, .int .i64 n, .sl (.o 1) 0 P2.length 1 false], .bool true, .bool w2, .int .i64 0], newo := [ints X2, ints P2] }) : SoundC Try.prog 11 [.agg [.int .i64 n, .int .i64 1, .sl (.r 0) 0 x.length 1 false, .int .i64 n, .int .i64 n, .sl (.r 1) 0 p.length 1 false, .int .i64 1, .int .i64 n, .sl (.r 2) 0 hl.length 1 false, .int .i64 r, .int .i64 off]] ⟨[ints x, ints p, ints hl], []⟩ { val := .bool true } := by
  have hy := offY_in hl x n 0
  refine SoundC.of (N := 162) Try.func11 rfl rfl rfl rfl ?_
  refine AW.seq ?_
  refine AW.region (by kernel_rfl) ?_
  refine RunF.w (o_box (nm := 0) rfl rfl rfl) nH2 ?_
  refine RunF.q (o_assign rfl) rfl ?_
  refine AW.seq ?_
  refine AW.region (by kernel_rfl) ?_
  refine RunF.q (o_fieldAddr rfl tk60 rfl ts41 rfl) rfl ?_
  refine RunF.q (o_load_agg rfl tk41 ts41 rfl rfl rfl nL) rfl ?_
  refine RunF.w (o_alloc (nm := 1) tz41 rfl) nH2 ?_
  refine RunF.wn (o_store rfl rfl rfl ts41 rfl rfl) nH2 ?_
  refine AW.seq ?_
  refine AW.region (by kernel_rfl) ?_
  refine RunF.q (o_fieldAddr rfl tk60 rfl ts24 rfl) rfl ?_
  refine RunF.q (o_load_agg rfl tk24 ts24 rfl rfl rfl nL) rfl ?_
  refine RunF.w (o_alloc (nm := 2) tz24 rfl) nH2 ?_
  refine RunF.wn (o_store rfl rfl rfl ts24 rfl rfl) nH2 ?_
  refine AW.seq ?_
  refine AW.region (by kernel_rfl) ?_
  refine RunF.q (o_fieldAddr rfl tk60 rfl ts30 rfl) rfl ?_
  refine RunF.q (o_load rfl tk30 ts30 rfl rfl rfl) rfl ?_
  refine RunF.q (o_assign rfl) rfl ?_
  refine AW.seq ?_
  refine AW.region (by kernel_rfl) ?_
  refine RunF.q (o_fieldAddr rfl tk60 rfl ts30 rfl) rfl ?_
  refine RunF.q (o_load rfl tk30 ts30 rfl rfl rfl) rfl ?_
  refine RunF.q (o_assign rfl) rfl ?_
  refine AW.seq ?_
  refine AW.region (by kernel_rfl) ?_
  refine RunF.q (o_call (no := 3) (nr := 3) rfl rfl rfl nC (by rfl) (by exact shown05_ok) (by rfl) rfl rfl nV rfl) (by rfl) ?_
  refine RunF.q (o_assign rfl) rfl ?_
  refine AW.seq ?_
  refine AW.seq ?_
  refine AW.region (by kernel_rfl) ?_
  refine RunF.q (o_load_agg rfl tk41 ts41 rfl rfl rfl nL) rfl ?_
  refine RunF.q (o_call (no := 3) (nr := 3) rfl rfl rfl nC (by rfl) (by exact r5right_is h1) (by rfl) rfl rfl nV rfl) (by rfl) ?_
  refine RunF.q (o_not rfl) rfl ?_
  refine RunF.q (o_move rfl) rfl ?_
  refine RunF.gq rfl (o_load_agg rfl tk24 ts24 rfl rfl rfl nL) rfl ?_
  refine RunF.gq rfl (o_call (no := 3) (nr := 3) rfl rfl rfl nC (by rfl) (by exact rright_is h2) (by rfl) rfl rfl nV rfl) (by rfl) ?_
  refine RunF.gq rfl (o_not rfl) rfl ?_
  refine RunF.q (o_pick_f rfl rfl) rfl ?_
  refine RunF.q (o_move rfl) rfl ?_
  refine RunF.gq rfl (o_fieldAddr rfl tk24 rfl ts3 rfl) rfl ?_
  refine RunF.gq rfl (o_load rfl tk3 ts3 rfl rfl rfl) rfl ?_
  refine RunF.gq rfl (o_bin (v := .bool false) rfl rfl (by simp only [binA]; rfl)) rfl ?_
  refine RunF.q (o_pick_f rfl rfl) rfl ?_
  refine RunF.q (o_move rfl) rfl ?_
  refine RunF.gq rfl (o_fieldAddr rfl tk24 rfl ts3 rfl) rfl ?_
  refine RunF.gq rfl (o_load rfl tk3 ts3 rfl rfl rfl) rfl ?_
  refine RunF.gq rfl (o_fieldAddr rfl tk41 rfl ts24 rfl) rfl ?_
  refine RunF.gq rfl (o_fieldAddr rfl tk24 rfl ts3 rfl) rfl ?_
  refine RunF.gq rfl (o_load rfl tk3 ts3 rfl rfl rfl) rfl ?_
  refine RunF.gq rfl (o_bin (v := .bool false) rfl rfl (by simp only [binA]; simp)) rfl ?_
  refine RunF.q (o_pick_f rfl rfl) rfl ?_
  refine RunF.q (o_move rfl) rfl ?_
  refine RunF.gq rfl (o_move rfl) rfl ?_
  refine RunF.gq rfl (o_leq rfl rfl) rfl ?_
  refine RunF.q (o_pick_f rfl rfl) rfl ?_
  refine AW.cond rfl (fun hc0 => absurd hc0 (by intro h; simp at h; omega)) (fun hc0 => ?_)
  refine AW.skip ?_
  refine AW.seq ?_
  refine AW.region (by kernel_rfl) ?_
  refine RunF.q (o_load_agg rfl tk41 ts41 rfl rfl rfl nL) rfl ?_
  refine RunF.q (o_load_agg rfl tk24 ts24 rfl rfl rfl nL) rfl ?_
  refine RunF.q (o_move rfl) rfl ?_
  refine RunF.q (o_call (no := 3) (nr := 3) rfl rfl rfl nC (by rfl) (by exact Innov_ok n n0 n8 x p hl hx hp hH false false false 0 r hr) (by rfl) rfl rfl nV rfl) (by rfl) ?_
  refine RunF.q (o_move rfl) rfl ?_
  refine RunF.q (o_extract rfl rfl) rfl ?_
  refine RunF.q (o_extract rfl rfl) rfl ?_
  refine RunF.q (o_extract rfl rfl) rfl ?_
  refine RunF.q (o_extract rfl rfl) rfl ?_
  refine RunF.q (o_assign rfl) rfl ?_
  refine RunF.q (o_assign rfl) rfl ?_
  refine RunF.q (o_assign rfl) rfl ?_
  refine RunF.q (o_assign rfl) rfl ?_
  refine AW.seq ?_
  refine AW.region (by kernel_rfl) ?_
  refine RunF.q (o_move rfl) rfl ?_
  refine RunF.q (o_sub rfl rfl (by first | exact i64_in _ (by omega) | rfl)) rfl ?_
  refine RunF.q (o_assign rfl) rfl ?_
  refine AW.seq ?_
  refine AW.region (by kernel_rfl) ?_
  refine RunF.q (o_load_agg rfl tk41 ts41 rfl rfl rfl nL) rfl ?_
  refine RunF.q (o_load_agg rfl tk24 ts24 rfl rfl rfl nL) rfl ?_
  refine RunF.q (o_move rfl) rfl ?_
  refine RunF.q (o_move rfl) rfl ?_
  refine RunF.q (o_call (no := 3) (nr := 3) rfl rfl rfl nC (by rfl) (by exact hup1) (by rfl) rfl rfl nV rfl) (by rfl) ?_
  refine RunF.q (o_move rfl) rfl ?_
  refine RunF.q (o_extract rfl rfl) rfl ?_
  refine RunF.q (o_extract rfl rfl) rfl ?_
  refine RunF.q (o_extract rfl rfl) rfl ?_
  refine RunF.q (o_extract rfl rfl) rfl ?_
  refine RunF.w (o_alloc (nm := 3) tz41 rfl) nH2 ?_
  refine RunF.wn (o_store rfl rfl rfl ts41 rfl rfl) nH2 ?_
  refine RunF.q (o_assign rfl) rfl ?_
  refine RunF.q (o_assign rfl) rfl ?_
  refine RunF.q (o_assign rfl) rfl ?_
  refine AW.seq ?_
  refine AW.region (by kernel_rfl) ?_
  refine RunF.q (o_load_agg rfl tk41 ts41 rfl rfl rfl nL) rfl ?_
  refine RunF.q (o_load_agg rfl tk24 ts24 rfl rfl rfl nL) rfl ?_
  refine RunF.q (o_move rfl) rfl ?_
  refine RunF.q (o_move rfl) rfl ?_
  refine RunF.w (o_call (no := 4) (nr := 3) rfl rfl rfl nC (by rfl) (by exact hup2) (by rfl) rfl rfl nV nE) nH2 ?_
  refine RunF.q (o_move rfl) rfl ?_
  refine RunF.q (o_extract rfl rfl) rfl ?_
  refine RunF.q (o_extract rfl rfl) rfl ?_
  refine RunF.q (o_extract rfl rfl) rfl ?_
  refine RunF.q (o_extract rfl rfl) rfl ?_
  refine RunF.w (o_alloc (nm := 6) tz41 rfl) nH2 ?_
  refine RunF.wn (o_store rfl rfl rfl ts41 rfl rfl) nH2 ?_
  refine RunF.q (o_assign rfl) rfl ?_
  refine RunF.q (o_assign rfl) rfl ?_
  refine RunF.q (o_assign rfl) rfl ?_
  refine AW.seq ?_
  refine AW.region (by kernel_rfl) ?_
  refine RunF.q (o_load_agg rfl tk41 ts41 rfl rfl rfl nL) rfl ?_
  refine RunF.q (o_load_agg rfl tk24 ts24 rfl rfl rfl nL) rfl ?_
  refine RunF.q (o_move rfl) rfl ?_
  refine RunF.q (o_move rfl) rfl ?_
  refine RunF.q (o_call (no := 7) (nr := 3) rfl rfl rfl nC (by rfl) (by exact Innov_ok n n0 n8 x p hl hx hp hH false false false off r hr) (by rfl) rfl rfl nV rfl) (by rfl) ?_
  refine RunF.q (o_move rfl) rfl ?_
  refine RunF.q (o_extract rfl rfl) rfl ?_
  refine RunF.q (o_extract rfl rfl) rfl ?_
  refine RunF.q (o_extract rfl rfl) rfl ?_
  refine RunF.q (o_extract rfl rfl) rfl ?_
  refine RunF.q (o_assign rfl) rfl ?_
  refine RunF.q (o_assign rfl) rfl ?_
  refine RunF.q (o_assign rfl) rfl ?_
  refine RunF.q (o_assign rfl) rfl ?_
  refine AW.seq ?_
  refine AW.seq ?_
  refine AW.region (by kernel_rfl) ?_
  refine RunF.q (o_move rfl) rfl ?_
  refine RunF.q (o_neq rfl rfl) rfl ?_
  refine RunF.q (o_move rfl) rfl ?_
  refine RunF.gq rfl (o_move rfl) rfl ?_
  refine RunF.gq rfl (o_neq rfl rfl) rfl ?_
  refine RunF.q (o_pick_f rfl rfl) rfl ?_
  refine RunF.q (o_move rfl) rfl ?_
  refine RunF.gq rfl (o_move rfl) rfl ?_
  refine RunF.gq rfl (o_neq rfl rfl) rfl ?_
  refine RunF.q (o_pick_f rfl rfl) rfl ?_
  refine AW.cond rfl (fun hc1 => absurd hc1 (by simp)) (fun hc1 => ?_)
  refine AW.skip ?_
  refine AW.seq ?_
  refine AW.seq ?_
  refine AW.region (by kernel_rfl) ?_
  refine RunF.q (o_move rfl) rfl ?_
  refine RunF.q (o_leq rfl rfl) rfl ?_
  refine RunF.br (o_move rfl) rfl (fun hb15_2 => ?_) (fun hb15_2 => ?_)
  · try simp only [decide_eq_true_eq, decide_eq_false_iff_not, bne_iff_ne, beq_iff_eq, bne_eq_false_iff_eq, beq_eq_false_iff_ne, ne_eq, Bool.not_eq_true', Bool.not_eq_false'] at hb15_2
    refine RunF.gs (b := true) rfl rfl ?_
    refine RunF.gs (b := true) rfl rfl ?_
    refine RunF.q (o_pick_t rfl rfl) rfl ?_
    refine RunF.q (o_move rfl) rfl ?_
    refine RunF.gs (b := true) rfl rfl ?_
    refine RunF.gs (b := true) rfl rfl ?_
    refine RunF.q (o_pick_t rfl rfl) rfl ?_
    refine AW.cond rfl (fun hc2 => ?_) (fun hc2 => absurd hc2 (by first | (intro h; cases h; done) | (intro h; simp at h; omega)))
    refine AW.seq ?_
    refine AW.region (by kernel_rfl) ?_
    refine RunF.q (o_move rfl) rfl ?_
    refine RunF.q (o_assign rfl) rfl ?_
    refine AW.ret ?_
    exact FinQ.ret [] [] (ress_tmp rfl ress_nil) rfl .nil (.cons rfl rfl nP (.cons rfl rfl nP (.cons rfl rfl nP .nil))) nR
  · try simp only [decide_eq_true_eq, decide_eq_false_iff_not, bne_iff_ne, beq_iff_eq, bne_eq_false_iff_eq, beq_eq_false_iff_ne, ne_eq, Bool.not_eq_true', Bool.not_eq_false'] at hb15_2
    refine RunF.gq rfl (o_move rfl) rfl ?_
    refine RunF.gq rfl (o_geq rfl rfl) rfl ?_
    refine RunF.q (o_pick_f rfl rfl) rfl ?_
    refine RunF.br (o_move rfl) rfl (fun hb15_6 => ?_) (fun hb15_6 => ?_)
    · try simp only [decide_eq_true_eq, decide_eq_false_iff_not, bne_iff_ne, beq_iff_eq, bne_eq_false_iff_eq, beq_eq_false_iff_ne, ne_eq, Bool.not_eq_true', Bool.not_eq_false'] at hb15_6
      refine RunF.gs (b := true) rfl rfl ?_
      refine RunF.gs (b := true) rfl rfl ?_
      refine RunF.q (o_pick_t rfl rfl) rfl ?_
      refine AW.cond rfl (fun hc2 => ?_) (fun hc2 => absurd hc2 (by first | (intro h; cases h; done) | (intro h; simp at h; omega)))
      refine AW.seq ?_
      refine AW.region (by kernel_rfl) ?_
      refine RunF.q (o_move rfl) rfl ?_
      refine RunF.q (o_assign rfl) rfl ?_
      refine AW.ret ?_
      exact FinQ.ret [] [] (ress_tmp rfl ress_nil) rfl .nil (.cons rfl rfl nP (.cons rfl rfl nP (.cons rfl rfl nP .nil))) nR
    · try simp only [decide_eq_true_eq, decide_eq_false_iff_not, bne_iff_ne, beq_iff_eq, bne_eq_false_iff_eq, beq_eq_false_iff_ne, ne_eq, Bool.not_eq_true', Bool.not_eq_false'] at hb15_6
      refine RunF.gq rfl (o_move rfl) rfl ?_
      refine RunF.gq rfl (o_lss rfl rfl) rfl ?_
      refine RunF.q (o_pick_f rfl rfl) rfl ?_
      refine AW.cond rfl (fun hc2 => ?_) (fun hc2 => absurd hc2 (by first | (intro h; cases h; done) | (intro h; simp at h; omega)))
      refine AW.seq ?_
      refine AW.region (by kernel_rfl) ?_
      refine RunF.q (o_move rfl) rfl ?_
      refine RunF.q (o_assign rfl) rfl ?_
      refine AW.ret ?_
      exact FinQ.ret [] [] (ress_tmp rfl ress_nil) rfl .nil (.cons rfl rfl nP (.cons rfl rfl nP (.cons rfl rfl nP .nil))) nR

set_option maxHeartbeats 1000000 in
theorem kGates_upts (n : Nat) (n0 : 0 < n) (n8 : n ≤ 8) (r off : Int) (x p hl : List Int) (hx : x.length = n * 1) (hp : p.length = n * n) (hH : hl.length = 1 * n) (hr : 0 < r) (h1 : rightT n 1 x n n p = true) (h2 : rightM 1 n hl = true) (hA : (offY hl x n 0) ≤ -70368744177664 ∨ (offY hl x n 0) ≥ 70368744177663 ∨ (offS hl p n r) < 16777216) (w1 : Bool) (X1 P1 : List Int) (hup1 : SoundC Try.prog 37 [.agg [.int .i64 n, .int .i64 1, .sl (.r 0) 0 x.length 1 false, .int .i64 n, .int .i64 n, .sl (.r 1) 0 p.length 1 false], .agg [.int .i64 1, .int .i64 n, .sl (.r 2) 0 hl.length 1 false], .int .i64 (0 - (offY hl x n 0)), .int .i64 r, .int .i64 16777216] ⟨[ints x, ints p, ints hl], []⟩ { val := .tuple [.agg [.int .i64 n, .int .i64 1, .sl (.o 0) 0 X1.length 1 false, .int .i64 n, .int .i64 n, .sl (.o 1) 0 P1.length 1 false], .bool true, .bool w1, .int .i64 0], newo := [ints X1, ints P1] }) (w2 : Bool) (hup2 : SoundC Try.prog 37 [.agg [.int .i64 n, .int .i64 1, .sl (.r 0) 0 x.length 1 false, .int .i64 n, .int .i64 n, .sl (.r 1) 0 p.length 1 false], .agg [.int .i64 1, .int .i64 n, .sl (.r 2) 0 hl.length 1 false], .int .i64 off, .int .i64 r, .int .i64 (-16777216)] ⟨[ints x, ints p, ints hl], []⟩ { val := .tuple [.agg [.int .i64 n, .int .i64 1, .sl (.r 0) 0 x.length 1 false, .int .i64 n, .int .i64 n, .sl (.r 1) 0 p.length 1 false], .bool false, .bool w2, .int .i64 0] }) : SoundC Try.prog 11 [.agg [.int .i64 n, .int .i64 1, .sl (.r 0) 0 x.length 1 false, .int .i64 n, .int .i64 n, .sl (.r 1) 0 p.length 1 false, .int .i64 1, .int .i64 n, .sl (.r 2) 0 hl.length 1 false, .int .i64 r, .int .i64 off]] ⟨[ints x, ints p, ints hl], []⟩ { val := .bool true } := by
  have hy := offY_in hl x n 0
  refine SoundC.of (N := 162) Try.func11 rfl rfl rfl rfl ?_
  refine AW.seq ?_
  refine AW.region (by kernel_rfl) ?_
  refine RunF.w (o_box (nm := 0) rfl rfl rfl) nH2 ?_
  refine RunF.q (o_assign rfl) rfl ?_
  refine AW.seq ?_
  refine AW.region (by kernel_rfl) ?_
  refine RunF.q (o_fieldAddr rfl tk60 rfl ts41 rfl) rfl ?_
  refine RunF.q (o_load_agg rfl tk41 ts41 rfl rfl rfl nL) rfl ?_
  refine RunF.w (o_alloc (nm := 1) tz41 rfl) nH2 ?_
  refine RunF.wn (o_store rfl rfl rfl ts41 rfl rfl) nH2 ?_
  refine AW.seq ?_
  refine AW.region (by kernel_rfl) ?_
  refine RunF.q (o_fieldAddr rfl tk60 rfl ts24 rfl) rfl ?_
  refine RunF.q (o_load_agg rfl tk24 ts24 rfl rfl rfl nL) rfl ?_
  refine RunF.w (o_alloc (nm := 2) tz24 rfl) nH2 ?_
  refine RunF.wn (o_store rfl rfl rfl ts24 rfl rfl) nH2 ?_
  refine AW.seq ?_
  refine AW.region (by kernel_rfl) ?_
  refine RunF.q (o_fieldAddr rfl tk60 rfl ts30 rfl) rfl ?_
  refine RunF.q (o_load rfl tk30 ts30 rfl rfl rfl) rfl ?_
  refine RunF.q (o_assign rfl) rfl ?_
  refine AW.seq ?_
  refine AW.region (by kernel_rfl) ?_
  refine RunF.q (o_fieldAddr rfl tk60 rfl ts30 rfl) rfl ?_
  refine RunF.q (o_load rfl tk30 ts30 rfl rfl rfl) rfl ?_
  refine RunF.q (o_assign rfl) rfl ?_
  refine AW.seq ?_
  refine AW.region (by kernel_rfl) ?_
  refine RunF.q (o_call (no := 3) (nr := 3) rfl rfl rfl nC (by rfl) (by exact shown05_ok) (by rfl) rfl rfl nV rfl) (by rfl) ?_
  refine RunF.q (o_assign rfl) rfl ?_
  refine AW.seq ?_
  refine AW.seq ?_
  refine AW.region (by kernel_rfl) ?_
  refine RunF.q (o_load_agg rfl tk41 ts41 rfl rfl rfl nL) rfl ?_
  refine RunF.q (o_call (no := 3) (nr := 3) rfl rfl rfl nC (by rfl) (by exact r5right_is h1) (by rfl) rfl rfl nV rfl) (by rfl) ?_
  refine RunF.q (o_not rfl) rfl ?_
  refine RunF.q (o_move rfl) rfl ?_
  refine RunF.gq rfl (o_load_agg rfl tk24 ts24 rfl rfl rfl nL) rfl ?_
  refine RunF.gq rfl (o_call (no := 3) (nr := 3) rfl rfl rfl nC (by rfl) (by exact rright_is h2) (by rfl) rfl rfl nV rfl) (by rfl) ?_
  refine RunF.gq rfl (o_not rfl) rfl ?_
  refine RunF.q (o_pick_f rfl rfl) rfl ?_
  refine RunF.q (o_move rfl) rfl ?_
  refine RunF.gq rfl (o_fieldAddr rfl tk24 rfl ts3 rfl) rfl ?_
  refine RunF.gq rfl (o_load rfl tk3 ts3 rfl rfl rfl) rfl ?_
  refine RunF.gq rfl (o_bin (v := .bool false) rfl rfl (by simp only [binA]; rfl)) rfl ?_
  refine RunF.q (o_pick_f rfl rfl) rfl ?_
  refine RunF.q (o_move rfl) rfl ?_
  refine RunF.gq rfl (o_fieldAddr rfl tk24 rfl ts3 rfl) rfl ?_
  refine RunF.gq rfl (o_load rfl tk3 ts3 rfl rfl rfl) rfl ?_
  refine RunF.gq rfl (o_fieldAddr rfl tk41 rfl ts24 rfl) rfl ?_
  refine RunF.gq rfl (o_fieldAddr rfl tk24 rfl ts3 rfl) rfl ?_
  refine RunF.gq rfl (o_load rfl tk3 ts3 rfl rfl rfl) rfl ?_
  refine RunF.gq rfl (o_bin (v := .bool false) rfl rfl (by simp only [binA]; simp)) rfl ?_
  refine RunF.q (o_pick_f rfl rfl) rfl ?_
  refine RunF.q (o_move rfl) rfl ?_
  refine RunF.gq rfl (o_move rfl) rfl ?_
  refine RunF.gq rfl (o_leq rfl rfl) rfl ?_
  refine RunF.q (o_pick_f rfl rfl) rfl ?_
  refine AW.cond rfl (fun hc0 => absurd hc0 (by intro h; simp at h; omega)) (fun hc0 => ?_)
  refine AW.skip ?_
  refine AW.seq ?_
  refine AW.region (by kernel_rfl) ?_
  refine RunF.q (o_load_agg rfl tk41 ts41 rfl rfl rfl nL) rfl ?_
  refine RunF.q (o_load_agg rfl tk24 ts24 rfl rfl rfl nL) rfl ?_
  refine RunF.q (o_move rfl) rfl ?_
  refine RunF.q (o_call (no := 3) (nr := 3) rfl rfl rfl nC (by rfl) (by exact Innov_ok n n0 n8 x p hl hx hp hH false false false 0 r hr) (by rfl) rfl rfl nV rfl) (by rfl) ?_
  refine RunF.q (o_move rfl) rfl ?_
  refine RunF.q (o_extract rfl rfl) rfl ?_
  refine RunF.q (o_extract rfl rfl) rfl ?_
  refine RunF.q (o_extract rfl rfl) rfl ?_
  refine RunF.q (o_extract rfl rfl) rfl ?_
  refine RunF.q (o_assign rfl) rfl ?_
  refine RunF.q (o_assign rfl) rfl ?_
  refine RunF.q (o_assign rfl) rfl ?_
  refine RunF.q (o_assign rfl) rfl ?_
  refine AW.seq ?_
  refine AW.region (by kernel_rfl) ?_
  refine RunF.q (o_move rfl) rfl ?_
  refine RunF.q (o_sub rfl rfl (by first | exact i64_in _ (by omega) | rfl)) rfl ?_
  refine RunF.q (o_assign rfl) rfl ?_
  refine AW.seq ?_
  refine AW.region (by kernel_rfl) ?_
  refine RunF.q (o_load_agg rfl tk41 ts41 rfl rfl rfl nL) rfl ?_
  refine RunF.q (o_load_agg rfl tk24 ts24 rfl rfl rfl nL) rfl ?_
  refine RunF.q (o_move rfl) rfl ?_
  refine RunF.q (o_move rfl) rfl ?_
  refine RunF.w (o_call (no := 3) (nr := 3) rfl rfl rfl nC (by rfl) (by exact hup1) (by rfl) rfl rfl nV nE) nH2 ?_
  refine RunF.q (o_move rfl) rfl ?_
  refine RunF.q (o_extract rfl rfl) rfl ?_
  refine RunF.q (o_extract rfl rfl) rfl ?_
  refine RunF.q (o_extract rfl rfl) rfl ?_
  refine RunF.q (o_extract rfl rfl) rfl ?_
  refine RunF.w (o_alloc (nm := 5) tz41 rfl) nH2 ?_
  refine RunF.wn (o_store rfl rfl rfl ts41 rfl rfl) nH2 ?_
  refine RunF.q (o_assign rfl) rfl ?_
  refine RunF.q (o_assign rfl) rfl ?_
  refine RunF.q (o_assign rfl) rfl ?_
  refine AW.seq ?_
  refine AW.region (by kernel_rfl) ?_
  refine RunF.q (o_load_agg rfl tk41 ts41 rfl rfl rfl nL) rfl ?_
  refine RunF.q (o_load_agg rfl tk24 ts24 rfl rfl rfl nL) rfl ?_
  refine RunF.q (o_move rfl) rfl ?_
  refine RunF.q (o_move rfl) rfl ?_
  refine RunF.q (o_call (no := 6) (nr := 3) rfl rfl rfl nC (by rfl) (by exact hup2) (by rfl) rfl rfl nV rfl) (by rfl) ?_
  refine RunF.q (o_move rfl) rfl ?_
  refine RunF.q (o_extract rfl rfl) rfl ?_
  refine RunF.q (o_extract rfl rfl) rfl ?_
  refine RunF.q (o_extract rfl rfl) rfl ?_
  refine RunF.q (o_extract rfl rfl) rfl ?_
  refine RunF.w (o_alloc (nm := 6) tz41 rfl) nH2 ?_
  refine RunF.wn (o_store rfl rfl rfl ts41 rfl rfl) nH2 ?_
  refine RunF.q (o_assign rfl) rfl ?_
  refine RunF.q (o_assign rfl) rfl ?_
  refine RunF.q (o_assign rfl) rfl ?_
  refine AW.seq ?_
  refine AW.region (by kernel_rfl) ?_
  refine RunF.q (o_load_agg rfl tk41 ts41 rfl rfl rfl nL) rfl ?_
  refine RunF.q (o_load_agg rfl tk24 ts24 rfl rfl rfl nL) rfl ?_
  refine RunF.q (o_move rfl) rfl ?_
  refine RunF.q (o_move rfl) rfl ?_
  refine RunF.q (o_call (no := 7) (nr := 3) rfl rfl rfl nC (by rfl) (by exact Innov_ok n n0 n8 x p hl hx hp hH false false false off r hr) (by rfl) rfl rfl nV rfl) (by rfl) ?_
  refine RunF.q (o_move rfl) rfl ?_
  refine RunF.q (o_extract rfl rfl) rfl ?_
  refine RunF.q (o_extract rfl rfl) rfl ?_
  refine RunF.q (o_extract rfl rfl) rfl ?_
  refine RunF.q (o_extract rfl rfl) rfl ?_
  refine RunF.q (o_assign rfl) rfl ?_
  refine RunF.q (o_assign rfl) rfl ?_
  refine RunF.q (o_assign rfl) rfl ?_
  refine RunF.q (o_assign rfl) rfl ?_
  refine AW.seq ?_
  refine AW.seq ?_
  refine AW.region (by kernel_rfl) ?_
  refine RunF.q (o_move rfl) rfl ?_
  refine RunF.q (o_neq rfl rfl) rfl ?_
  refine RunF.q (o_move rfl) rfl ?_
  refine RunF.gq rfl (o_move rfl) rfl ?_
  refine RunF.gq rfl (o_neq rfl rfl) rfl ?_
  refine RunF.q (o_pick_f rfl rfl) rfl ?_
  refine RunF.q (o_move rfl) rfl ?_
  refine RunF.gq rfl (o_move rfl) rfl ?_
  refine RunF.gq rfl (o_neq rfl rfl) rfl ?_
  refine RunF.q (o_pick_f rfl rfl) rfl ?_
  refine AW.cond rfl (fun hc1 => absurd hc1 (by simp)) (fun hc1 => ?_)
  refine AW.skip ?_
  refine AW.seq ?_
  refine AW.seq ?_
  refine AW.region (by kernel_rfl) ?_
  refine RunF.q (o_move rfl) rfl ?_
  refine RunF.q (o_leq rfl rfl) rfl ?_
  refine RunF.br (o_move rfl) rfl (fun hb15_2 => ?_) (fun hb15_2 => ?_)
  · try simp only [decide_eq_true_eq, decide_eq_false_iff_not, bne_iff_ne, beq_iff_eq, bne_eq_false_iff_eq, beq_eq_false_iff_ne, ne_eq, Bool.not_eq_true', Bool.not_eq_false'] at hb15_2
    refine RunF.gs (b := true) rfl rfl ?_
    refine RunF.gs (b := true) rfl rfl ?_
    refine RunF.q (o_pick_t rfl rfl) rfl ?_
    refine RunF.q (o_move rfl) rfl ?_
    refine RunF.gs (b := true) rfl rfl ?_
    refine RunF.gs (b := true) rfl rfl ?_
    refine RunF.q (o_pick_t rfl rfl) rfl ?_
    refine AW.cond rfl (fun hc2 => ?_) (fun hc2 => absurd hc2 (by first | (intro h; cases h; done) | (intro h; simp at h; omega)))
    refine AW.seq ?_
    refine AW.region (by kernel_rfl) ?_
    refine RunF.q (o_move rfl) rfl ?_
    refine RunF.q (o_assign rfl) rfl ?_
    refine AW.ret ?_
    exact FinQ.ret [] [] (ress_tmp rfl ress_nil) rfl .nil (.cons rfl rfl nP (.cons rfl rfl nP (.cons rfl rfl nP .nil))) nR
  · try simp only [decide_eq_true_eq, decide_eq_false_iff_not, bne_iff_ne, beq_iff_eq, bne_eq_false_iff_eq, beq_eq_false_iff_ne, ne_eq, Bool.not_eq_true', Bool.not_eq_false'] at hb15_2
    refine RunF.gq rfl (o_move rfl) rfl ?_
    refine RunF.gq rfl (o_geq rfl rfl) rfl ?_
    refine RunF.q (o_pick_f rfl rfl) rfl ?_
    refine RunF.br (o_move rfl) rfl (fun hb15_6 => ?_) (fun hb15_6 => ?_)
    · try simp only [decide_eq_true_eq, decide_eq_false_iff_not, bne_iff_ne, beq_iff_eq, bne_eq_false_iff_eq, beq_eq_false_iff_ne, ne_eq, Bool.not_eq_true', Bool.not_eq_false'] at hb15_6
      refine RunF.gs (b := true) rfl rfl ?_
      refine RunF.gs (b := true) rfl rfl ?_
      refine RunF.q (o_pick_t rfl rfl) rfl ?_
      refine AW.cond rfl (fun hc2 => ?_) (fun hc2 => absurd hc2 (by first | (intro h; cases h; done) | (intro h; simp at h; omega)))
      refine AW.seq ?_
      refine AW.region (by kernel_rfl) ?_
      refine RunF.q (o_move rfl) rfl ?_
      refine RunF.q (o_assign rfl) rfl ?_
      refine AW.ret ?_
      exact FinQ.ret [] [] (ress_tmp rfl ress_nil) rfl .nil (.cons rfl rfl nP (.cons rfl rfl nP (.cons rfl rfl nP .nil))) nR
    · try simp only [decide_eq_true_eq, decide_eq_false_iff_not, bne_iff_ne, beq_iff_eq, bne_eq_false_iff_eq, beq_eq_false_iff_ne, ne_eq, Bool.not_eq_true', Bool.not_eq_false'] at hb15_6
      refine RunF.gq rfl (o_move rfl) rfl ?_
      refine RunF.gq rfl (o_lss rfl rfl) rfl ?_
      refine RunF.q (o_pick_f rfl rfl) rfl ?_
      refine AW.cond rfl (fun hc2 => ?_) (fun hc2 => absurd hc2 (by first | (intro h; cases h; done) | (intro h; simp at h; omega)))
      refine AW.seq ?_
      refine AW.region (by kernel_rfl) ?_
      refine RunF.q (o_move rfl) rfl ?_
      refine RunF.q (o_assign rfl) rfl ?_
      refine AW.ret ?_
      exact FinQ.ret [] [] (ress_tmp rfl ress_nil) rfl .nil (.cons rfl rfl nP (.cons rfl rfl nP (.cons rfl rfl nP .nil))) nR

set_option maxHeartbeats 1000000 in
theorem kGates_uptt (n : Nat) (n0 : 0 < n) (n8 : n ≤ 8) (r off : Int) (x p hl : List Int) (hx : x.length = n * 1) (hp : p.length = n * n) (hH : hl.length = 1 * n) (hr : 0 < r) (h1 : rightT n 1 x n n p = true) (h2 : rightM 1 n hl = true) (hA : (offY hl x n 0) ≤ -70368744177664 ∨ (offY hl x n 0) ≥ 70368744177663 ∨ (offS hl p n r) < 16777216) (w1 : Bool) (X1 P1 : List Int) (hup1 : SoundC Try.prog 37 [.agg [.int .i64 n, .int .i64 1, .sl (.r 0) 0 x.length 1 false, .int .i64 n, .int .i64 n, .sl (.r 1) 0 p.length 1 false], .agg [.int .i64 1, .int .i64 n, .sl (.r 2) 0 hl.length 1 false], .int .i64 (0 - (offY hl x n 0)), .int .i64 r, .int .i64 16777216] ⟨[ints x, ints p, ints hl], []⟩ { val := .tuple [.agg [.int .i64 n, .int .i64 1, .sl (.o 0) 0 X1.length 1 false, .int .i64 n, .int .i64 n, .sl (.o 1) 0 P1.length 1 false], .bool true, .bool w1, .int .i64 0], newo := [ints X1, ints P1] }) (w2 : Bool) (X2 P2 : List Int) (hup2 : SoundC Try.prog 37 [.agg [.int .i64 n, .int .i64 1, .sl (.r 0) 0 x.length 1 false, .int .i64 n, .int .i64 n, .sl (.r 1) 0 p.length 1 false], .agg [.int .i64 1, .int .i64 n, .sl (.r 2) 0 hl.length 1 false], .int .i64 off, .int .i64 r, .int .i64 (-16777216)] ⟨[ints x, ints p, ints hl], []⟩ { val := .tuple [.agg [.int .i64 n, .int .i64 1, .sl (.o 0) 0 X2.length 1 false, .int .i64 n, .int .i64 n, .sl (.o 1) 0 P2.length 1 false], .bool true, .bool w2, .int .i64 0], newo := [ints X2, ints P2] }) : SoundC Try.prog 11 [.agg [.int .i64 n, .int .i64 1, .sl (.r 0) 0 x.length 1 false, .int .i64 n, .int .i64 n, .sl (.r 1) 0 p.length 1 false, .int .i64 1, .int .i64 n, .sl (.r 2) 0 hl.length 1 false, .int .i64 r, .int .i64 off]] ⟨[ints x, ints p, ints hl], []⟩ { val := .bool true } := by
  have hy := offY_in hl x n 0
  refine SoundC.of (N := 162) Try.func11 rfl rfl rfl rfl ?_
  refine AW.seq ?_
  refine AW.region (by kernel_rfl) ?_
  refine RunF.w (o_box (nm := 0) rfl rfl rfl) nH2 ?_
  refine RunF.q (o_assign rfl) rfl ?_
  refine AW.seq ?_
  refine AW.region (by kernel_rfl) ?_
  refine RunF.q (o_fieldAddr rfl tk60 rfl ts41 rfl) rfl ?_
  refine RunF.q (o_load_agg rfl tk41 ts41 rfl rfl rfl nL) rfl ?_
  refine RunF.w (o_alloc (nm := 1) tz41 rfl) nH2 ?_
  refine RunF.wn (o_store rfl rfl rfl ts41 rfl rfl) nH2 ?_
  refine AW.seq ?_
  refine AW.region (by kernel_rfl) ?_
  refine RunF.q (o_fieldAddr rfl tk60 rfl ts24 rfl) rfl ?_
  refine RunF.q (o_load_agg rfl tk24 ts24 rfl rfl rfl nL) rfl ?_
  refine RunF.w (o_alloc (nm := 2) tz24 rfl) nH2 ?_
  refine RunF.wn (o_store rfl rfl rfl ts24 rfl rfl) nH2 ?_
  refine AW.seq ?_
  refine AW.region (by kernel_rfl) ?_
  refine RunF.q (o_fieldAddr rfl tk60 rfl ts30 rfl) rfl ?_
  refine RunF.q (o_load rfl tk30 ts30 rfl rfl rfl) rfl ?_
  refine RunF.q (o_assign rfl) rfl ?_
  refine AW.seq ?_
  refine AW.region (by kernel_rfl) ?_
  refine RunF.q (o_fieldAddr rfl tk60 rfl ts30 rfl) rfl ?_
  refine RunF.q (o_load rfl tk30 ts30 rfl rfl rfl) rfl ?_
  refine RunF.q (o_assign rfl) rfl ?_
  refine AW.seq ?_
  refine AW.region (by kernel_rfl) ?_
  refine RunF.q (o_call (no := 3) (nr := 3) rfl rfl rfl nC (by rfl) (by exact shown05_ok) (by rfl) rfl rfl nV rfl) (by rfl) ?_
  refine RunF.q (o_assign rfl) rfl ?_
  refine AW.seq ?_
  refine AW.seq ?_
  refine AW.region (by kernel_rfl) ?_
  refine RunF.q (o_load_agg rfl tk41 ts41 rfl rfl rfl nL) rfl ?_
  refine RunF.q (o_call (no := 3) (nr := 3) rfl rfl rfl nC (by rfl) (by exact r5right_is h1) (by rfl) rfl rfl nV rfl) (by rfl) ?_
  refine RunF.q (o_not rfl) rfl ?_
  refine RunF.q (o_move rfl) rfl ?_
  refine RunF.gq rfl (o_load_agg rfl tk24 ts24 rfl rfl rfl nL) rfl ?_
  refine RunF.gq rfl (o_call (no := 3) (nr := 3) rfl rfl rfl nC (by rfl) (by exact rright_is h2) (by rfl) rfl rfl nV rfl) (by rfl) ?_
  refine RunF.gq rfl (o_not rfl) rfl ?_
  refine RunF.q (o_pick_f rfl rfl) rfl ?_
  refine RunF.q (o_move rfl) rfl ?_
  refine RunF.gq rfl (o_fieldAddr rfl tk24 rfl ts3 rfl) rfl ?_
  refine RunF.gq rfl (o_load rfl tk3 ts3 rfl rfl rfl) rfl ?_
  refine RunF.gq rfl (o_bin (v := .bool false) rfl rfl (by simp only [binA]; rfl)) rfl ?_
  refine RunF.q (o_pick_f rfl rfl) rfl ?_
  refine RunF.q (o_move rfl) rfl ?_
  refine RunF.gq rfl (o_fieldAddr rfl tk24 rfl ts3 rfl) rfl ?_
  refine RunF.gq rfl (o_load rfl tk3 ts3 rfl rfl rfl) rfl ?_
  refine RunF.gq rfl (o_fieldAddr rfl tk41 rfl ts24 rfl) rfl ?_
  refine RunF.gq rfl (o_fieldAddr rfl tk24 rfl ts3 rfl) rfl ?_
  refine RunF.gq rfl (o_load rfl tk3 ts3 rfl rfl rfl) rfl ?_
  refine RunF.gq rfl (o_bin (v := .bool false) rfl rfl (by simp only [binA]; simp)) rfl ?_
  refine RunF.q (o_pick_f rfl rfl) rfl ?_
  refine RunF.q (o_move rfl) rfl ?_
  refine RunF.gq rfl (o_move rfl) rfl ?_
  refine RunF.gq rfl (o_leq rfl rfl) rfl ?_
  refine RunF.q (o_pick_f rfl rfl) rfl ?_
  refine AW.cond rfl (fun hc0 => absurd hc0 (by intro h; simp at h; omega)) (fun hc0 => ?_)
  refine AW.skip ?_
  refine AW.seq ?_
  refine AW.region (by kernel_rfl) ?_
  refine RunF.q (o_load_agg rfl tk41 ts41 rfl rfl rfl nL) rfl ?_
  refine RunF.q (o_load_agg rfl tk24 ts24 rfl rfl rfl nL) rfl ?_
  refine RunF.q (o_move rfl) rfl ?_
  refine RunF.q (o_call (no := 3) (nr := 3) rfl rfl rfl nC (by rfl) (by exact Innov_ok n n0 n8 x p hl hx hp hH false false false 0 r hr) (by rfl) rfl rfl nV rfl) (by rfl) ?_
  refine RunF.q (o_move rfl) rfl ?_
  refine RunF.q (o_extract rfl rfl) rfl ?_
  refine RunF.q (o_extract rfl rfl) rfl ?_
  refine RunF.q (o_extract rfl rfl) rfl ?_
  refine RunF.q (o_extract rfl rfl) rfl ?_
  refine RunF.q (o_assign rfl) rfl ?_
  refine RunF.q (o_assign rfl) rfl ?_
  refine RunF.q (o_assign rfl) rfl ?_
  refine RunF.q (o_assign rfl) rfl ?_
  refine AW.seq ?_
  refine AW.region (by kernel_rfl) ?_
  refine RunF.q (o_move rfl) rfl ?_
  refine RunF.q (o_sub rfl rfl (by first | exact i64_in _ (by omega) | rfl)) rfl ?_
  refine RunF.q (o_assign rfl) rfl ?_
  refine AW.seq ?_
  refine AW.region (by kernel_rfl) ?_
  refine RunF.q (o_load_agg rfl tk41 ts41 rfl rfl rfl nL) rfl ?_
  refine RunF.q (o_load_agg rfl tk24 ts24 rfl rfl rfl nL) rfl ?_
  refine RunF.q (o_move rfl) rfl ?_
  refine RunF.q (o_move rfl) rfl ?_
  refine RunF.w (o_call (no := 3) (nr := 3) rfl rfl rfl nC (by rfl) (by exact hup1) (by rfl) rfl rfl nV nE) nH2 ?_
  refine RunF.q (o_move rfl) rfl ?_
  refine RunF.q (o_extract rfl rfl) rfl ?_
  refine RunF.q (o_extract rfl rfl) rfl ?_
  refine RunF.q (o_extract rfl rfl) rfl ?_
  refine RunF.q (o_extract rfl rfl) rfl ?_
  refine RunF.w (o_alloc (nm := 5) tz41 rfl) nH2 ?_
  refine RunF.wn (o_store rfl rfl rfl ts41 rfl rfl) nH2 ?_
  refine RunF.q (o_assign rfl) rfl ?_
  refine RunF.q (o_assign rfl) rfl ?_
  refine RunF.q (o_assign rfl) rfl ?_
  refine AW.seq ?_
  refine AW.region (by kernel_rfl) ?_
  refine RunF.q (o_load_agg rfl tk41 ts41 rfl rfl rfl nL) rfl ?_
  refine RunF.q (o_load_agg rfl tk24 ts24 rfl rfl rfl nL) rfl ?_
  refine RunF.q (o_move rfl) rfl ?_
  refine RunF.q (o_move rfl) rfl ?_
  refine RunF.w (o_call (no := 6) (nr := 3) rfl rfl rfl nC (by rfl) (by exact hup2) (by rfl) rfl rfl nV nE) nH2 ?_
  refine RunF.q (o_move rfl) rfl ?_
  refine RunF.q (o_extract rfl rfl) rfl ?_
  refine RunF.q (o_extract rfl rfl) rfl ?_
  refine RunF.q (o_extract rfl rfl) rfl ?_
  refine RunF.q (o_extract rfl rfl) rfl ?_
  refine RunF.w (o_alloc (nm := 8) tz41 rfl) nH2 ?_
  refine RunF.wn (o_store rfl rfl rfl ts41 rfl rfl) nH2 ?_
  refine RunF.q (o_assign rfl) rfl ?_
  refine RunF.q (o_assign rfl) rfl ?_
  refine RunF.q (o_assign rfl) rfl ?_
  refine AW.seq ?_
  refine AW.region (by kernel_rfl) ?_
  refine RunF.q (o_load_agg rfl tk41 ts41 rfl rfl rfl nL) rfl ?_
  refine RunF.q (o_load_agg rfl tk24 ts24 rfl rfl rfl nL) rfl ?_
  refine RunF.q (o_move rfl) rfl ?_
  refine RunF.q (o_move rfl) rfl ?_
  refine RunF.q (o_call (no := 9) (nr := 3) rfl rfl rfl nC (by rfl) (by exact Innov_ok n n0 n8 x p hl hx hp hH false false false off r hr) (by rfl) rfl rfl nV rfl) (by rfl) ?_
  refine RunF.q (o_move rfl) rfl ?_
  refine RunF.q (o_extract rfl rfl) rfl ?_
  refine RunF.q (o_extract rfl rfl) rfl ?_
  refine RunF.q (o_extract rfl rfl) rfl ?_
  refine RunF.q (o_extract rfl rfl) rfl ?_
  refine RunF.q (o_assign rfl) rfl ?_
  refine RunF.q (o_assign rfl) rfl ?_
  refine RunF.q (o_assign rfl) rfl ?_
  refine RunF.q (o_assign rfl) rfl ?_
  refine AW.seq ?_
  refine AW.seq ?_
  refine AW.region (by kernel_rfl) ?_
  refine RunF.q (o_move rfl) rfl ?_
  refine RunF.q (o_neq rfl rfl) rfl ?_
  refine RunF.q (o_move rfl) rfl ?_
  refine RunF.gq rfl (o_move rfl) rfl ?_
  refine RunF.gq rfl (o_neq rfl rfl) rfl ?_
  refine RunF.q (o_pick_f rfl rfl) rfl ?_
  refine RunF.q (o_move rfl) rfl ?_
  refine RunF.gq rfl (o_move rfl) rfl ?_
  refine RunF.gq rfl (o_neq rfl rfl) rfl ?_
  refine RunF.q (o_pick_f rfl rfl) rfl ?_
  refine AW.cond rfl (fun hc1 => absurd hc1 (by simp)) (fun hc1 => ?_)
  refine AW.skip ?_
  refine AW.seq ?_
  refine AW.seq ?_
  refine AW.region (by kernel_rfl) ?_
  refine RunF.q (o_move rfl) rfl ?_
  refine RunF.q (o_leq rfl rfl) rfl ?_
  refine RunF.br (o_move rfl) rfl (fun hb15_2 => ?_) (fun hb15_2 => ?_)
  · try simp only [decide_eq_true_eq, decide_eq_false_iff_not, bne_iff_ne, beq_iff_eq, bne_eq_false_iff_eq, beq_eq_false_iff_ne, ne_eq, Bool.not_eq_true', Bool.not_eq_false'] at hb15_2
    refine RunF.gs (b := true) rfl rfl ?_
    refine RunF.gs (b := true) rfl rfl ?_
    refine RunF.q (o_pick_t rfl rfl) rfl ?_
    refine RunF.q (o_move rfl) rfl ?_
    refine RunF.gs (b := true) rfl rfl ?_
    refine RunF.gs (b := true) rfl rfl ?_
    refine RunF.q (o_pick_t rfl rfl) rfl ?_
    refine AW.cond rfl (fun hc2 => ?_) (fun hc2 => absurd hc2 (by first | (intro h; cases h; done) | (intro h; simp at h; omega)))
    refine AW.seq ?_
    refine AW.region (by kernel_rfl) ?_
    refine RunF.q (o_move rfl) rfl ?_
    refine RunF.q (o_assign rfl) rfl ?_
    refine AW.ret ?_
    exact FinQ.ret [] [] (ress_tmp rfl ress_nil) rfl .nil (.cons rfl rfl nP (.cons rfl rfl nP (.cons rfl rfl nP .nil))) nR
  · try simp only [decide_eq_true_eq, decide_eq_false_iff_not, bne_iff_ne, beq_iff_eq, bne_eq_false_iff_eq, beq_eq_false_iff_ne, ne_eq, Bool.not_eq_true', Bool.not_eq_false'] at hb15_2
    refine RunF.gq rfl (o_move rfl) rfl ?_
    refine RunF.gq rfl (o_geq rfl rfl) rfl ?_
    refine RunF.q (o_pick_f rfl rfl) rfl ?_
    refine RunF.br (o_move rfl) rfl (fun hb15_6 => ?_) (fun hb15_6 => ?_)
    · try simp only [decide_eq_true_eq, decide_eq_false_iff_not, bne_iff_ne, beq_iff_eq, bne_eq_false_iff_eq, beq_eq_false_iff_ne, ne_eq, Bool.not_eq_true', Bool.not_eq_false'] at hb15_6
      refine RunF.gs (b := true) rfl rfl ?_
      refine RunF.gs (b := true) rfl rfl ?_
      refine RunF.q (o_pick_t rfl rfl) rfl ?_
      refine AW.cond rfl (fun hc2 => ?_) (fun hc2 => absurd hc2 (by first | (intro h; cases h; done) | (intro h; simp at h; omega)))
      refine AW.seq ?_
      refine AW.region (by kernel_rfl) ?_
      refine RunF.q (o_move rfl) rfl ?_
      refine RunF.q (o_assign rfl) rfl ?_
      refine AW.ret ?_
      exact FinQ.ret [] [] (ress_tmp rfl ress_nil) rfl .nil (.cons rfl rfl nP (.cons rfl rfl nP (.cons rfl rfl nP .nil))) nR
    · try simp only [decide_eq_true_eq, decide_eq_false_iff_not, bne_iff_ne, beq_iff_eq, bne_eq_false_iff_eq, beq_eq_false_iff_ne, ne_eq, Bool.not_eq_true', Bool.not_eq_false'] at hb15_6
      refine RunF.gq rfl (o_move rfl) rfl ?_
      refine RunF.gq rfl (o_lss rfl rfl) rfl ?_
      refine RunF.q (o_pick_f rfl rfl) rfl ?_
      refine AW.cond rfl (fun hc2 => ?_) (fun hc2 => absurd hc2 (by first | (intro h; cases h; done) | (intro h; simp at h; omega)))
      refine AW.seq ?_
      refine AW.region (by kernel_rfl) ?_
      refine RunF.q (o_move rfl) rfl ?_
      refine RunF.q (o_assign rfl) rfl ?_
      refine AW.ret ?_
      exact FinQ.ret [] [] (ress_tmp rfl ress_nil) rfl .nil (.cons rfl rfl nP (.cons rfl rfl nP (.cons rfl rfl nP .nil))) nR

set_option maxHeartbeats 1000000 in
theorem kGates_main (n : Nat) (n0 : 0 < n) (n8 : n ≤ 8) (r off : Int) (x p hl : List Int) (hx : x.length = n * 1) (hp : p.length = n * n) (hH : hl.length = 1 * n) (hr : 0 < r) (h1 : rightT n 1 x n n p = true) (h2 : rightM 1 n hl = true) (hA1 : -70368744177664 < (offY hl x n 0)) (hA2 : (offY hl x n 0) < 70368744177663) (hA3 : 16777216 ≤ (offS hl p n r)) (wo : Bool) (hin : SoundC Try.prog 46 [.agg [.int .i64 n, .int .i64 1, .sl (.r 0) 0 x.length 1 false, .int .i64 n, .int .i64 n, .sl (.r 1) 0 p.length 1 false], .agg [.int .i64 1, .int .i64 n, .sl (.r 2) 0 hl.length 1 false], .int .i64 (0 - (offY hl x n 0)), .int .i64 r] ⟨[ints x, ints p, ints hl], []⟩ { val := .tuple [.int .i64 0, .int .i64 (offS hl p n r), .bool wo, .int .i64 0] }) (w1 : Bool) (P1 : List Int) (hup1 : SoundC Try.prog 37 [.agg [.int .i64 n, .int .i64 1, .sl (.r 0) 0 x.length 1 false, .int .i64 n, .int .i64 n, .sl (.r 1) 0 p.length 1 false], .agg [.int .i64 1, .int .i64 n, .sl (.r 2) 0 hl.length 1 false], .int .i64 (0 - (offY hl x n 0)), .int .i64 r, .int .i64 16777216] ⟨[ints x, ints p, ints hl], []⟩ { val := .tuple [.agg [.int .i64 n, .int .i64 1, .sl (.o 0) 0 x.length 1 false, .int .i64 n, .int .i64 n, .sl (.o 1) 0 P1.length 1 false], .bool true, .bool w1, .int .i64 0], newo := [ints x, ints P1] }) (w2 : Bool) (hup2 : SoundC Try.prog 37 [.agg [.int .i64 n, .int .i64 1, .sl (.r 0) 0 x.length 1 false, .int .i64 n, .int .i64 n, .sl (.r 1) 0 p.length 1 false], .agg [.int .i64 1, .int .i64 n, .sl (.r 2) 0 hl.length 1 false], .int .i64 off, .int .i64 r, .int .i64 (-16777216)] ⟨[ints x, ints p, ints hl], []⟩ { val := .tuple [.agg [.int .i64 n, .int .i64 1, .sl (.r 0) 0 x.length 1 false, .int .i64 n, .int .i64 n, .sl (.r 1) 0 p.length 1 false], .bool false, .bool w2, .int .i64 0] }) : SoundC Try.prog 11 [.agg [.int .i64 n, .int .i64 1, .sl (.r 0) 0 x.length 1 false, .int .i64 n, .int .i64 n, .sl (.r 1) 0 p.length 1 false, .int .i64 1, .int .i64 n, .sl (.r 2) 0 hl.length 1 false, .int .i64 r, .int .i64 off]] ⟨[ints x, ints p, ints hl], []⟩ { val := .bool true } := by
  have hy := offY_in hl x n 0
  refine SoundC.of (N := 162) Try.func11 rfl rfl rfl rfl ?_
  refine AW.seq ?_
  refine AW.region (by kernel_rfl) ?_
  refine RunF.w (o_box (nm := 0) rfl rfl rfl) nH2 ?_
  refine RunF.q (o_assign rfl) rfl ?_
  refine AW.seq ?_
  refine AW.region (by kernel_rfl) ?_
  refine RunF.q (o_fieldAddr rfl tk60 rfl ts41 rfl) rfl ?_
  refine RunF.q (o_load_agg rfl tk41 ts41 rfl rfl rfl nL) rfl ?_
  refine RunF.w (o_alloc (nm := 1) tz41 rfl) nH2 ?_
  refine RunF.wn (o_store rfl rfl rfl ts41 rfl rfl) nH2 ?_
  refine AW.seq ?_
  refine AW.region (by kernel_rfl) ?_
  refine RunF.q (o_fieldAddr rfl tk60 rfl ts24 rfl) rfl ?_
  refine RunF.q (o_load_agg rfl tk24 ts24 rfl rfl rfl nL) rfl ?_
  refine RunF.w (o_alloc (nm := 2) tz24 rfl) nH2 ?_
  refine RunF.wn (o_store rfl rfl rfl ts24 rfl rfl) nH2 ?_
  refine AW.seq ?_
  refine AW.region (by kernel_rfl) ?_
  refine RunF.q (o_fieldAddr rfl tk60 rfl ts30 rfl) rfl ?_
  refine RunF.q (o_load rfl tk30 ts30 rfl rfl rfl) rfl ?_
  refine RunF.q (o_assign rfl) rfl ?_
  refine AW.seq ?_
  refine AW.region (by kernel_rfl) ?_
  refine RunF.q (o_fieldAddr rfl tk60 rfl ts30 rfl) rfl ?_
  refine RunF.q (o_load rfl tk30 ts30 rfl rfl rfl) rfl ?_
  refine RunF.q (o_assign rfl) rfl ?_
  refine AW.seq ?_
  refine AW.region (by kernel_rfl) ?_
  refine RunF.q (o_call (no := 3) (nr := 3) rfl rfl rfl nC (by rfl) (by exact shown05_ok) (by rfl) rfl rfl nV rfl) (by rfl) ?_
  refine RunF.q (o_assign rfl) rfl ?_
  refine AW.seq ?_
  refine AW.seq ?_
  refine AW.region (by kernel_rfl) ?_
  refine RunF.q (o_load_agg rfl tk41 ts41 rfl rfl rfl nL) rfl ?_
  refine RunF.q (o_call (no := 3) (nr := 3) rfl rfl rfl nC (by rfl) (by exact r5right_is h1) (by rfl) rfl rfl nV rfl) (by rfl) ?_
  refine RunF.q (o_not rfl) rfl ?_
  refine RunF.q (o_move rfl) rfl ?_
  refine RunF.gq rfl (o_load_agg rfl tk24 ts24 rfl rfl rfl nL) rfl ?_
  refine RunF.gq rfl (o_call (no := 3) (nr := 3) rfl rfl rfl nC (by rfl) (by exact rright_is h2) (by rfl) rfl rfl nV rfl) (by rfl) ?_
  refine RunF.gq rfl (o_not rfl) rfl ?_
  refine RunF.q (o_pick_f rfl rfl) rfl ?_
  refine RunF.q (o_move rfl) rfl ?_
  refine RunF.gq rfl (o_fieldAddr rfl tk24 rfl ts3 rfl) rfl ?_
  refine RunF.gq rfl (o_load rfl tk3 ts3 rfl rfl rfl) rfl ?_
  refine RunF.gq rfl (o_bin (v := .bool false) rfl rfl (by simp only [binA]; rfl)) rfl ?_
  refine RunF.q (o_pick_f rfl rfl) rfl ?_
  refine RunF.q (o_move rfl) rfl ?_
  refine RunF.gq rfl (o_fieldAddr rfl tk24 rfl ts3 rfl) rfl ?_
  refine RunF.gq rfl (o_load rfl tk3 ts3 rfl rfl rfl) rfl ?_
  refine RunF.gq rfl (o_fieldAddr rfl tk41 rfl ts24 rfl) rfl ?_
  refine RunF.gq rfl (o_fieldAddr rfl tk24 rfl ts3 rfl) rfl ?_
  refine RunF.gq rfl (o_load rfl tk3 ts3 rfl rfl rfl) rfl ?_
  refine RunF.gq rfl (o_bin (v := .bool false) rfl rfl (by simp only [binA]; simp)) rfl ?_
  refine RunF.q (o_pick_f rfl rfl) rfl ?_
  refine RunF.q (o_move rfl) rfl ?_
  refine RunF.gq rfl (o_move rfl) rfl ?_
  refine RunF.gq rfl (o_leq rfl rfl) rfl ?_
  refine RunF.q (o_pick_f rfl rfl) rfl ?_
  refine AW.cond rfl (fun hc0 => absurd hc0 (by intro h; simp at h; omega)) (fun hc0 => ?_)
  refine AW.skip ?_
  refine AW.seq ?_
  refine AW.region (by kernel_rfl) ?_
  refine RunF.q (o_load_agg rfl tk41 ts41 rfl rfl rfl nL) rfl ?_
  refine RunF.q (o_load_agg rfl tk24 ts24 rfl rfl rfl nL) rfl ?_
  refine RunF.q (o_move rfl) rfl ?_
  refine RunF.q (o_call (no := 3) (nr := 3) rfl rfl rfl nC (by rfl) (by exact Innov_ok n n0 n8 x p hl hx hp hH false false false 0 r hr) (by rfl) rfl rfl nV rfl) (by rfl) ?_
  refine RunF.q (o_move rfl) rfl ?_
  refine RunF.q (o_extract rfl rfl) rfl ?_
  refine RunF.q (o_extract rfl rfl) rfl ?_
  refine RunF.q (o_extract rfl rfl) rfl ?_
  refine RunF.q (o_extract rfl rfl) rfl ?_
  refine RunF.q (o_assign rfl) rfl ?_
  refine RunF.q (o_assign rfl) rfl ?_
  refine RunF.q (o_assign rfl) rfl ?_
  refine RunF.q (o_assign rfl) rfl ?_
  refine AW.seq ?_
  refine AW.region (by kernel_rfl) ?_
  refine RunF.q (o_move rfl) rfl ?_
  refine RunF.q (o_sub rfl rfl (by first | exact i64_in _ (by omega) | rfl)) rfl ?_
  refine RunF.q (o_assign rfl) rfl ?_
  refine AW.seq ?_
  refine AW.region (by kernel_rfl) ?_
  refine RunF.q (o_load_agg rfl tk41 ts41 rfl rfl rfl nL) rfl ?_
  refine RunF.q (o_load_agg rfl tk24 ts24 rfl rfl rfl nL) rfl ?_
  refine RunF.q (o_move rfl) rfl ?_
  refine RunF.q (o_move rfl) rfl ?_
  refine RunF.w (o_call (no := 3) (nr := 3) rfl rfl rfl nC (by rfl) (by exact hup1) (by rfl) rfl rfl nV nE) nH2 ?_
  refine RunF.q (o_move rfl) rfl ?_
  refine RunF.q (o_extract rfl rfl) rfl ?_
  refine RunF.q (o_extract rfl rfl) rfl ?_
  refine RunF.q (o_extract rfl rfl) rfl ?_
  refine RunF.q (o_extract rfl rfl) rfl ?_
  refine RunF.w (o_alloc (nm := 5) tz41 rfl) nH2 ?_
  refine RunF.wn (o_store rfl rfl rfl ts41 rfl rfl) nH2 ?_
  refine RunF.q (o_assign rfl) rfl ?_
  refine RunF.q (o_assign rfl) rfl ?_
  refine RunF.q (o_assign rfl) rfl ?_
  refine AW.seq ?_
  refine AW.region (by kernel_rfl) ?_
  refine RunF.q (o_load_agg rfl tk41 ts41 rfl rfl rfl nL) rfl ?_
  refine RunF.q (o_load_agg rfl tk24 ts24 rfl rfl rfl nL) rfl ?_
  refine RunF.q (o_move rfl) rfl ?_
  refine RunF.q (o_move rfl) rfl ?_
  refine RunF.q (o_call (no := 6) (nr := 3) rfl rfl rfl nC (by rfl) (by exact hup2) (by rfl) rfl rfl nV rfl) (by rfl) ?_
  refine RunF.q (o_move rfl) rfl ?_
  refine RunF.q (o_extract rfl rfl) rfl ?_
  refine RunF.q (o_extract rfl rfl) rfl ?_
  refine RunF.q (o_extract rfl rfl) rfl ?_
  refine RunF.q (o_extract rfl rfl) rfl ?_
  refine RunF.w (o_alloc (nm := 6) tz41 rfl) nH2 ?_
  refine RunF.wn (o_store rfl rfl rfl ts41 rfl rfl) nH2 ?_
  refine RunF.q (o_assign rfl) rfl ?_
  refine RunF.q (o_assign rfl) rfl ?_
  refine RunF.q (o_assign rfl) rfl ?_
  refine AW.seq ?_
  refine AW.region (by kernel_rfl) ?_
  refine RunF.q (o_load_agg rfl tk41 ts41 rfl rfl rfl nL) rfl ?_
  refine RunF.q (o_load_agg rfl tk24 ts24 rfl rfl rfl nL) rfl ?_
  refine RunF.q (o_move rfl) rfl ?_
  refine RunF.q (o_move rfl) rfl ?_
  refine RunF.q (o_call (no := 7) (nr := 3) rfl rfl rfl nC (by rfl) (by exact Innov_ok n n0 n8 x p hl hx hp hH false false false off r hr) (by rfl) rfl rfl nV rfl) (by rfl) ?_
  refine RunF.q (o_move rfl) rfl ?_
  refine RunF.q (o_extract rfl rfl) rfl ?_
  refine RunF.q (o_extract rfl rfl) rfl ?_
  refine RunF.q (o_extract rfl rfl) rfl ?_
  refine RunF.q (o_extract rfl rfl) rfl ?_
  refine RunF.q (o_assign rfl) rfl ?_
  refine RunF.q (o_assign rfl) rfl ?_
  refine RunF.q (o_assign rfl) rfl ?_
  refine RunF.q (o_assign rfl) rfl ?_
  refine AW.seq ?_
  refine AW.seq ?_
  refine AW.region (by kernel_rfl) ?_
  refine RunF.q (o_move rfl) rfl ?_
  refine RunF.q (o_neq rfl rfl) rfl ?_
  refine RunF.q (o_move rfl) rfl ?_
  refine RunF.gq rfl (o_move rfl) rfl ?_
  refine RunF.gq rfl (o_neq rfl rfl) rfl ?_
  refine RunF.q (o_pick_f rfl rfl) rfl ?_
  refine RunF.q (o_move rfl) rfl ?_
  refine RunF.gq rfl (o_move rfl) rfl ?_
  refine RunF.gq rfl (o_neq rfl rfl) rfl ?_
  refine RunF.q (o_pick_f rfl rfl) rfl ?_
  refine AW.cond rfl (fun hc1 => absurd hc1 (by simp)) (fun hc1 => ?_)
  refine AW.skip ?_
  refine AW.seq ?_
  refine AW.seq ?_
  refine AW.region (by kernel_rfl) ?_
  refine RunF.q (o_move rfl) rfl ?_
  refine RunF.q (o_leq rfl rfl) rfl ?_
  refine RunF.br (o_move rfl) rfl (fun hb15_2 => ?_) (fun hb15_2 => ?_)
  · try simp only [decide_eq_true_eq, decide_eq_false_iff_not, bne_iff_ne, beq_iff_eq, bne_eq_false_iff_eq, beq_eq_false_iff_ne, ne_eq, Bool.not_eq_true', Bool.not_eq_false'] at hb15_2
    exact absurd hb15_2 (by omega)
  · try simp only [decide_eq_true_eq, decide_eq_false_iff_not, bne_iff_ne, beq_iff_eq, bne_eq_false_iff_eq, beq_eq_false_iff_ne, ne_eq, Bool.not_eq_true', Bool.not_eq_false'] at hb15_2
    refine RunF.gq rfl (o_move rfl) rfl ?_
    refine RunF.gq rfl (o_geq rfl rfl) rfl ?_
    refine RunF.q (o_pick_f rfl rfl) rfl ?_
    refine RunF.br (o_move rfl) rfl (fun hb15_6 => ?_) (fun hb15_6 => ?_)
    · try simp only [decide_eq_true_eq, decide_eq_false_iff_not, bne_iff_ne, beq_iff_eq, bne_eq_false_iff_eq, beq_eq_false_iff_ne, ne_eq, Bool.not_eq_true', Bool.not_eq_false'] at hb15_6
      exact absurd hb15_6 (by omega)
    · try simp only [decide_eq_true_eq, decide_eq_false_iff_not, bne_iff_ne, beq_iff_eq, bne_eq_false_iff_eq, beq_eq_false_iff_ne, ne_eq, Bool.not_eq_true', Bool.not_eq_false'] at hb15_6
      refine RunF.gq rfl (o_move rfl) rfl ?_
      refine RunF.gq rfl (o_lss rfl rfl) rfl ?_
      refine RunF.q (o_pick_f rfl rfl) rfl ?_
      refine AW.cond rfl (fun hc2 => absurd hc2 (by intro h; simp at h; omega)) (fun hc2 => ?_)
      refine AW.skip ?_
      refine AW.seq ?_
      refine AW.region (by kernel_rfl) ?_
      refine RunF.q (o_load_agg rfl tk41 ts41 rfl rfl rfl nL) rfl ?_
      refine RunF.q (o_load_agg rfl tk24 ts24 rfl rfl rfl nL) rfl ?_
      refine RunF.q (o_move rfl) rfl ?_
      refine RunF.q (o_move rfl) rfl ?_
      refine RunF.q (o_call (no := 7) (nr := 3) rfl rfl rfl nC (by rfl) (by exact hin) (by rfl) rfl rfl nV rfl) (by rfl) ?_
      refine RunF.q (o_move rfl) rfl ?_
      refine RunF.q (o_extract rfl rfl) rfl ?_
      refine RunF.q (o_extract rfl rfl) rfl ?_
      refine RunF.q (o_extract rfl rfl) rfl ?_
      refine RunF.q (o_extract rfl rfl) rfl ?_
      refine RunF.q (o_assign rfl) rfl ?_
      refine RunF.q (o_assign rfl) rfl ?_
      refine RunF.q (o_assign rfl) rfl ?_
      refine RunF.q (o_assign rfl) rfl ?_
      refine AW.seq ?_
      refine AW.seq ?_
      refine AW.region (by kernel_rfl) ?_
      refine RunF.q (o_move rfl) rfl ?_
      refine RunF.q (o_neq rfl rfl) rfl ?_
      refine RunF.q (o_move rfl) rfl ?_
      refine RunF.gq rfl (o_move rfl) rfl ?_
      refine RunF.gq rfl (o_lss rfl rfl) rfl ?_
      refine RunF.q (o_pick_f rfl rfl) rfl ?_
      refine AW.cond rfl (fun hc3 => absurd hc3 (by intro h; simp at h; omega)) (fun hc3 => ?_)
      refine AW.skip ?_
      refine AW.seq ?_
      refine AW.region (by kernel_rfl) ?_
      refine RunF.q (o_move rfl) rfl ?_
      refine RunF.q (o_move rfl) rfl ?_
      refine RunF.gq rfl (o_move rfl) rfl ?_
      refine RunF.q (o_pick_t rfl rfl) rfl ?_
      refine RunF.q (o_move rfl) rfl ?_
      refine RunF.gq rfl (o_fieldAddr rfl tk41 rfl ts24 rfl) rfl ?_
      refine RunF.gq rfl (o_load_agg rfl tk24 ts24 rfl rfl rfl nL) rfl ?_
      refine RunF.gq rfl (o_fieldAddr rfl tk41 rfl ts24 rfl) rfl ?_
      refine RunF.gq rfl (o_load_agg rfl tk24 ts24 rfl rfl rfl nL) rfl ?_
      refine RunF.gq rfl (o_call (no := 7) (nr := 3) rfl rfl rfl nC (by rfl) (by exact rsame_is (z := true) (by omega) (sameM_refl _ _ _)) (by rfl) rfl rfl nV rfl) (by rfl) ?_
      refine RunF.q (o_pick_t rfl rfl) rfl ?_
      refine RunF.q (o_move rfl) rfl ?_
      refine RunF.gq rfl (o_move rfl) rfl ?_
      refine RunF.gq rfl (o_eql rfl rfl) rfl ?_
      refine RunF.gb rfl (o_move rfl) rfl (fun hb20_14 => ?_) (fun hb20_14 => ?_)
      · try simp only [decide_eq_true_eq, decide_eq_false_iff_not, bne_iff_ne, beq_iff_eq, bne_eq_false_iff_eq, beq_eq_false_iff_ne, ne_eq, Bool.not_eq_true', Bool.not_eq_false'] at hb20_14
        refine RunF.gs (b := true) rfl rfl ?_
        refine RunF.gs (b := true) rfl rfl ?_
        refine RunF.gq rfl (o_pick_t rfl rfl) rfl ?_
        refine RunF.q (o_pick_t rfl rfl) rfl ?_
        refine RunF.q (o_assign rfl) rfl ?_
        refine AW.ret ?_
        exact FinQ.ret [] [] (ress_tmp rfl ress_nil) rfl .nil (.cons rfl rfl nP (.cons rfl rfl nP (.cons rfl rfl nP .nil))) nR
      · try simp only [decide_eq_true_eq, decide_eq_false_iff_not, bne_iff_ne, beq_iff_eq, bne_eq_false_iff_eq, beq_eq_false_iff_ne, ne_eq, Bool.not_eq_true', Bool.not_eq_false'] at hb20_14
        refine RunF.gq rfl (o_move rfl) rfl ?_
        refine RunF.gq rfl (o_not rfl) rfl ?_
        refine RunF.gq rfl (o_pick_f rfl rfl) rfl ?_
        refine RunF.q (o_pick_t rfl rfl) rfl ?_
        refine RunF.q (o_assign rfl) rfl ?_
        refine AW.ret ?_
        exact FinQ.ret [] [] (ress_tmp rfl ress_nil) rfl .nil (.cons rfl rfl nP (.cons rfl rfl nP (.cons rfl rfl nP .nil))) nR

/-- whatever track is right -/
theorem kGates_ok (n : Nat) (n0 : 0 < n) (n8 : n ≤ 8) (r off : Int) (x p hl : List Int) (hx : x.length = n * 1) (hp : p.length = n * n) (hH : hl.length = 1 * n) (hr : 0 < r) (h1 : rightT n 1 x n n p = true) (h2 : rightM 1 n hl = true) (hxq : ∀ v ∈ x, inQ v) :
    SoundC Try.prog 11 [.agg [.int .i64 n, .int .i64 1, .sl (.r 0) 0 x.length 1 false, .int .i64 n, .int .i64 n, .sl (.r 1) 0 p.length 1 false, .int .i64 1, .int .i64 n, .sl (.r 2) 0 hl.length 1 false, .int .i64 r, .int .i64 off]] ⟨[ints x, ints p, ints hl], []⟩ { val := .bool true } := by
  by_cases hA : (offY hl x n 0) ≤ -70368744177664 ∨ (offY hl x n 0) ≥ 70368744177663 ∨ (offS hl p n r) < 16777216
  · rcases update_ex n n0 n8 x p hl hx hp hH false (0 - (offY hl x n 0)) r 16777216 hr with ⟨w1, hu1⟩ | ⟨w1, X1, P1, _, hu1⟩ <;>
      rcases update_ex n n0 n8 x p hl hx hp hH false off r (-16777216) hr with ⟨w2, hu2⟩ | ⟨w2, X2, P2, _, hu2⟩
    · exact kGates_upss n n0 n8 r off x p hl hx hp hH hr h1 h2 hA w1 hu1 w2 hu2
    · exact kGates_upst n n0 n8 r off x p hl hx hp hH hr h1 h2 hA w1 hu1 w2 X2 P2 hu2
    · exact kGates_upts n n0 n8 r off x p hl hx hp hH hr h1 h2 hA w1 X1 P1 hu1 w2 hu2
    · exact kGates_uptt n n0 n8 r off x p hl hx hp hH hr h1 h2 hA w1 X1 P1 hu1 w2 X2 P2 hu2
  · have a1 : -70368744177664 < (offY hl x n 0) := by omega
    have a2 : (offY hl x n 0) < 70368744177663 := by omega
    have a3 : 16777216 ≤ (offS hl p n r) := by omega
    have hb := offY_back a1 a2
    have hsi := offS_in hl p n r
    have hin := Innov_ok n n0 n8 x p hl hx hp hH false false false (0 - (offY hl x n 0)) r hr
    have hc : clampQ (offS hl p n r) ≠ 0 := clampQ_pos (by omega)
    have ht : ¬ (mulQ (offY hl x n (0 - (offY hl x n 0))) (offY hl x n (0 - (offY hl x n 0))) > mulQ 16777216 (offS hl p n r) ∨ (offS hl p n r) ≤ 0) := by
      rw [hb, mulQ_nought]
      have := mulQ_pos (s := (offS hl p n r)) (by omega)
      omega
    have hs : mulQ (offY hl x n off) (offY hl x n off) > mulQ (-16777216) (offS hl p n r) ∨ (offS hl p n r) ≤ 0 := by
      have h3 := mulQ_sq (offY hl x n off)
      have h4 := mulQ_below (s := (offS hl p n r)) (by omega) hsi.2
      exact .inl (by omega)
    have hu1 := update_take n n0 n8 x p hl hx hp hH false false false (0 - (offY hl x n 0)) r hr 16777216 ht (divD (offS hl p n r)) (fun i hi => divD_ok hc _)
    have hu2 := update_stay n n0 n8 x p hl hx hp hH false false false off r hr (-16777216) hs
    rw [hb] at hin hu1
    rw [takeX_zero hx hxq] at hu1
    exact kGates_main n n0 n8 r off x p hl hx hp hH hr h1 h2 a1 a2 a3 _ hin _ _ hu1 _ hu2

end Go.Proofs.Ytnkijhpikeokfaa
