/- The texts F31, F32. -/
import Derived.Test.YtnkijhpikeokfaaG8
import Derived.Test.YtnkijhpikeokfaaG7
set_option linter.unusedSimpArgs false
set_option linter.unusedVariables false
/- What comes out of a track told on, or held against a number, is right; what isn't taken stays. -/
namespace Go.Proofs.Ytnkijhpikeokfaa
open Go Go.Sym Go.IntWalk

theorem inQ_add (a b : Int) : inQ (addQ a b) := inQ_clampQ _
theorem pre_right {n : Nat} (n0 : 0 < n) (n8 : n ≤ 8) (F x p Q : List Int) : rightT n 1 (preX F x n) n n (preP F p Q n) = true :=
  good_right n0 n8 (rightM_of (c := 1) n0 n8 (by omega) (by omega) (mulL_len _ _ _ _ _) (mulL_inQ _ _ _ _ _)) (zipM_inQ_add _ _ _ _)
theorem take_right {n : Nat} (n0 : 0 < n) (n8 : n ≤ 8) (x K hl p : List Int) (y r : Int) : rightT n 1 (takeX x K y n) n n (takeP K hl p r n) = true :=
  good_right n0 n8 (rightM_of (c := 1) n0 n8 (by omega) (by omega) (zipM_length _ _ _ _ _) (zipM_inQ_add _ _ _ _)) (zipM_inQ_add _ _ _ _)
/-- the quotients by a number, whatever they are -/
noncomputable def divD (s a : Int) : Int × Bool := by
  classical
  exact if h : clampQ s ≠ 0 then Classical.choose (div_ex a s h) else (0, false)
theorem divD_ok {s : Int} (h : clampQ s ≠ 0) (a : Int) : SoundC Try.prog 122 [.int .i64 a, .int .i64 s] ⟨[], []⟩ { val := .tuple [.int .i64 (divD s a).1, .bool (divD s a).2] } := by
  unfold divD; rw [dif_pos h]; exact (Classical.choose_spec (div_ex a s h)).2
theorem clampQ_pos {s : Int} (h : 0 < s) : clampQ s ≠ 0 := by unfold clampQ; omega

/-- a track held against a number: it stays, or it is taken, and is right then -/
theorem update_ex (n : Nat) (n0 : 0 < n) (n8 : n ≤ 8) (x p hl : List Int) (hx : x.length = n * 1) (hp : p.length = n * n) (hH : hl.length = 1 * n) (f : Bool) (z r gate : Int) (hr : 0 < r) :
    (∃ w : Bool, SoundC Try.prog 37 [.agg [.int .i64 n, .int .i64 1, .sl (.r 0) 0 x.length 1 false, .int .i64 n, .int .i64 n, .sl (.r 1) 0 p.length 1 false], .agg [.int .i64 1, .int .i64 n, .sl (.r 2) 0 hl.length 1 f], .int .i64 z, .int .i64 r, .int .i64 gate] ⟨[ints x, ints p, ints hl], []⟩ { val := .tuple [.agg [.int .i64 n, .int .i64 1, .sl (.r 0) 0 x.length 1 false, .int .i64 n, .int .i64 n, .sl (.r 1) 0 p.length 1 false], .bool false, .bool w, .int .i64 0] }) ∨
    ∃ (w : Bool) (X2 P2 : List Int), rightT n 1 X2 n n P2 = true ∧ SoundC Try.prog 37 [.agg [.int .i64 n, .int .i64 1, .sl (.r 0) 0 x.length 1 false, .int .i64 n, .int .i64 n, .sl (.r 1) 0 p.length 1 false], .agg [.int .i64 1, .int .i64 n, .sl (.r 2) 0 hl.length 1 f], .int .i64 z, .int .i64 r, .int .i64 gate] ⟨[ints x, ints p, ints hl], []⟩ { val := .tuple [.agg [.int .i64 n, .int .i64 1, .sl (.o 0) 0 X2.length 1 false, .int .i64 n, .int .i64 n, .sl (.o 1) 0 P2.length 1 false], .bool true, .bool w, .int .i64 0], newo := [ints X2, ints P2] } := by
  by_cases hs : mulQ (offY hl x n z) (offY hl x n z) > mulQ gate (offS hl p n r) ∨ (offS hl p n r) ≤ 0
  · exact .inl ⟨_, update_stay n n0 n8 x p hl hx hp hH false false f z r hr gate hs⟩
  · have hc : clampQ (offS hl p n r) ≠ 0 := clampQ_pos (by omega)
    exact .inr ⟨_, _, _, take_right n0 n8 _ _ _ _ _ _, update_take n n0 n8 x p hl hx hp hH false false f z r hr gate hs (divD (offS hl p n r)) (fun i hi => divD_ok hc _)⟩

end Go.Proofs.Ytnkijhpikeokfaa

/- What comes out is right; what isn't taken stays: the law's own function. -/
namespace Go.Proofs.Ytnkijhpikeokfaa
open Go Go.Sym Go.IntWalk

set_option maxHeartbeats 1000000 in
theorem kStays_no1 (XR XC PR PC : Int) (fr fc qr qc hR hC z r gate : Int) (x p F Q hl : List Int) (h1 : rightT XR XC x PR PC p = false) : SoundC Try.prog 12 [.agg [.int .i64 XR, .int .i64 XC, .sl (.r 0) 0 x.length 1 false, .int .i64 PR, .int .i64 PC, .sl (.r 1) 0 p.length 1 false, .int .i64 fr, .int .i64 fc, .sl (.r 2) 0 F.length 1 false, .int .i64 qr, .int .i64 qc, .sl (.r 3) 0 Q.length 1 false, .int .i64 hR, .int .i64 hC, .sl (.r 4) 0 hl.length 1 false, .int .i64 z, .int .i64 r, .int .i64 gate]] ⟨[ints x, ints p, ints F, ints Q, ints hl], []⟩ { val := .bool true } := by
  refine SoundC.of (N := 101) Try.func12 rfl rfl rfl rfl ?_
  refine AW.seq ?_
  refine AW.region (by kernel_rfl) ?_
  refine RunF.w (o_box (nm := 0) rfl rfl rfl) nH ?_
  refine RunF.q (o_assign rfl) rfl ?_
  refine AW.seq ?_
  refine AW.region (by kernel_rfl) ?_
  refine RunF.q (o_fieldAddr rfl tk66 rfl ts41 rfl) rfl ?_
  refine RunF.q (o_load_agg rfl tk41 ts41 rfl rfl rfl nL) rfl ?_
  refine RunF.w (o_alloc (nm := 1) tz41 rfl) nH ?_
  refine RunF.wn (o_store rfl rfl rfl ts41 rfl rfl) nH ?_
  refine AW.seq ?_
  refine AW.region (by kernel_rfl) ?_
  refine RunF.q (o_fieldAddr rfl tk66 rfl ts24 rfl) rfl ?_
  refine RunF.q (o_load_agg rfl tk24 ts24 rfl rfl rfl nL) rfl ?_
  refine RunF.w (o_alloc (nm := 2) tz24 rfl) nH ?_
  refine RunF.wn (o_store rfl rfl rfl ts24 rfl rfl) nH ?_
  refine AW.seq ?_
  refine AW.region (by kernel_rfl) ?_
  refine RunF.q (o_fieldAddr rfl tk66 rfl ts24 rfl) rfl ?_
  refine RunF.q (o_load_agg rfl tk24 ts24 rfl rfl rfl nL) rfl ?_
  refine RunF.w (o_alloc (nm := 3) tz24 rfl) nH ?_
  refine RunF.wn (o_store rfl rfl rfl ts24 rfl rfl) nH ?_
  refine AW.seq ?_
  refine AW.region (by kernel_rfl) ?_
  refine RunF.q (o_fieldAddr rfl tk66 rfl ts24 rfl) rfl ?_
  refine RunF.q (o_load_agg rfl tk24 ts24 rfl rfl rfl nL) rfl ?_
  refine RunF.w (o_alloc (nm := 4) tz24 rfl) nH ?_
  refine RunF.wn (o_store rfl rfl rfl ts24 rfl rfl) nH ?_
  refine AW.seq ?_
  refine AW.region (by kernel_rfl) ?_
  refine RunF.q (o_fieldAddr rfl tk66 rfl ts64 rfl) rfl ?_
  refine RunF.q (o_load_agg rfl tk64 ts64 rfl rfl rfl nL) rfl ?_
  refine RunF.w (o_alloc (nm := 5) tz64 rfl) nH ?_
  refine RunF.wn (o_store rfl rfl rfl ts64 rfl rfl) nH ?_
  refine AW.seq ?_
  refine AW.region (by kernel_rfl) ?_
  refine RunF.q (o_call (no := 6) (nr := 5) rfl rfl rfl nC (by rfl) (by exact shown05_ok) (by rfl) rfl rfl nV rfl) (by rfl) ?_
  refine RunF.q (o_assign rfl) rfl ?_
  refine AW.seq ?_
  refine AW.seq ?_
  refine AW.region (by kernel_rfl) ?_
  refine RunF.q (o_load_agg rfl tk41 ts41 rfl rfl rfl nL) rfl ?_
  refine RunF.q (o_call (no := 6) (nr := 5) rfl rfl rfl nC (by rfl) (by exact r5right_is h1) (by rfl) rfl rfl nV rfl) (by rfl) ?_
  refine RunF.q (o_not rfl) rfl ?_
  refine RunF.q (o_move rfl) rfl ?_
  refine RunF.gs (b := true) rfl rfl ?_
  refine RunF.gs (b := true) rfl rfl ?_
  refine RunF.gs (b := true) rfl rfl ?_
  refine RunF.q (o_pick_t rfl rfl) rfl ?_
  refine RunF.q (o_move rfl) rfl ?_
  refine RunF.gs (b := true) rfl rfl ?_
  refine RunF.gs (b := true) rfl rfl ?_
  refine RunF.gs (b := true) rfl rfl ?_
  refine RunF.q (o_pick_t rfl rfl) rfl ?_
  refine RunF.q (o_move rfl) rfl ?_
  refine RunF.gs (b := true) rfl rfl ?_
  refine RunF.gs (b := true) rfl rfl ?_
  refine RunF.gs (b := true) rfl rfl ?_
  refine RunF.q (o_pick_t rfl rfl) rfl ?_
  refine AW.cond rfl (fun hc0 => ?_) (fun hc0 => absurd hc0 (by simp))
  refine AW.seq ?_
  refine AW.region (by kernel_rfl) ?_
  refine RunF.q (o_move rfl) rfl ?_
  refine RunF.q (o_assign rfl) rfl ?_
  refine AW.ret ?_
  exact FinQ.ret [] [] (ress_tmp rfl ress_nil) rfl .nil (.cons rfl rfl nP (.cons rfl rfl nP (.cons rfl rfl nP (.cons rfl rfl nP (.cons rfl rfl nP .nil))))) nR

set_option maxHeartbeats 1000000 in
theorem kStays_no2 (XR XC PR PC : Int) (fr fc qr qc hR hC z r gate : Int) (x p F Q hl : List Int) (h1 : rightT XR XC x PR PC p = true) (h2 : rightM fr fc F = false) : SoundC Try.prog 12 [.agg [.int .i64 XR, .int .i64 XC, .sl (.r 0) 0 x.length 1 false, .int .i64 PR, .int .i64 PC, .sl (.r 1) 0 p.length 1 false, .int .i64 fr, .int .i64 fc, .sl (.r 2) 0 F.length 1 false, .int .i64 qr, .int .i64 qc, .sl (.r 3) 0 Q.length 1 false, .int .i64 hR, .int .i64 hC, .sl (.r 4) 0 hl.length 1 false, .int .i64 z, .int .i64 r, .int .i64 gate]] ⟨[ints x, ints p, ints F, ints Q, ints hl], []⟩ { val := .bool true } := by
  refine SoundC.of (N := 101) Try.func12 rfl rfl rfl rfl ?_
  refine AW.seq ?_
  refine AW.region (by kernel_rfl) ?_
  refine RunF.w (o_box (nm := 0) rfl rfl rfl) nH ?_
  refine RunF.q (o_assign rfl) rfl ?_
  refine AW.seq ?_
  refine AW.region (by kernel_rfl) ?_
  refine RunF.q (o_fieldAddr rfl tk66 rfl ts41 rfl) rfl ?_
  refine RunF.q (o_load_agg rfl tk41 ts41 rfl rfl rfl nL) rfl ?_
  refine RunF.w (o_alloc (nm := 1) tz41 rfl) nH ?_
  refine RunF.wn (o_store rfl rfl rfl ts41 rfl rfl) nH ?_
  refine AW.seq ?_
  refine AW.region (by kernel_rfl) ?_
  refine RunF.q (o_fieldAddr rfl tk66 rfl ts24 rfl) rfl ?_
  refine RunF.q (o_load_agg rfl tk24 ts24 rfl rfl rfl nL) rfl ?_
  refine RunF.w (o_alloc (nm := 2) tz24 rfl) nH ?_
  refine RunF.wn (o_store rfl rfl rfl ts24 rfl rfl) nH ?_
  refine AW.seq ?_
  refine AW.region (by kernel_rfl) ?_
  refine RunF.q (o_fieldAddr rfl tk66 rfl ts24 rfl) rfl ?_
  refine RunF.q (o_load_agg rfl tk24 ts24 rfl rfl rfl nL) rfl ?_
  refine RunF.w (o_alloc (nm := 3) tz24 rfl) nH ?_
  refine RunF.wn (o_store rfl rfl rfl ts24 rfl rfl) nH ?_
  refine AW.seq ?_
  refine AW.region (by kernel_rfl) ?_
  refine RunF.q (o_fieldAddr rfl tk66 rfl ts24 rfl) rfl ?_
  refine RunF.q (o_load_agg rfl tk24 ts24 rfl rfl rfl nL) rfl ?_
  refine RunF.w (o_alloc (nm := 4) tz24 rfl) nH ?_
  refine RunF.wn (o_store rfl rfl rfl ts24 rfl rfl) nH ?_
  refine AW.seq ?_
  refine AW.region (by kernel_rfl) ?_
  refine RunF.q (o_fieldAddr rfl tk66 rfl ts64 rfl) rfl ?_
  refine RunF.q (o_load_agg rfl tk64 ts64 rfl rfl rfl nL) rfl ?_
  refine RunF.w (o_alloc (nm := 5) tz64 rfl) nH ?_
  refine RunF.wn (o_store rfl rfl rfl ts64 rfl rfl) nH ?_
  refine AW.seq ?_
  refine AW.region (by kernel_rfl) ?_
  refine RunF.q (o_call (no := 6) (nr := 5) rfl rfl rfl nC (by rfl) (by exact shown05_ok) (by rfl) rfl rfl nV rfl) (by rfl) ?_
  refine RunF.q (o_assign rfl) rfl ?_
  refine AW.seq ?_
  refine AW.seq ?_
  refine AW.region (by kernel_rfl) ?_
  refine RunF.q (o_load_agg rfl tk41 ts41 rfl rfl rfl nL) rfl ?_
  refine RunF.q (o_call (no := 6) (nr := 5) rfl rfl rfl nC (by rfl) (by exact r5right_is h1) (by rfl) rfl rfl nV rfl) (by rfl) ?_
  refine RunF.q (o_not rfl) rfl ?_
  refine RunF.q (o_move rfl) rfl ?_
  refine RunF.gq rfl (o_load_agg rfl tk24 ts24 rfl rfl rfl nL) rfl ?_
  refine RunF.gq rfl (o_call (no := 6) (nr := 5) rfl rfl rfl nC (by rfl) (by exact rright_is h2) (by rfl) rfl rfl nV rfl) (by rfl) ?_
  refine RunF.gq rfl (o_not rfl) rfl ?_
  refine RunF.q (o_pick_f rfl rfl) rfl ?_
  refine RunF.q (o_move rfl) rfl ?_
  refine RunF.gs (b := true) rfl rfl ?_
  refine RunF.gs (b := true) rfl rfl ?_
  refine RunF.gs (b := true) rfl rfl ?_
  refine RunF.q (o_pick_t rfl rfl) rfl ?_
  refine RunF.q (o_move rfl) rfl ?_
  refine RunF.gs (b := true) rfl rfl ?_
  refine RunF.gs (b := true) rfl rfl ?_
  refine RunF.gs (b := true) rfl rfl ?_
  refine RunF.q (o_pick_t rfl rfl) rfl ?_
  refine AW.cond rfl (fun hc0 => ?_) (fun hc0 => absurd hc0 (by simp))
  refine AW.seq ?_
  refine AW.region (by kernel_rfl) ?_
  refine RunF.q (o_move rfl) rfl ?_
  refine RunF.q (o_assign rfl) rfl ?_
  refine AW.ret ?_
  exact FinQ.ret [] [] (ress_tmp rfl ress_nil) rfl .nil (.cons rfl rfl nP (.cons rfl rfl nP (.cons rfl rfl nP (.cons rfl rfl nP (.cons rfl rfl nP .nil))))) nR

set_option maxHeartbeats 1000000 in
theorem kStays_no3 (XR XC PR PC : Int) (fr fc qr qc hR hC z r gate : Int) (x p F Q hl : List Int) (h1 : rightT XR XC x PR PC p = true) (h2 : rightM fr fc F = true) (h3 : rightM qr qc Q = false) : SoundC Try.prog 12 [.agg [.int .i64 XR, .int .i64 XC, .sl (.r 0) 0 x.length 1 false, .int .i64 PR, .int .i64 PC, .sl (.r 1) 0 p.length 1 false, .int .i64 fr, .int .i64 fc, .sl (.r 2) 0 F.length 1 false, .int .i64 qr, .int .i64 qc, .sl (.r 3) 0 Q.length 1 false, .int .i64 hR, .int .i64 hC, .sl (.r 4) 0 hl.length 1 false, .int .i64 z, .int .i64 r, .int .i64 gate]] ⟨[ints x, ints p, ints F, ints Q, ints hl], []⟩ { val := .bool true } := by
  refine SoundC.of (N := 101) Try.func12 rfl rfl rfl rfl ?_
  refine AW.seq ?_
  refine AW.region (by kernel_rfl) ?_
  refine RunF.w (o_box (nm := 0) rfl rfl rfl) nH ?_
  refine RunF.q (o_assign rfl) rfl ?_
  refine AW.seq ?_
  refine AW.region (by kernel_rfl) ?_
  refine RunF.q (o_fieldAddr rfl tk66 rfl ts41 rfl) rfl ?_
  refine RunF.q (o_load_agg rfl tk41 ts41 rfl rfl rfl nL) rfl ?_
  refine RunF.w (o_alloc (nm := 1) tz41 rfl) nH ?_
  refine RunF.wn (o_store rfl rfl rfl ts41 rfl rfl) nH ?_
  refine AW.seq ?_
  refine AW.region (by kernel_rfl) ?_
  refine RunF.q (o_fieldAddr rfl tk66 rfl ts24 rfl) rfl ?_
  refine RunF.q (o_load_agg rfl tk24 ts24 rfl rfl rfl nL) rfl ?_
  refine RunF.w (o_alloc (nm := 2) tz24 rfl) nH ?_
  refine RunF.wn (o_store rfl rfl rfl ts24 rfl rfl) nH ?_
  refine AW.seq ?_
  refine AW.region (by kernel_rfl) ?_
  refine RunF.q (o_fieldAddr rfl tk66 rfl ts24 rfl) rfl ?_
  refine RunF.q (o_load_agg rfl tk24 ts24 rfl rfl rfl nL) rfl ?_
  refine RunF.w (o_alloc (nm := 3) tz24 rfl) nH ?_
  refine RunF.wn (o_store rfl rfl rfl ts24 rfl rfl) nH ?_
  refine AW.seq ?_
  refine AW.region (by kernel_rfl) ?_
  refine RunF.q (o_fieldAddr rfl tk66 rfl ts24 rfl) rfl ?_
  refine RunF.q (o_load_agg rfl tk24 ts24 rfl rfl rfl nL) rfl ?_
  refine RunF.w (o_alloc (nm := 4) tz24 rfl) nH ?_
  refine RunF.wn (o_store rfl rfl rfl ts24 rfl rfl) nH ?_
  refine AW.seq ?_
  refine AW.region (by kernel_rfl) ?_
  refine RunF.q (o_fieldAddr rfl tk66 rfl ts64 rfl) rfl ?_
  refine RunF.q (o_load_agg rfl tk64 ts64 rfl rfl rfl nL) rfl ?_
  refine RunF.w (o_alloc (nm := 5) tz64 rfl) nH ?_
  refine RunF.wn (o_store rfl rfl rfl ts64 rfl rfl) nH ?_
  refine AW.seq ?_
  refine AW.region (by kernel_rfl) ?_
  refine RunF.q (o_call (no := 6) (nr := 5) rfl rfl rfl nC (by rfl) (by exact shown05_ok) (by rfl) rfl rfl nV rfl) (by rfl) ?_
  refine RunF.q (o_assign rfl) rfl ?_
  refine AW.seq ?_
  refine AW.seq ?_
  refine AW.region (by kernel_rfl) ?_
  refine RunF.q (o_load_agg rfl tk41 ts41 rfl rfl rfl nL) rfl ?_
  refine RunF.q (o_call (no := 6) (nr := 5) rfl rfl rfl nC (by rfl) (by exact r5right_is h1) (by rfl) rfl rfl nV rfl) (by rfl) ?_
  refine RunF.q (o_not rfl) rfl ?_
  refine RunF.q (o_move rfl) rfl ?_
  refine RunF.gq rfl (o_load_agg rfl tk24 ts24 rfl rfl rfl nL) rfl ?_
  refine RunF.gq rfl (o_call (no := 6) (nr := 5) rfl rfl rfl nC (by rfl) (by exact rright_is h2) (by rfl) rfl rfl nV rfl) (by rfl) ?_
  refine RunF.gq rfl (o_not rfl) rfl ?_
  refine RunF.q (o_pick_f rfl rfl) rfl ?_
  refine RunF.q (o_move rfl) rfl ?_
  refine RunF.gq rfl (o_load_agg rfl tk24 ts24 rfl rfl rfl nL) rfl ?_
  refine RunF.gq rfl (o_call (no := 6) (nr := 5) rfl rfl rfl nC (by rfl) (by exact rright_is h3) (by rfl) rfl rfl nV rfl) (by rfl) ?_
  refine RunF.gq rfl (o_not rfl) rfl ?_
  refine RunF.q (o_pick_f rfl rfl) rfl ?_
  refine RunF.q (o_move rfl) rfl ?_
  refine RunF.gs (b := true) rfl rfl ?_
  refine RunF.gs (b := true) rfl rfl ?_
  refine RunF.gs (b := true) rfl rfl ?_
  refine RunF.q (o_pick_t rfl rfl) rfl ?_
  refine AW.cond rfl (fun hc0 => ?_) (fun hc0 => absurd hc0 (by simp))
  refine AW.seq ?_
  refine AW.region (by kernel_rfl) ?_
  refine RunF.q (o_move rfl) rfl ?_
  refine RunF.q (o_assign rfl) rfl ?_
  refine AW.ret ?_
  exact FinQ.ret [] [] (ress_tmp rfl ress_nil) rfl .nil (.cons rfl rfl nP (.cons rfl rfl nP (.cons rfl rfl nP (.cons rfl rfl nP (.cons rfl rfl nP .nil))))) nR

set_option maxHeartbeats 1000000 in
theorem kStays_no4 (XR XC PR PC : Int) (fr fc qr qc hR hC z r gate : Int) (x p F Q hl : List Int) (h1 : rightT XR XC x PR PC p = true) (h2 : rightM fr fc F = true) (h3 : rightM qr qc Q = true) (h4 : rightM hR hC hl = false) : SoundC Try.prog 12 [.agg [.int .i64 XR, .int .i64 XC, .sl (.r 0) 0 x.length 1 false, .int .i64 PR, .int .i64 PC, .sl (.r 1) 0 p.length 1 false, .int .i64 fr, .int .i64 fc, .sl (.r 2) 0 F.length 1 false, .int .i64 qr, .int .i64 qc, .sl (.r 3) 0 Q.length 1 false, .int .i64 hR, .int .i64 hC, .sl (.r 4) 0 hl.length 1 false, .int .i64 z, .int .i64 r, .int .i64 gate]] ⟨[ints x, ints p, ints F, ints Q, ints hl], []⟩ { val := .bool true } := by
  refine SoundC.of (N := 101) Try.func12 rfl rfl rfl rfl ?_
  refine AW.seq ?_
  refine AW.region (by kernel_rfl) ?_
  refine RunF.w (o_box (nm := 0) rfl rfl rfl) nH ?_
  refine RunF.q (o_assign rfl) rfl ?_
  refine AW.seq ?_
  refine AW.region (by kernel_rfl) ?_
  refine RunF.q (o_fieldAddr rfl tk66 rfl ts41 rfl) rfl ?_
  refine RunF.q (o_load_agg rfl tk41 ts41 rfl rfl rfl nL) rfl ?_
  refine RunF.w (o_alloc (nm := 1) tz41 rfl) nH ?_
  refine RunF.wn (o_store rfl rfl rfl ts41 rfl rfl) nH ?_
  refine AW.seq ?_
  refine AW.region (by kernel_rfl) ?_
  refine RunF.q (o_fieldAddr rfl tk66 rfl ts24 rfl) rfl ?_
  refine RunF.q (o_load_agg rfl tk24 ts24 rfl rfl rfl nL) rfl ?_
  refine RunF.w (o_alloc (nm := 2) tz24 rfl) nH ?_
  refine RunF.wn (o_store rfl rfl rfl ts24 rfl rfl) nH ?_
  refine AW.seq ?_
  refine AW.region (by kernel_rfl) ?_
  refine RunF.q (o_fieldAddr rfl tk66 rfl ts24 rfl) rfl ?_
  refine RunF.q (o_load_agg rfl tk24 ts24 rfl rfl rfl nL) rfl ?_
  refine RunF.w (o_alloc (nm := 3) tz24 rfl) nH ?_
  refine RunF.wn (o_store rfl rfl rfl ts24 rfl rfl) nH ?_
  refine AW.seq ?_
  refine AW.region (by kernel_rfl) ?_
  refine RunF.q (o_fieldAddr rfl tk66 rfl ts24 rfl) rfl ?_
  refine RunF.q (o_load_agg rfl tk24 ts24 rfl rfl rfl nL) rfl ?_
  refine RunF.w (o_alloc (nm := 4) tz24 rfl) nH ?_
  refine RunF.wn (o_store rfl rfl rfl ts24 rfl rfl) nH ?_
  refine AW.seq ?_
  refine AW.region (by kernel_rfl) ?_
  refine RunF.q (o_fieldAddr rfl tk66 rfl ts64 rfl) rfl ?_
  refine RunF.q (o_load_agg rfl tk64 ts64 rfl rfl rfl nL) rfl ?_
  refine RunF.w (o_alloc (nm := 5) tz64 rfl) nH ?_
  refine RunF.wn (o_store rfl rfl rfl ts64 rfl rfl) nH ?_
  refine AW.seq ?_
  refine AW.region (by kernel_rfl) ?_
  refine RunF.q (o_call (no := 6) (nr := 5) rfl rfl rfl nC (by rfl) (by exact shown05_ok) (by rfl) rfl rfl nV rfl) (by rfl) ?_
  refine RunF.q (o_assign rfl) rfl ?_
  refine AW.seq ?_
  refine AW.seq ?_
  refine AW.region (by kernel_rfl) ?_
  refine RunF.q (o_load_agg rfl tk41 ts41 rfl rfl rfl nL) rfl ?_
  refine RunF.q (o_call (no := 6) (nr := 5) rfl rfl rfl nC (by rfl) (by exact r5right_is h1) (by rfl) rfl rfl nV rfl) (by rfl) ?_
  refine RunF.q (o_not rfl) rfl ?_
  refine RunF.q (o_move rfl) rfl ?_
  refine RunF.gq rfl (o_load_agg rfl tk24 ts24 rfl rfl rfl nL) rfl ?_
  refine RunF.gq rfl (o_call (no := 6) (nr := 5) rfl rfl rfl nC (by rfl) (by exact rright_is h2) (by rfl) rfl rfl nV rfl) (by rfl) ?_
  refine RunF.gq rfl (o_not rfl) rfl ?_
  refine RunF.q (o_pick_f rfl rfl) rfl ?_
  refine RunF.q (o_move rfl) rfl ?_
  refine RunF.gq rfl (o_load_agg rfl tk24 ts24 rfl rfl rfl nL) rfl ?_
  refine RunF.gq rfl (o_call (no := 6) (nr := 5) rfl rfl rfl nC (by rfl) (by exact rright_is h3) (by rfl) rfl rfl nV rfl) (by rfl) ?_
  refine RunF.gq rfl (o_not rfl) rfl ?_
  refine RunF.q (o_pick_f rfl rfl) rfl ?_
  refine RunF.q (o_move rfl) rfl ?_
  refine RunF.gq rfl (o_load_agg rfl tk24 ts24 rfl rfl rfl nL) rfl ?_
  refine RunF.gq rfl (o_call (no := 6) (nr := 5) rfl rfl rfl nC (by rfl) (by exact rright_is h4) (by rfl) rfl rfl nV rfl) (by rfl) ?_
  refine RunF.gq rfl (o_not rfl) rfl ?_
  refine RunF.q (o_pick_f rfl rfl) rfl ?_
  refine AW.cond rfl (fun hc0 => ?_) (fun hc0 => absurd hc0 (by simp))
  refine AW.seq ?_
  refine AW.region (by kernel_rfl) ?_
  refine RunF.q (o_move rfl) rfl ?_
  refine RunF.q (o_assign rfl) rfl ?_
  refine AW.ret ?_
  exact FinQ.ret [] [] (ress_tmp rfl ress_nil) rfl .nil (.cons rfl rfl nP (.cons rfl rfl nP (.cons rfl rfl nP (.cons rfl rfl nP (.cons rfl rfl nP .nil))))) nR

set_option maxHeartbeats 1000000 in
theorem kStays_nn (n : Nat) (n0 : 0 < n) (n8 : n ≤ 8) (fr fc qr qc hR hC z r gate : Int) (x p F Q hl : List Int) (hx : x.length = n * 1) (hp : p.length = n * n) (hr : rightT n 1 x n n p = true) (h2 : rightM fr fc F = true) (h3 : rightM qr qc Q = true) (h4 : rightM hR hC hl = true) (hpr : SoundC Try.prog 47 [.agg [.int .i64 n, .int .i64 1, .sl (.r 0) 0 x.length 1 false, .int .i64 n, .int .i64 n, .sl (.r 1) 0 p.length 1 false], .agg [.int .i64 fr, .int .i64 fc, .sl (.r 2) 0 F.length 1 false], .agg [.int .i64 qr, .int .i64 qc, .sl (.r 3) 0 Q.length 1 false]] ⟨[ints x, ints p, ints F, ints Q], []⟩ { val := .tuple [.agg [.int .i64 0, .int .i64 0, .nilsl, .int .i64 0, .int .i64 0, .nilsl], .bool false, .int .i64 9] }) (e : Int) (he : e ≠ 0) (hup : SoundC Try.prog 37 [.agg [.int .i64 n, .int .i64 1, .sl (.r 0) 0 x.length 1 false, .int .i64 n, .int .i64 n, .sl (.r 1) 0 p.length 1 false], .agg [.int .i64 hR, .int .i64 hC, .sl (.r 2) 0 hl.length 1 false], .int .i64 z, .int .i64 r, .int .i64 gate] ⟨[ints x, ints p, ints hl], []⟩ { val := .tuple [.agg [.int .i64 0, .int .i64 0, .nilsl, .int .i64 0, .int .i64 0, .nilsl], .bool false, .bool false, .int .i64 e] }) : SoundC Try.prog 12 [.agg [.int .i64 n, .int .i64 1, .sl (.r 0) 0 x.length 1 false, .int .i64 n, .int .i64 n, .sl (.r 1) 0 p.length 1 false, .int .i64 fr, .int .i64 fc, .sl (.r 2) 0 F.length 1 false, .int .i64 qr, .int .i64 qc, .sl (.r 3) 0 Q.length 1 false, .int .i64 hR, .int .i64 hC, .sl (.r 4) 0 hl.length 1 false, .int .i64 z, .int .i64 r, .int .i64 gate]] ⟨[ints x, ints p, ints F, ints Q, ints hl], []⟩ { val := .bool true } := by
  have hsm := small_mul n8 n8
  refine SoundC.of (N := 101) Try.func12 rfl rfl rfl rfl ?_
  refine AW.seq ?_
  refine AW.region (by kernel_rfl) ?_
  refine RunF.w (o_box (nm := 0) rfl rfl rfl) nH2 ?_
  refine RunF.q (o_assign rfl) rfl ?_
  refine AW.seq ?_
  refine AW.region (by kernel_rfl) ?_
  refine RunF.q (o_fieldAddr rfl tk66 rfl ts41 rfl) rfl ?_
  refine RunF.q (o_load_agg rfl tk41 ts41 rfl rfl rfl nL) rfl ?_
  refine RunF.w (o_alloc (nm := 1) tz41 rfl) nH2 ?_
  refine RunF.wn (o_store rfl rfl rfl ts41 rfl rfl) nH2 ?_
  refine AW.seq ?_
  refine AW.region (by kernel_rfl) ?_
  refine RunF.q (o_fieldAddr rfl tk66 rfl ts24 rfl) rfl ?_
  refine RunF.q (o_load_agg rfl tk24 ts24 rfl rfl rfl nL) rfl ?_
  refine RunF.w (o_alloc (nm := 2) tz24 rfl) nH2 ?_
  refine RunF.wn (o_store rfl rfl rfl ts24 rfl rfl) nH2 ?_
  refine AW.seq ?_
  refine AW.region (by kernel_rfl) ?_
  refine RunF.q (o_fieldAddr rfl tk66 rfl ts24 rfl) rfl ?_
  refine RunF.q (o_load_agg rfl tk24 ts24 rfl rfl rfl nL) rfl ?_
  refine RunF.w (o_alloc (nm := 3) tz24 rfl) nH2 ?_
  refine RunF.wn (o_store rfl rfl rfl ts24 rfl rfl) nH2 ?_
  refine AW.seq ?_
  refine AW.region (by kernel_rfl) ?_
  refine RunF.q (o_fieldAddr rfl tk66 rfl ts24 rfl) rfl ?_
  refine RunF.q (o_load_agg rfl tk24 ts24 rfl rfl rfl nL) rfl ?_
  refine RunF.w (o_alloc (nm := 4) tz24 rfl) nH2 ?_
  refine RunF.wn (o_store rfl rfl rfl ts24 rfl rfl) nH2 ?_
  refine AW.seq ?_
  refine AW.region (by kernel_rfl) ?_
  refine RunF.q (o_fieldAddr rfl tk66 rfl ts64 rfl) rfl ?_
  refine RunF.q (o_load_agg rfl tk64 ts64 rfl rfl rfl nL) rfl ?_
  refine RunF.w (o_alloc (nm := 5) tz64 rfl) nH2 ?_
  refine RunF.wn (o_store rfl rfl rfl ts64 rfl rfl) nH2 ?_
  refine AW.seq ?_
  refine AW.region (by kernel_rfl) ?_
  refine RunF.q (o_call (no := 6) (nr := 5) rfl rfl rfl nC (by rfl) (by exact shown05_ok) (by rfl) rfl rfl nV rfl) (by rfl) ?_
  refine RunF.q (o_assign rfl) rfl ?_
  refine AW.seq ?_
  refine AW.seq ?_
  refine AW.region (by kernel_rfl) ?_
  refine RunF.q (o_load_agg rfl tk41 ts41 rfl rfl rfl nL) rfl ?_
  refine RunF.q (o_call (no := 6) (nr := 5) rfl rfl rfl nC (by rfl) (by exact r5right_is hr) (by rfl) rfl rfl nV rfl) (by rfl) ?_
  refine RunF.q (o_not rfl) rfl ?_
  refine RunF.q (o_move rfl) rfl ?_
  refine RunF.gq rfl (o_load_agg rfl tk24 ts24 rfl rfl rfl nL) rfl ?_
  refine RunF.gq rfl (o_call (no := 6) (nr := 5) rfl rfl rfl nC (by rfl) (by exact rright_is h2) (by rfl) rfl rfl nV rfl) (by rfl) ?_
  refine RunF.gq rfl (o_not rfl) rfl ?_
  refine RunF.q (o_pick_f rfl rfl) rfl ?_
  refine RunF.q (o_move rfl) rfl ?_
  refine RunF.gq rfl (o_load_agg rfl tk24 ts24 rfl rfl rfl nL) rfl ?_
  refine RunF.gq rfl (o_call (no := 6) (nr := 5) rfl rfl rfl nC (by rfl) (by exact rright_is h3) (by rfl) rfl rfl nV rfl) (by rfl) ?_
  refine RunF.gq rfl (o_not rfl) rfl ?_
  refine RunF.q (o_pick_f rfl rfl) rfl ?_
  refine RunF.q (o_move rfl) rfl ?_
  refine RunF.gq rfl (o_load_agg rfl tk24 ts24 rfl rfl rfl nL) rfl ?_
  refine RunF.gq rfl (o_call (no := 6) (nr := 5) rfl rfl rfl nC (by rfl) (by exact rright_is h4) (by rfl) rfl rfl nV rfl) (by rfl) ?_
  refine RunF.gq rfl (o_not rfl) rfl ?_
  refine RunF.q (o_pick_f rfl rfl) rfl ?_
  refine AW.cond rfl (fun hc0 => absurd hc0 (by simp)) (fun hc0 => ?_)
  refine AW.skip ?_
  refine AW.seq ?_
  refine AW.region (by kernel_rfl) ?_
  refine RunF.q (o_load_agg rfl tk41 ts41 rfl rfl rfl nL) rfl ?_
  refine RunF.q (o_load_agg rfl tk24 ts24 rfl rfl rfl nL) rfl ?_
  refine RunF.q (o_load_agg rfl tk24 ts24 rfl rfl rfl nL) rfl ?_
  refine RunF.q (o_call (no := 6) (nr := 5) rfl rfl rfl nC (by rfl) (by exact hpr) (by rfl) rfl rfl nV rfl) (by rfl) ?_
  refine RunF.q (o_move rfl) rfl ?_
  refine RunF.q (o_extract rfl rfl) rfl ?_
  refine RunF.q (o_extract rfl rfl) rfl ?_
  refine RunF.q (o_extract rfl rfl) rfl ?_
  refine RunF.w (o_alloc (nm := 6) tz41 rfl) nH2 ?_
  refine RunF.wn (o_store rfl rfl rfl ts41 rfl rfl) nH2 ?_
  refine RunF.q (o_assign rfl) rfl ?_
  refine RunF.q (o_assign rfl) rfl ?_
  refine AW.seq ?_
  refine AW.region (by kernel_rfl) ?_
  refine RunF.q (o_load_agg rfl tk41 ts41 rfl rfl rfl nL) rfl ?_
  refine RunF.q (o_load_agg rfl tk24 ts24 rfl rfl rfl nL) rfl ?_
  refine RunF.q (o_indexAddr_arr tk64 ts30 rfl rfl (by first | decide | (constructor <;> omega)) rfl) rfl ?_
  refine RunF.q (o_load rfl tk30 ts30 rfl rfl rfl) rfl ?_
  refine RunF.q (o_indexAddr_arr tk64 ts30 rfl rfl (by first | decide | (constructor <;> omega)) rfl) rfl ?_
  refine RunF.q (o_load rfl tk30 ts30 rfl rfl rfl) rfl ?_
  refine RunF.q (o_indexAddr_arr tk64 ts30 rfl rfl (by first | decide | (constructor <;> omega)) rfl) rfl ?_
  refine RunF.q (o_load rfl tk30 ts30 rfl rfl rfl) rfl ?_
  refine RunF.q (o_call (no := 7) (nr := 5) rfl rfl rfl nC (by rfl) (by exact hup) (by rfl) rfl rfl nV rfl) (by rfl) ?_
  refine RunF.q (o_move rfl) rfl ?_
  refine RunF.q (o_extract rfl rfl) rfl ?_
  refine RunF.q (o_extract rfl rfl) rfl ?_
  refine RunF.q (o_extract rfl rfl) rfl ?_
  refine RunF.q (o_extract rfl rfl) rfl ?_
  refine RunF.w (o_alloc (nm := 7) tz41 rfl) nH2 ?_
  refine RunF.wn (o_store rfl rfl rfl ts41 rfl rfl) nH2 ?_
  refine RunF.q (o_assign rfl) rfl ?_
  refine RunF.q (o_assign rfl) rfl ?_
  refine RunF.q (o_assign rfl) rfl ?_
  refine AW.seq ?_
  refine AW.seq ?_
  refine AW.region (by kernel_rfl) ?_
  refine RunF.q (o_move rfl) rfl ?_
  refine RunF.q (o_eql rfl rfl) rfl ?_
  refine RunF.q (o_move rfl) rfl ?_
  refine RunF.gs (b := false) rfl rfl ?_
  refine RunF.gs (b := false) rfl rfl ?_
  refine RunF.gs (b := false) rfl rfl ?_
  refine RunF.q (o_pick_f rfl rfl) rfl ?_
  refine RunF.q (o_move rfl) rfl ?_
  refine RunF.gq rfl (o_move rfl) rfl ?_
  refine RunF.gq rfl (o_bin (v := .bool false) rfl rfl (by simp only [binA, if_true]; rw [beq_eq_false_iff_ne.mpr he])) rfl ?_
  refine RunF.gq rfl (o_move rfl) rfl ?_
  refine RunF.gs (b := false) rfl rfl ?_
  refine RunF.gs (b := false) rfl rfl ?_
  refine RunF.gs (b := false) rfl rfl ?_
  refine RunF.gq rfl (o_pick_f rfl rfl) rfl ?_
  refine RunF.q (o_pick_f rfl rfl) rfl ?_
  refine AW.cond rfl (fun hc1 => absurd hc1 (by simp)) (fun hc1 => ?_)
  refine AW.skip ?_
  refine AW.seq ?_
  refine AW.region (by kernel_rfl) ?_
  refine RunF.q (o_move rfl) rfl ?_
  refine RunF.q (o_move rfl) rfl ?_
  refine RunF.gq rfl (o_move rfl) rfl ?_
  refine RunF.gq rfl (o_bin (v := .bool true) rfl rfl (by simp only [binA, if_true]; rw [bne_iff_ne.mpr he])) rfl ?_
  refine RunF.gq rfl (o_move rfl) rfl ?_
  refine RunF.gs (b := true) rfl rfl ?_
  refine RunF.gq rfl (o_pick_t rfl rfl) rfl ?_
  refine RunF.gq rfl (o_move rfl) rfl ?_
  refine RunF.gs (b := true) rfl rfl ?_
  refine RunF.gs (b := true) rfl rfl ?_
  refine RunF.gs (b := true) rfl rfl ?_
  refine RunF.gq rfl (o_pick_t rfl rfl) rfl ?_
  refine RunF.q (o_pick_t rfl rfl) rfl ?_
  refine RunF.q (o_move rfl) rfl ?_
  refine RunF.gq rfl (o_load_agg rfl tk41 ts41 rfl rfl rfl nL) rfl ?_
  refine RunF.gq rfl (o_call (no := 8) (nr := 5) rfl rfl rfl nC (by rfl) (by exact kright_is hr) (by rfl) rfl rfl nV rfl) (by rfl) ?_
  refine RunF.q (o_pick_t rfl rfl) rfl ?_
  refine RunF.q (o_assign rfl) rfl ?_
  refine AW.ret ?_
  exact FinQ.ret [] [] (ress_tmp rfl ress_nil) rfl .nil (.cons rfl rfl nP (.cons rfl rfl nP (.cons rfl rfl nP (.cons rfl rfl nP (.cons rfl rfl nP .nil))))) nR

set_option maxHeartbeats 1000000 in
theorem kStays_ns (n : Nat) (n0 : 0 < n) (n8 : n ≤ 8) (fr fc qr qc hR hC z r gate : Int) (x p F Q hl : List Int) (hx : x.length = n * 1) (hp : p.length = n * n) (hr : rightT n 1 x n n p = true) (h2 : rightM fr fc F = true) (h3 : rightM qr qc Q = true) (h4 : rightM hR hC hl = true) (hpr : SoundC Try.prog 47 [.agg [.int .i64 n, .int .i64 1, .sl (.r 0) 0 x.length 1 false, .int .i64 n, .int .i64 n, .sl (.r 1) 0 p.length 1 false], .agg [.int .i64 fr, .int .i64 fc, .sl (.r 2) 0 F.length 1 false], .agg [.int .i64 qr, .int .i64 qc, .sl (.r 3) 0 Q.length 1 false]] ⟨[ints x, ints p, ints F, ints Q], []⟩ { val := .tuple [.agg [.int .i64 0, .int .i64 0, .nilsl, .int .i64 0, .int .i64 0, .nilsl], .bool false, .int .i64 9] }) (w2 : Bool) (hup : SoundC Try.prog 37 [.agg [.int .i64 n, .int .i64 1, .sl (.r 0) 0 x.length 1 false, .int .i64 n, .int .i64 n, .sl (.r 1) 0 p.length 1 false], .agg [.int .i64 hR, .int .i64 hC, .sl (.r 2) 0 hl.length 1 false], .int .i64 z, .int .i64 r, .int .i64 gate] ⟨[ints x, ints p, ints hl], []⟩ { val := .tuple [.agg [.int .i64 n, .int .i64 1, .sl (.r 0) 0 x.length 1 false, .int .i64 n, .int .i64 n, .sl (.r 1) 0 p.length 1 false], .bool false, .bool w2, .int .i64 0] }) : SoundC Try.prog 12 [.agg [.int .i64 n, .int .i64 1, .sl (.r 0) 0 x.length 1 false, .int .i64 n, .int .i64 n, .sl (.r 1) 0 p.length 1 false, .int .i64 fr, .int .i64 fc, .sl (.r 2) 0 F.length 1 false, .int .i64 qr, .int .i64 qc, .sl (.r 3) 0 Q.length 1 false, .int .i64 hR, .int .i64 hC, .sl (.r 4) 0 hl.length 1 false, .int .i64 z, .int .i64 r, .int .i64 gate]] ⟨[ints x, ints p, ints F, ints Q, ints hl], []⟩ { val := .bool true } := by
  have hsm := small_mul n8 n8
  refine SoundC.of (N := 101) Try.func12 rfl rfl rfl rfl ?_
  refine AW.seq ?_
  refine AW.region (by kernel_rfl) ?_
  refine RunF.w (o_box (nm := 0) rfl rfl rfl) nH2 ?_
  refine RunF.q (o_assign rfl) rfl ?_
  refine AW.seq ?_
  refine AW.region (by kernel_rfl) ?_
  refine RunF.q (o_fieldAddr rfl tk66 rfl ts41 rfl) rfl ?_
  refine RunF.q (o_load_agg rfl tk41 ts41 rfl rfl rfl nL) rfl ?_
  refine RunF.w (o_alloc (nm := 1) tz41 rfl) nH2 ?_
  refine RunF.wn (o_store rfl rfl rfl ts41 rfl rfl) nH2 ?_
  refine AW.seq ?_
  refine AW.region (by kernel_rfl) ?_
  refine RunF.q (o_fieldAddr rfl tk66 rfl ts24 rfl) rfl ?_
  refine RunF.q (o_load_agg rfl tk24 ts24 rfl rfl rfl nL) rfl ?_
  refine RunF.w (o_alloc (nm := 2) tz24 rfl) nH2 ?_
  refine RunF.wn (o_store rfl rfl rfl ts24 rfl rfl) nH2 ?_
  refine AW.seq ?_
  refine AW.region (by kernel_rfl) ?_
  refine RunF.q (o_fieldAddr rfl tk66 rfl ts24 rfl) rfl ?_
  refine RunF.q (o_load_agg rfl tk24 ts24 rfl rfl rfl nL) rfl ?_
  refine RunF.w (o_alloc (nm := 3) tz24 rfl) nH2 ?_
  refine RunF.wn (o_store rfl rfl rfl ts24 rfl rfl) nH2 ?_
  refine AW.seq ?_
  refine AW.region (by kernel_rfl) ?_
  refine RunF.q (o_fieldAddr rfl tk66 rfl ts24 rfl) rfl ?_
  refine RunF.q (o_load_agg rfl tk24 ts24 rfl rfl rfl nL) rfl ?_
  refine RunF.w (o_alloc (nm := 4) tz24 rfl) nH2 ?_
  refine RunF.wn (o_store rfl rfl rfl ts24 rfl rfl) nH2 ?_
  refine AW.seq ?_
  refine AW.region (by kernel_rfl) ?_
  refine RunF.q (o_fieldAddr rfl tk66 rfl ts64 rfl) rfl ?_
  refine RunF.q (o_load_agg rfl tk64 ts64 rfl rfl rfl nL) rfl ?_
  refine RunF.w (o_alloc (nm := 5) tz64 rfl) nH2 ?_
  refine RunF.wn (o_store rfl rfl rfl ts64 rfl rfl) nH2 ?_
  refine AW.seq ?_
  refine AW.region (by kernel_rfl) ?_
  refine RunF.q (o_call (no := 6) (nr := 5) rfl rfl rfl nC (by rfl) (by exact shown05_ok) (by rfl) rfl rfl nV rfl) (by rfl) ?_
  refine RunF.q (o_assign rfl) rfl ?_
  refine AW.seq ?_
  refine AW.seq ?_
  refine AW.region (by kernel_rfl) ?_
  refine RunF.q (o_load_agg rfl tk41 ts41 rfl rfl rfl nL) rfl ?_
  refine RunF.q (o_call (no := 6) (nr := 5) rfl rfl rfl nC (by rfl) (by exact r5right_is hr) (by rfl) rfl rfl nV rfl) (by rfl) ?_
  refine RunF.q (o_not rfl) rfl ?_
  refine RunF.q (o_move rfl) rfl ?_
  refine RunF.gq rfl (o_load_agg rfl tk24 ts24 rfl rfl rfl nL) rfl ?_
  refine RunF.gq rfl (o_call (no := 6) (nr := 5) rfl rfl rfl nC (by rfl) (by exact rright_is h2) (by rfl) rfl rfl nV rfl) (by rfl) ?_
  refine RunF.gq rfl (o_not rfl) rfl ?_
  refine RunF.q (o_pick_f rfl rfl) rfl ?_
  refine RunF.q (o_move rfl) rfl ?_
  refine RunF.gq rfl (o_load_agg rfl tk24 ts24 rfl rfl rfl nL) rfl ?_
  refine RunF.gq rfl (o_call (no := 6) (nr := 5) rfl rfl rfl nC (by rfl) (by exact rright_is h3) (by rfl) rfl rfl nV rfl) (by rfl) ?_
  refine RunF.gq rfl (o_not rfl) rfl ?_
  refine RunF.q (o_pick_f rfl rfl) rfl ?_
  refine RunF.q (o_move rfl) rfl ?_
  refine RunF.gq rfl (o_load_agg rfl tk24 ts24 rfl rfl rfl nL) rfl ?_
  refine RunF.gq rfl (o_call (no := 6) (nr := 5) rfl rfl rfl nC (by rfl) (by exact rright_is h4) (by rfl) rfl rfl nV rfl) (by rfl) ?_
  refine RunF.gq rfl (o_not rfl) rfl ?_
  refine RunF.q (o_pick_f rfl rfl) rfl ?_
  refine AW.cond rfl (fun hc0 => absurd hc0 (by simp)) (fun hc0 => ?_)
  refine AW.skip ?_
  refine AW.seq ?_
  refine AW.region (by kernel_rfl) ?_
  refine RunF.q (o_load_agg rfl tk41 ts41 rfl rfl rfl nL) rfl ?_
  refine RunF.q (o_load_agg rfl tk24 ts24 rfl rfl rfl nL) rfl ?_
  refine RunF.q (o_load_agg rfl tk24 ts24 rfl rfl rfl nL) rfl ?_
  refine RunF.q (o_call (no := 6) (nr := 5) rfl rfl rfl nC (by rfl) (by exact hpr) (by rfl) rfl rfl nV rfl) (by rfl) ?_
  refine RunF.q (o_move rfl) rfl ?_
  refine RunF.q (o_extract rfl rfl) rfl ?_
  refine RunF.q (o_extract rfl rfl) rfl ?_
  refine RunF.q (o_extract rfl rfl) rfl ?_
  refine RunF.w (o_alloc (nm := 6) tz41 rfl) nH2 ?_
  refine RunF.wn (o_store rfl rfl rfl ts41 rfl rfl) nH2 ?_
  refine RunF.q (o_assign rfl) rfl ?_
  refine RunF.q (o_assign rfl) rfl ?_
  refine AW.seq ?_
  refine AW.region (by kernel_rfl) ?_
  refine RunF.q (o_load_agg rfl tk41 ts41 rfl rfl rfl nL) rfl ?_
  refine RunF.q (o_load_agg rfl tk24 ts24 rfl rfl rfl nL) rfl ?_
  refine RunF.q (o_indexAddr_arr tk64 ts30 rfl rfl (by first | decide | (constructor <;> omega)) rfl) rfl ?_
  refine RunF.q (o_load rfl tk30 ts30 rfl rfl rfl) rfl ?_
  refine RunF.q (o_indexAddr_arr tk64 ts30 rfl rfl (by first | decide | (constructor <;> omega)) rfl) rfl ?_
  refine RunF.q (o_load rfl tk30 ts30 rfl rfl rfl) rfl ?_
  refine RunF.q (o_indexAddr_arr tk64 ts30 rfl rfl (by first | decide | (constructor <;> omega)) rfl) rfl ?_
  refine RunF.q (o_load rfl tk30 ts30 rfl rfl rfl) rfl ?_
  refine RunF.q (o_call (no := 7) (nr := 5) rfl rfl rfl nC (by rfl) (by exact hup) (by rfl) rfl rfl nV rfl) (by rfl) ?_
  refine RunF.q (o_move rfl) rfl ?_
  refine RunF.q (o_extract rfl rfl) rfl ?_
  refine RunF.q (o_extract rfl rfl) rfl ?_
  refine RunF.q (o_extract rfl rfl) rfl ?_
  refine RunF.q (o_extract rfl rfl) rfl ?_
  refine RunF.w (o_alloc (nm := 7) tz41 rfl) nH2 ?_
  refine RunF.wn (o_store rfl rfl rfl ts41 rfl rfl) nH2 ?_
  refine RunF.q (o_assign rfl) rfl ?_
  refine RunF.q (o_assign rfl) rfl ?_
  refine RunF.q (o_assign rfl) rfl ?_
  refine AW.seq ?_
  refine AW.seq ?_
  refine AW.region (by kernel_rfl) ?_
  refine RunF.q (o_move rfl) rfl ?_
  refine RunF.q (o_eql rfl rfl) rfl ?_
  refine RunF.q (o_move rfl) rfl ?_
  refine RunF.gs (b := false) rfl rfl ?_
  refine RunF.gs (b := false) rfl rfl ?_
  refine RunF.gs (b := false) rfl rfl ?_
  refine RunF.q (o_pick_f rfl rfl) rfl ?_
  refine RunF.q (o_move rfl) rfl ?_
  refine RunF.gq rfl (o_move rfl) rfl ?_
  refine RunF.gq rfl (o_eql rfl rfl) rfl ?_
  refine RunF.gq rfl (o_move rfl) rfl ?_
  refine RunF.gq rfl (o_load_agg rfl tk41 ts41 rfl rfl rfl nL) rfl ?_
  refine RunF.gq rfl (o_call (no := 8) (nr := 5) rfl rfl rfl nC (by rfl) (by exact r5right_is hr) (by rfl) rfl rfl nV rfl) (by rfl) ?_
  refine RunF.gq rfl (o_not rfl) rfl ?_
  refine RunF.gq rfl (o_pick_t rfl rfl) rfl ?_
  refine RunF.q (o_pick_f rfl rfl) rfl ?_
  refine AW.cond rfl (fun hc1 => absurd hc1 (by simp)) (fun hc1 => ?_)
  refine AW.skip ?_
  refine AW.seq ?_
  refine AW.region (by kernel_rfl) ?_
  refine RunF.q (o_move rfl) rfl ?_
  refine RunF.q (o_move rfl) rfl ?_
  refine RunF.gq rfl (o_move rfl) rfl ?_
  refine RunF.gq rfl (o_neq rfl rfl) rfl ?_
  refine RunF.gq rfl (o_move rfl) rfl ?_
  refine RunF.gq rfl (o_move rfl) rfl ?_
  refine RunF.gq rfl (o_pick_f rfl rfl) rfl ?_
  refine RunF.gq rfl (o_move rfl) rfl ?_
  refine RunF.gq rfl (o_load_agg rfl tk41 ts41 rfl rfl rfl nL) rfl ?_
  refine RunF.gq rfl (o_load_agg rfl tk41 ts41 rfl rfl rfl nL) rfl ?_
  refine RunF.gq rfl (o_call (no := 8) (nr := 5) rfl rfl rfl nC (by rfl) (by exact r5same_is (z := true) (by omega) (by omega) (by rw [sameM_refl, sameM_refl]; rfl)) (by rfl) rfl rfl nV rfl) (by rfl) ?_
  refine RunF.gq rfl (o_pick_f rfl rfl) rfl ?_
  refine RunF.q (o_pick_t rfl rfl) rfl ?_
  refine RunF.q (o_move rfl) rfl ?_
  refine RunF.gq rfl (o_load_agg rfl tk41 ts41 rfl rfl rfl nL) rfl ?_
  refine RunF.gq rfl (o_call (no := 8) (nr := 5) rfl rfl rfl nC (by rfl) (by exact kright_is hr) (by rfl) rfl rfl nV rfl) (by rfl) ?_
  refine RunF.q (o_pick_t rfl rfl) rfl ?_
  refine RunF.q (o_assign rfl) rfl ?_
  refine AW.ret ?_
  exact FinQ.ret [] [] (ress_tmp rfl ress_nil) rfl .nil (.cons rfl rfl nP (.cons rfl rfl nP (.cons rfl rfl nP (.cons rfl rfl nP (.cons rfl rfl nP .nil))))) nR

set_option maxHeartbeats 1000000 in
theorem kStays_nt (n : Nat) (n0 : 0 < n) (n8 : n ≤ 8) (fr fc qr qc hR hC z r gate : Int) (x p F Q hl : List Int) (hx : x.length = n * 1) (hp : p.length = n * n) (hr : rightT n 1 x n n p = true) (h2 : rightM fr fc F = true) (h3 : rightM qr qc Q = true) (h4 : rightM hR hC hl = true) (hpr : SoundC Try.prog 47 [.agg [.int .i64 n, .int .i64 1, .sl (.r 0) 0 x.length 1 false, .int .i64 n, .int .i64 n, .sl (.r 1) 0 p.length 1 false], .agg [.int .i64 fr, .int .i64 fc, .sl (.r 2) 0 F.length 1 false], .agg [.int .i64 qr, .int .i64 qc, .sl (.r 3) 0 Q.length 1 false]] ⟨[ints x, ints p, ints F, ints Q], []⟩ { val := .tuple [.agg [.int .i64 0, .int .i64 0, .nilsl, .int .i64 0, .int .i64 0, .nilsl], .bool false, .int .i64 9] }) (w2 : Bool) (X2 P2 : List Int) (hr2 : rightT n 1 X2 n n P2 = true) (hup : SoundC Try.prog 37 [.agg [.int .i64 n, .int .i64 1, .sl (.r 0) 0 x.length 1 false, .int .i64 n, .int .i64 n, .sl (.r 1) 0 p.length 1 false], .agg [.int .i64 hR, .int .i64 hC, .sl (.r 2) 0 hl.length 1 false], .int .i64 z, .int .i64 r, .int .i64 gate] ⟨[ints x, ints p, ints hl], []⟩ { val := .tuple [.agg [.int .i64 n, .int .i64 1, .sl (.o 0) 0 X2.length 1 false, .int .i64 n, .int .i64 n, .sl (.o 1) 0 P2.length 1 false], .bool true, .bool w2, .int .i64 0], newo := [ints X2, ints P2] }) : SoundC Try.prog 12 [.agg [.int .i64 n, .int .i64 1, .sl (.r 0) 0 x.length 1 false, .int .i64 n, .int .i64 n, .sl (.r 1) 0 p.length 1 false, .int .i64 fr, .int .i64 fc, .sl (.r 2) 0 F.length 1 false, .int .i64 qr, .int .i64 qc, .sl (.r 3) 0 Q.length 1 false, .int .i64 hR, .int .i64 hC, .sl (.r 4) 0 hl.length 1 false, .int .i64 z, .int .i64 r, .int .i64 gate]] ⟨[ints x, ints p, ints F, ints Q, ints hl], []⟩ { val := .bool true } := by
  have hsm := small_mul n8 n8
  refine SoundC.of (N := 101) Try.func12 rfl rfl rfl rfl ?_
  refine AW.seq ?_
  refine AW.region (by kernel_rfl) ?_
  refine RunF.w (o_box (nm := 0) rfl rfl rfl) nH2 ?_
  refine RunF.q (o_assign rfl) rfl ?_
  refine AW.seq ?_
  refine AW.region (by kernel_rfl) ?_
  refine RunF.q (o_fieldAddr rfl tk66 rfl ts41 rfl) rfl ?_
  refine RunF.q (o_load_agg rfl tk41 ts41 rfl rfl rfl nL) rfl ?_
  refine RunF.w (o_alloc (nm := 1) tz41 rfl) nH2 ?_
  refine RunF.wn (o_store rfl rfl rfl ts41 rfl rfl) nH2 ?_
  refine AW.seq ?_
  refine AW.region (by kernel_rfl) ?_
  refine RunF.q (o_fieldAddr rfl tk66 rfl ts24 rfl) rfl ?_
  refine RunF.q (o_load_agg rfl tk24 ts24 rfl rfl rfl nL) rfl ?_
  refine RunF.w (o_alloc (nm := 2) tz24 rfl) nH2 ?_
  refine RunF.wn (o_store rfl rfl rfl ts24 rfl rfl) nH2 ?_
  refine AW.seq ?_
  refine AW.region (by kernel_rfl) ?_
  refine RunF.q (o_fieldAddr rfl tk66 rfl ts24 rfl) rfl ?_
  refine RunF.q (o_load_agg rfl tk24 ts24 rfl rfl rfl nL) rfl ?_
  refine RunF.w (o_alloc (nm := 3) tz24 rfl) nH2 ?_
  refine RunF.wn (o_store rfl rfl rfl ts24 rfl rfl) nH2 ?_
  refine AW.seq ?_
  refine AW.region (by kernel_rfl) ?_
  refine RunF.q (o_fieldAddr rfl tk66 rfl ts24 rfl) rfl ?_
  refine RunF.q (o_load_agg rfl tk24 ts24 rfl rfl rfl nL) rfl ?_
  refine RunF.w (o_alloc (nm := 4) tz24 rfl) nH2 ?_
  refine RunF.wn (o_store rfl rfl rfl ts24 rfl rfl) nH2 ?_
  refine AW.seq ?_
  refine AW.region (by kernel_rfl) ?_
  refine RunF.q (o_fieldAddr rfl tk66 rfl ts64 rfl) rfl ?_
  refine RunF.q (o_load_agg rfl tk64 ts64 rfl rfl rfl nL) rfl ?_
  refine RunF.w (o_alloc (nm := 5) tz64 rfl) nH2 ?_
  refine RunF.wn (o_store rfl rfl rfl ts64 rfl rfl) nH2 ?_
  refine AW.seq ?_
  refine AW.region (by kernel_rfl) ?_
  refine RunF.q (o_call (no := 6) (nr := 5) rfl rfl rfl nC (by rfl) (by exact shown05_ok) (by rfl) rfl rfl nV rfl) (by rfl) ?_
  refine RunF.q (o_assign rfl) rfl ?_
  refine AW.seq ?_
  refine AW.seq ?_
  refine AW.region (by kernel_rfl) ?_
  refine RunF.q (o_load_agg rfl tk41 ts41 rfl rfl rfl nL) rfl ?_
  refine RunF.q (o_call (no := 6) (nr := 5) rfl rfl rfl nC (by rfl) (by exact r5right_is hr) (by rfl) rfl rfl nV rfl) (by rfl) ?_
  refine RunF.q (o_not rfl) rfl ?_
  refine RunF.q (o_move rfl) rfl ?_
  refine RunF.gq rfl (o_load_agg rfl tk24 ts24 rfl rfl rfl nL) rfl ?_
  refine RunF.gq rfl (o_call (no := 6) (nr := 5) rfl rfl rfl nC (by rfl) (by exact rright_is h2) (by rfl) rfl rfl nV rfl) (by rfl) ?_
  refine RunF.gq rfl (o_not rfl) rfl ?_
  refine RunF.q (o_pick_f rfl rfl) rfl ?_
  refine RunF.q (o_move rfl) rfl ?_
  refine RunF.gq rfl (o_load_agg rfl tk24 ts24 rfl rfl rfl nL) rfl ?_
  refine RunF.gq rfl (o_call (no := 6) (nr := 5) rfl rfl rfl nC (by rfl) (by exact rright_is h3) (by rfl) rfl rfl nV rfl) (by rfl) ?_
  refine RunF.gq rfl (o_not rfl) rfl ?_
  refine RunF.q (o_pick_f rfl rfl) rfl ?_
  refine RunF.q (o_move rfl) rfl ?_
  refine RunF.gq rfl (o_load_agg rfl tk24 ts24 rfl rfl rfl nL) rfl ?_
  refine RunF.gq rfl (o_call (no := 6) (nr := 5) rfl rfl rfl nC (by rfl) (by exact rright_is h4) (by rfl) rfl rfl nV rfl) (by rfl) ?_
  refine RunF.gq rfl (o_not rfl) rfl ?_
  refine RunF.q (o_pick_f rfl rfl) rfl ?_
  refine AW.cond rfl (fun hc0 => absurd hc0 (by simp)) (fun hc0 => ?_)
  refine AW.skip ?_
  refine AW.seq ?_
  refine AW.region (by kernel_rfl) ?_
  refine RunF.q (o_load_agg rfl tk41 ts41 rfl rfl rfl nL) rfl ?_
  refine RunF.q (o_load_agg rfl tk24 ts24 rfl rfl rfl nL) rfl ?_
  refine RunF.q (o_load_agg rfl tk24 ts24 rfl rfl rfl nL) rfl ?_
  refine RunF.q (o_call (no := 6) (nr := 5) rfl rfl rfl nC (by rfl) (by exact hpr) (by rfl) rfl rfl nV rfl) (by rfl) ?_
  refine RunF.q (o_move rfl) rfl ?_
  refine RunF.q (o_extract rfl rfl) rfl ?_
  refine RunF.q (o_extract rfl rfl) rfl ?_
  refine RunF.q (o_extract rfl rfl) rfl ?_
  refine RunF.w (o_alloc (nm := 6) tz41 rfl) nH2 ?_
  refine RunF.wn (o_store rfl rfl rfl ts41 rfl rfl) nH2 ?_
  refine RunF.q (o_assign rfl) rfl ?_
  refine RunF.q (o_assign rfl) rfl ?_
  refine AW.seq ?_
  refine AW.region (by kernel_rfl) ?_
  refine RunF.q (o_load_agg rfl tk41 ts41 rfl rfl rfl nL) rfl ?_
  refine RunF.q (o_load_agg rfl tk24 ts24 rfl rfl rfl nL) rfl ?_
  refine RunF.q (o_indexAddr_arr tk64 ts30 rfl rfl (by first | decide | (constructor <;> omega)) rfl) rfl ?_
  refine RunF.q (o_load rfl tk30 ts30 rfl rfl rfl) rfl ?_
  refine RunF.q (o_indexAddr_arr tk64 ts30 rfl rfl (by first | decide | (constructor <;> omega)) rfl) rfl ?_
  refine RunF.q (o_load rfl tk30 ts30 rfl rfl rfl) rfl ?_
  refine RunF.q (o_indexAddr_arr tk64 ts30 rfl rfl (by first | decide | (constructor <;> omega)) rfl) rfl ?_
  refine RunF.q (o_load rfl tk30 ts30 rfl rfl rfl) rfl ?_
  refine RunF.w (o_call (no := 7) (nr := 5) rfl rfl rfl nC (by rfl) (by exact hup) (by rfl) rfl rfl nV nE) nH2 ?_
  refine RunF.q (o_move rfl) rfl ?_
  refine RunF.q (o_extract rfl rfl) rfl ?_
  refine RunF.q (o_extract rfl rfl) rfl ?_
  refine RunF.q (o_extract rfl rfl) rfl ?_
  refine RunF.q (o_extract rfl rfl) rfl ?_
  refine RunF.w (o_alloc (nm := 9) tz41 rfl) nH2 ?_
  refine RunF.wn (o_store rfl rfl rfl ts41 rfl rfl) nH2 ?_
  refine RunF.q (o_assign rfl) rfl ?_
  refine RunF.q (o_assign rfl) rfl ?_
  refine RunF.q (o_assign rfl) rfl ?_
  refine AW.seq ?_
  refine AW.seq ?_
  refine AW.region (by kernel_rfl) ?_
  refine RunF.q (o_move rfl) rfl ?_
  refine RunF.q (o_eql rfl rfl) rfl ?_
  refine RunF.q (o_move rfl) rfl ?_
  refine RunF.gs (b := false) rfl rfl ?_
  refine RunF.gs (b := false) rfl rfl ?_
  refine RunF.gs (b := false) rfl rfl ?_
  refine RunF.q (o_pick_f rfl rfl) rfl ?_
  refine RunF.q (o_move rfl) rfl ?_
  refine RunF.gq rfl (o_move rfl) rfl ?_
  refine RunF.gq rfl (o_eql rfl rfl) rfl ?_
  refine RunF.gq rfl (o_move rfl) rfl ?_
  refine RunF.gq rfl (o_load_agg rfl tk41 ts41 rfl rfl rfl nL) rfl ?_
  refine RunF.gq rfl (o_call (no := 10) (nr := 5) rfl rfl rfl nC (by rfl) (by exact r5right_is hr2) (by rfl) rfl rfl nV rfl) (by rfl) ?_
  refine RunF.gq rfl (o_not rfl) rfl ?_
  refine RunF.gq rfl (o_pick_t rfl rfl) rfl ?_
  refine RunF.q (o_pick_f rfl rfl) rfl ?_
  refine AW.cond rfl (fun hc1 => absurd hc1 (by simp)) (fun hc1 => ?_)
  refine AW.skip ?_
  refine AW.seq ?_
  refine AW.region (by kernel_rfl) ?_
  refine RunF.q (o_move rfl) rfl ?_
  refine RunF.q (o_move rfl) rfl ?_
  refine RunF.gq rfl (o_move rfl) rfl ?_
  refine RunF.gq rfl (o_neq rfl rfl) rfl ?_
  refine RunF.gq rfl (o_move rfl) rfl ?_
  refine RunF.gq rfl (o_move rfl) rfl ?_
  refine RunF.gq rfl (o_pick_f rfl rfl) rfl ?_
  refine RunF.gq rfl (o_move rfl) rfl ?_
  refine RunF.gs (b := true) rfl rfl ?_
  refine RunF.gs (b := true) rfl rfl ?_
  refine RunF.gs (b := true) rfl rfl ?_
  refine RunF.gq rfl (o_pick_t rfl rfl) rfl ?_
  refine RunF.q (o_pick_t rfl rfl) rfl ?_
  refine RunF.q (o_move rfl) rfl ?_
  refine RunF.gq rfl (o_load_agg rfl tk41 ts41 rfl rfl rfl nL) rfl ?_
  refine RunF.gq rfl (o_call (no := 10) (nr := 5) rfl rfl rfl nC (by rfl) (by exact kright_is hr) (by rfl) rfl rfl nV rfl) (by rfl) ?_
  refine RunF.q (o_pick_t rfl rfl) rfl ?_
  refine RunF.q (o_assign rfl) rfl ?_
  refine AW.ret ?_
  exact FinQ.ret [] [] (ress_tmp rfl ress_nil) rfl .nil (.cons rfl rfl nP (.cons rfl rfl nP (.cons rfl rfl nP (.cons rfl rfl nP (.cons rfl rfl nP .nil))))) nR

set_option maxHeartbeats 1000000 in
theorem kStays_yn (n : Nat) (n0 : 0 < n) (n8 : n ≤ 8) (fr fc qr qc hR hC z r gate : Int) (x p F Q hl : List Int) (hx : x.length = n * 1) (hp : p.length = n * n) (hr : rightT n 1 x n n p = true) (h2 : rightM fr fc F = true) (h3 : rightM qr qc Q = true) (h4 : rightM hR hC hl = true) (w1 : Bool) (X1 P1 : List Int) (hr1 : rightT n 1 X1 n n P1 = true) (hpr : SoundC Try.prog 47 [.agg [.int .i64 n, .int .i64 1, .sl (.r 0) 0 x.length 1 false, .int .i64 n, .int .i64 n, .sl (.r 1) 0 p.length 1 false], .agg [.int .i64 fr, .int .i64 fc, .sl (.r 2) 0 F.length 1 false], .agg [.int .i64 qr, .int .i64 qc, .sl (.r 3) 0 Q.length 1 false]] ⟨[ints x, ints p, ints F, ints Q], []⟩ { val := .tuple [.agg [.int .i64 n, .int .i64 1, .sl (.o 0) 0 X1.length 1 false, .int .i64 n, .int .i64 n, .sl (.o 1) 0 P1.length 1 false], .bool w1, .int .i64 0], newo := [ints X1, ints P1] }) (e : Int) (he : e ≠ 0) (hup : SoundC Try.prog 37 [.agg [.int .i64 n, .int .i64 1, .sl (.r 0) 0 x.length 1 false, .int .i64 n, .int .i64 n, .sl (.r 1) 0 p.length 1 false], .agg [.int .i64 hR, .int .i64 hC, .sl (.r 2) 0 hl.length 1 false], .int .i64 z, .int .i64 r, .int .i64 gate] ⟨[ints x, ints p, ints hl], []⟩ { val := .tuple [.agg [.int .i64 0, .int .i64 0, .nilsl, .int .i64 0, .int .i64 0, .nilsl], .bool false, .bool false, .int .i64 e] }) : SoundC Try.prog 12 [.agg [.int .i64 n, .int .i64 1, .sl (.r 0) 0 x.length 1 false, .int .i64 n, .int .i64 n, .sl (.r 1) 0 p.length 1 false, .int .i64 fr, .int .i64 fc, .sl (.r 2) 0 F.length 1 false, .int .i64 qr, .int .i64 qc, .sl (.r 3) 0 Q.length 1 false, .int .i64 hR, .int .i64 hC, .sl (.r 4) 0 hl.length 1 false, .int .i64 z, .int .i64 r, .int .i64 gate]] ⟨[ints x, ints p, ints F, ints Q, ints hl], []⟩ { val := .bool true } := by
  have hsm := small_mul n8 n8
  refine SoundC.of (N := 101) Try.func12 rfl rfl rfl rfl ?_
  refine AW.seq ?_
  refine AW.region (by kernel_rfl) ?_
  refine RunF.w (o_box (nm := 0) rfl rfl rfl) nH2 ?_
  refine RunF.q (o_assign rfl) rfl ?_
  refine AW.seq ?_
  refine AW.region (by kernel_rfl) ?_
  refine RunF.q (o_fieldAddr rfl tk66 rfl ts41 rfl) rfl ?_
  refine RunF.q (o_load_agg rfl tk41 ts41 rfl rfl rfl nL) rfl ?_
  refine RunF.w (o_alloc (nm := 1) tz41 rfl) nH2 ?_
  refine RunF.wn (o_store rfl rfl rfl ts41 rfl rfl) nH2 ?_
  refine AW.seq ?_
  refine AW.region (by kernel_rfl) ?_
  refine RunF.q (o_fieldAddr rfl tk66 rfl ts24 rfl) rfl ?_
  refine RunF.q (o_load_agg rfl tk24 ts24 rfl rfl rfl nL) rfl ?_
  refine RunF.w (o_alloc (nm := 2) tz24 rfl) nH2 ?_
  refine RunF.wn (o_store rfl rfl rfl ts24 rfl rfl) nH2 ?_
  refine AW.seq ?_
  refine AW.region (by kernel_rfl) ?_
  refine RunF.q (o_fieldAddr rfl tk66 rfl ts24 rfl) rfl ?_
  refine RunF.q (o_load_agg rfl tk24 ts24 rfl rfl rfl nL) rfl ?_
  refine RunF.w (o_alloc (nm := 3) tz24 rfl) nH2 ?_
  refine RunF.wn (o_store rfl rfl rfl ts24 rfl rfl) nH2 ?_
  refine AW.seq ?_
  refine AW.region (by kernel_rfl) ?_
  refine RunF.q (o_fieldAddr rfl tk66 rfl ts24 rfl) rfl ?_
  refine RunF.q (o_load_agg rfl tk24 ts24 rfl rfl rfl nL) rfl ?_
  refine RunF.w (o_alloc (nm := 4) tz24 rfl) nH2 ?_
  refine RunF.wn (o_store rfl rfl rfl ts24 rfl rfl) nH2 ?_
  refine AW.seq ?_
  refine AW.region (by kernel_rfl) ?_
  refine RunF.q (o_fieldAddr rfl tk66 rfl ts64 rfl) rfl ?_
  refine RunF.q (o_load_agg rfl tk64 ts64 rfl rfl rfl nL) rfl ?_
  refine RunF.w (o_alloc (nm := 5) tz64 rfl) nH2 ?_
  refine RunF.wn (o_store rfl rfl rfl ts64 rfl rfl) nH2 ?_
  refine AW.seq ?_
  refine AW.region (by kernel_rfl) ?_
  refine RunF.q (o_call (no := 6) (nr := 5) rfl rfl rfl nC (by rfl) (by exact shown05_ok) (by rfl) rfl rfl nV rfl) (by rfl) ?_
  refine RunF.q (o_assign rfl) rfl ?_
  refine AW.seq ?_
  refine AW.seq ?_
  refine AW.region (by kernel_rfl) ?_
  refine RunF.q (o_load_agg rfl tk41 ts41 rfl rfl rfl nL) rfl ?_
  refine RunF.q (o_call (no := 6) (nr := 5) rfl rfl rfl nC (by rfl) (by exact r5right_is hr) (by rfl) rfl rfl nV rfl) (by rfl) ?_
  refine RunF.q (o_not rfl) rfl ?_
  refine RunF.q (o_move rfl) rfl ?_
  refine RunF.gq rfl (o_load_agg rfl tk24 ts24 rfl rfl rfl nL) rfl ?_
  refine RunF.gq rfl (o_call (no := 6) (nr := 5) rfl rfl rfl nC (by rfl) (by exact rright_is h2) (by rfl) rfl rfl nV rfl) (by rfl) ?_
  refine RunF.gq rfl (o_not rfl) rfl ?_
  refine RunF.q (o_pick_f rfl rfl) rfl ?_
  refine RunF.q (o_move rfl) rfl ?_
  refine RunF.gq rfl (o_load_agg rfl tk24 ts24 rfl rfl rfl nL) rfl ?_
  refine RunF.gq rfl (o_call (no := 6) (nr := 5) rfl rfl rfl nC (by rfl) (by exact rright_is h3) (by rfl) rfl rfl nV rfl) (by rfl) ?_
  refine RunF.gq rfl (o_not rfl) rfl ?_
  refine RunF.q (o_pick_f rfl rfl) rfl ?_
  refine RunF.q (o_move rfl) rfl ?_
  refine RunF.gq rfl (o_load_agg rfl tk24 ts24 rfl rfl rfl nL) rfl ?_
  refine RunF.gq rfl (o_call (no := 6) (nr := 5) rfl rfl rfl nC (by rfl) (by exact rright_is h4) (by rfl) rfl rfl nV rfl) (by rfl) ?_
  refine RunF.gq rfl (o_not rfl) rfl ?_
  refine RunF.q (o_pick_f rfl rfl) rfl ?_
  refine AW.cond rfl (fun hc0 => absurd hc0 (by simp)) (fun hc0 => ?_)
  refine AW.skip ?_
  refine AW.seq ?_
  refine AW.region (by kernel_rfl) ?_
  refine RunF.q (o_load_agg rfl tk41 ts41 rfl rfl rfl nL) rfl ?_
  refine RunF.q (o_load_agg rfl tk24 ts24 rfl rfl rfl nL) rfl ?_
  refine RunF.q (o_load_agg rfl tk24 ts24 rfl rfl rfl nL) rfl ?_
  refine RunF.w (o_call (no := 6) (nr := 5) rfl rfl rfl nC (by rfl) (by exact hpr) (by rfl) rfl rfl nV nE) nH2 ?_
  refine RunF.q (o_move rfl) rfl ?_
  refine RunF.q (o_extract rfl rfl) rfl ?_
  refine RunF.q (o_extract rfl rfl) rfl ?_
  refine RunF.q (o_extract rfl rfl) rfl ?_
  refine RunF.w (o_alloc (nm := 8) tz41 rfl) nH2 ?_
  refine RunF.wn (o_store rfl rfl rfl ts41 rfl rfl) nH2 ?_
  refine RunF.q (o_assign rfl) rfl ?_
  refine RunF.q (o_assign rfl) rfl ?_
  refine AW.seq ?_
  refine AW.region (by kernel_rfl) ?_
  refine RunF.q (o_load_agg rfl tk41 ts41 rfl rfl rfl nL) rfl ?_
  refine RunF.q (o_load_agg rfl tk24 ts24 rfl rfl rfl nL) rfl ?_
  refine RunF.q (o_indexAddr_arr tk64 ts30 rfl rfl (by first | decide | (constructor <;> omega)) rfl) rfl ?_
  refine RunF.q (o_load rfl tk30 ts30 rfl rfl rfl) rfl ?_
  refine RunF.q (o_indexAddr_arr tk64 ts30 rfl rfl (by first | decide | (constructor <;> omega)) rfl) rfl ?_
  refine RunF.q (o_load rfl tk30 ts30 rfl rfl rfl) rfl ?_
  refine RunF.q (o_indexAddr_arr tk64 ts30 rfl rfl (by first | decide | (constructor <;> omega)) rfl) rfl ?_
  refine RunF.q (o_load rfl tk30 ts30 rfl rfl rfl) rfl ?_
  refine RunF.q (o_call (no := 9) (nr := 5) rfl rfl rfl nC (by rfl) (by exact hup) (by rfl) rfl rfl nV rfl) (by rfl) ?_
  refine RunF.q (o_move rfl) rfl ?_
  refine RunF.q (o_extract rfl rfl) rfl ?_
  refine RunF.q (o_extract rfl rfl) rfl ?_
  refine RunF.q (o_extract rfl rfl) rfl ?_
  refine RunF.q (o_extract rfl rfl) rfl ?_
  refine RunF.w (o_alloc (nm := 9) tz41 rfl) nH2 ?_
  refine RunF.wn (o_store rfl rfl rfl ts41 rfl rfl) nH2 ?_
  refine RunF.q (o_assign rfl) rfl ?_
  refine RunF.q (o_assign rfl) rfl ?_
  refine RunF.q (o_assign rfl) rfl ?_
  refine AW.seq ?_
  refine AW.seq ?_
  refine AW.region (by kernel_rfl) ?_
  refine RunF.q (o_move rfl) rfl ?_
  refine RunF.q (o_eql rfl rfl) rfl ?_
  refine RunF.q (o_move rfl) rfl ?_
  refine RunF.gq rfl (o_load_agg rfl tk41 ts41 rfl rfl rfl nL) rfl ?_
  refine RunF.gq rfl (o_call (no := 10) (nr := 5) rfl rfl rfl nC (by rfl) (by exact r5right_is hr1) (by rfl) rfl rfl nV rfl) (by rfl) ?_
  refine RunF.gq rfl (o_not rfl) rfl ?_
  refine RunF.q (o_pick_t rfl rfl) rfl ?_
  refine RunF.q (o_move rfl) rfl ?_
  refine RunF.gq rfl (o_move rfl) rfl ?_
  refine RunF.gq rfl (o_bin (v := .bool false) rfl rfl (by simp only [binA, if_true]; rw [beq_eq_false_iff_ne.mpr he])) rfl ?_
  refine RunF.gq rfl (o_move rfl) rfl ?_
  refine RunF.gs (b := false) rfl rfl ?_
  refine RunF.gs (b := false) rfl rfl ?_
  refine RunF.gs (b := false) rfl rfl ?_
  refine RunF.gq rfl (o_pick_f rfl rfl) rfl ?_
  refine RunF.q (o_pick_f rfl rfl) rfl ?_
  refine AW.cond rfl (fun hc1 => absurd hc1 (by simp)) (fun hc1 => ?_)
  refine AW.skip ?_
  refine AW.seq ?_
  refine AW.region (by kernel_rfl) ?_
  refine RunF.q (o_move rfl) rfl ?_
  refine RunF.q (o_move rfl) rfl ?_
  refine RunF.gq rfl (o_move rfl) rfl ?_
  refine RunF.gq rfl (o_bin (v := .bool true) rfl rfl (by simp only [binA, if_true]; rw [bne_iff_ne.mpr he])) rfl ?_
  refine RunF.gq rfl (o_move rfl) rfl ?_
  refine RunF.gs (b := true) rfl rfl ?_
  refine RunF.gq rfl (o_pick_t rfl rfl) rfl ?_
  refine RunF.gq rfl (o_move rfl) rfl ?_
  refine RunF.gs (b := true) rfl rfl ?_
  refine RunF.gs (b := true) rfl rfl ?_
  refine RunF.gs (b := true) rfl rfl ?_
  refine RunF.gq rfl (o_pick_t rfl rfl) rfl ?_
  refine RunF.q (o_pick_t rfl rfl) rfl ?_
  refine RunF.q (o_move rfl) rfl ?_
  refine RunF.gq rfl (o_load_agg rfl tk41 ts41 rfl rfl rfl nL) rfl ?_
  refine RunF.gq rfl (o_call (no := 10) (nr := 5) rfl rfl rfl nC (by rfl) (by exact kright_is hr) (by rfl) rfl rfl nV rfl) (by rfl) ?_
  refine RunF.q (o_pick_t rfl rfl) rfl ?_
  refine RunF.q (o_assign rfl) rfl ?_
  refine AW.ret ?_
  exact FinQ.ret [] [] (ress_tmp rfl ress_nil) rfl .nil (.cons rfl rfl nP (.cons rfl rfl nP (.cons rfl rfl nP (.cons rfl rfl nP (.cons rfl rfl nP .nil))))) nR

set_option maxHeartbeats 1000000 in
theorem kStays_ys (n : Nat) (n0 : 0 < n) (n8 : n ≤ 8) (fr fc qr qc hR hC z r gate : Int) (x p F Q hl : List Int) (hx : x.length = n * 1) (hp : p.length = n * n) (hr : rightT n 1 x n n p = true) (h2 : rightM fr fc F = true) (h3 : rightM qr qc Q = true) (h4 : rightM hR hC hl = true) (w1 : Bool) (X1 P1 : List Int) (hr1 : rightT n 1 X1 n n P1 = true) (hpr : SoundC Try.prog 47 [.agg [.int .i64 n, .int .i64 1, .sl (.r 0) 0 x.length 1 false, .int .i64 n, .int .i64 n, .sl (.r 1) 0 p.length 1 false], .agg [.int .i64 fr, .int .i64 fc, .sl (.r 2) 0 F.length 1 false], .agg [.int .i64 qr, .int .i64 qc, .sl (.r 3) 0 Q.length 1 false]] ⟨[ints x, ints p, ints F, ints Q], []⟩ { val := .tuple [.agg [.int .i64 n, .int .i64 1, .sl (.o 0) 0 X1.length 1 false, .int .i64 n, .int .i64 n, .sl (.o 1) 0 P1.length 1 false], .bool w1, .int .i64 0], newo := [ints X1, ints P1] }) (w2 : Bool) (hup : SoundC Try.prog 37 [.agg [.int .i64 n, .int .i64 1, .sl (.r 0) 0 x.length 1 false, .int .i64 n, .int .i64 n, .sl (.r 1) 0 p.length 1 false], .agg [.int .i64 hR, .int .i64 hC, .sl (.r 2) 0 hl.length 1 false], .int .i64 z, .int .i64 r, .int .i64 gate] ⟨[ints x, ints p, ints hl], []⟩ { val := .tuple [.agg [.int .i64 n, .int .i64 1, .sl (.r 0) 0 x.length 1 false, .int .i64 n, .int .i64 n, .sl (.r 1) 0 p.length 1 false], .bool false, .bool w2, .int .i64 0] }) : SoundC Try.prog 12 [.agg [.int .i64 n, .int .i64 1, .sl (.r 0) 0 x.length 1 false, .int .i64 n, .int .i64 n, .sl (.r 1) 0 p.length 1 false, .int .i64 fr, .int .i64 fc, .sl (.r 2) 0 F.length 1 false, .int .i64 qr, .int .i64 qc, .sl (.r 3) 0 Q.length 1 false, .int .i64 hR, .int .i64 hC, .sl (.r 4) 0 hl.length 1 false, .int .i64 z, .int .i64 r, .int .i64 gate]] ⟨[ints x, ints p, ints F, ints Q, ints hl], []⟩ { val := .bool true } := by
  have hsm := small_mul n8 n8
  refine SoundC.of (N := 101) Try.func12 rfl rfl rfl rfl ?_
  refine AW.seq ?_
  refine AW.region (by kernel_rfl) ?_
  refine RunF.w (o_box (nm := 0) rfl rfl rfl) nH2 ?_
  refine RunF.q (o_assign rfl) rfl ?_
  refine AW.seq ?_
  refine AW.region (by kernel_rfl) ?_
  refine RunF.q (o_fieldAddr rfl tk66 rfl ts41 rfl) rfl ?_
  refine RunF.q (o_load_agg rfl tk41 ts41 rfl rfl rfl nL) rfl ?_
  refine RunF.w (o_alloc (nm := 1) tz41 rfl) nH2 ?_
  refine RunF.wn (o_store rfl rfl rfl ts41 rfl rfl) nH2 ?_
  refine AW.seq ?_
  refine AW.region (by kernel_rfl) ?_
  refine RunF.q (o_fieldAddr rfl tk66 rfl ts24 rfl) rfl ?_
  refine RunF.q (o_load_agg rfl tk24 ts24 rfl rfl rfl nL) rfl ?_
  refine RunF.w (o_alloc (nm := 2) tz24 rfl) nH2 ?_
  refine RunF.wn (o_store rfl rfl rfl ts24 rfl rfl) nH2 ?_
  refine AW.seq ?_
  refine AW.region (by kernel_rfl) ?_
  refine RunF.q (o_fieldAddr rfl tk66 rfl ts24 rfl) rfl ?_
  refine RunF.q (o_load_agg rfl tk24 ts24 rfl rfl rfl nL) rfl ?_
  refine RunF.w (o_alloc (nm := 3) tz24 rfl) nH2 ?_
  refine RunF.wn (o_store rfl rfl rfl ts24 rfl rfl) nH2 ?_
  refine AW.seq ?_
  refine AW.region (by kernel_rfl) ?_
  refine RunF.q (o_fieldAddr rfl tk66 rfl ts24 rfl) rfl ?_
  refine RunF.q (o_load_agg rfl tk24 ts24 rfl rfl rfl nL) rfl ?_
  refine RunF.w (o_alloc (nm := 4) tz24 rfl) nH2 ?_
  refine RunF.wn (o_store rfl rfl rfl ts24 rfl rfl) nH2 ?_
  refine AW.seq ?_
  refine AW.region (by kernel_rfl) ?_
  refine RunF.q (o_fieldAddr rfl tk66 rfl ts64 rfl) rfl ?_
  refine RunF.q (o_load_agg rfl tk64 ts64 rfl rfl rfl nL) rfl ?_
  refine RunF.w (o_alloc (nm := 5) tz64 rfl) nH2 ?_
  refine RunF.wn (o_store rfl rfl rfl ts64 rfl rfl) nH2 ?_
  refine AW.seq ?_
  refine AW.region (by kernel_rfl) ?_
  refine RunF.q (o_call (no := 6) (nr := 5) rfl rfl rfl nC (by rfl) (by exact shown05_ok) (by rfl) rfl rfl nV rfl) (by rfl) ?_
  refine RunF.q (o_assign rfl) rfl ?_
  refine AW.seq ?_
  refine AW.seq ?_
  refine AW.region (by kernel_rfl) ?_
  refine RunF.q (o_load_agg rfl tk41 ts41 rfl rfl rfl nL) rfl ?_
  refine RunF.q (o_call (no := 6) (nr := 5) rfl rfl rfl nC (by rfl) (by exact r5right_is hr) (by rfl) rfl rfl nV rfl) (by rfl) ?_
  refine RunF.q (o_not rfl) rfl ?_
  refine RunF.q (o_move rfl) rfl ?_
  refine RunF.gq rfl (o_load_agg rfl tk24 ts24 rfl rfl rfl nL) rfl ?_
  refine RunF.gq rfl (o_call (no := 6) (nr := 5) rfl rfl rfl nC (by rfl) (by exact rright_is h2) (by rfl) rfl rfl nV rfl) (by rfl) ?_
  refine RunF.gq rfl (o_not rfl) rfl ?_
  refine RunF.q (o_pick_f rfl rfl) rfl ?_
  refine RunF.q (o_move rfl) rfl ?_
  refine RunF.gq rfl (o_load_agg rfl tk24 ts24 rfl rfl rfl nL) rfl ?_
  refine RunF.gq rfl (o_call (no := 6) (nr := 5) rfl rfl rfl nC (by rfl) (by exact rright_is h3) (by rfl) rfl rfl nV rfl) (by rfl) ?_
  refine RunF.gq rfl (o_not rfl) rfl ?_
  refine RunF.q (o_pick_f rfl rfl) rfl ?_
  refine RunF.q (o_move rfl) rfl ?_
  refine RunF.gq rfl (o_load_agg rfl tk24 ts24 rfl rfl rfl nL) rfl ?_
  refine RunF.gq rfl (o_call (no := 6) (nr := 5) rfl rfl rfl nC (by rfl) (by exact rright_is h4) (by rfl) rfl rfl nV rfl) (by rfl) ?_
  refine RunF.gq rfl (o_not rfl) rfl ?_
  refine RunF.q (o_pick_f rfl rfl) rfl ?_
  refine AW.cond rfl (fun hc0 => absurd hc0 (by simp)) (fun hc0 => ?_)
  refine AW.skip ?_
  refine AW.seq ?_
  refine AW.region (by kernel_rfl) ?_
  refine RunF.q (o_load_agg rfl tk41 ts41 rfl rfl rfl nL) rfl ?_
  refine RunF.q (o_load_agg rfl tk24 ts24 rfl rfl rfl nL) rfl ?_
  refine RunF.q (o_load_agg rfl tk24 ts24 rfl rfl rfl nL) rfl ?_
  refine RunF.w (o_call (no := 6) (nr := 5) rfl rfl rfl nC (by rfl) (by exact hpr) (by rfl) rfl rfl nV nE) nH2 ?_
  refine RunF.q (o_move rfl) rfl ?_
  refine RunF.q (o_extract rfl rfl) rfl ?_
  refine RunF.q (o_extract rfl rfl) rfl ?_
  refine RunF.q (o_extract rfl rfl) rfl ?_
  refine RunF.w (o_alloc (nm := 8) tz41 rfl) nH2 ?_
  refine RunF.wn (o_store rfl rfl rfl ts41 rfl rfl) nH2 ?_
  refine RunF.q (o_assign rfl) rfl ?_
  refine RunF.q (o_assign rfl) rfl ?_
  refine AW.seq ?_
  refine AW.region (by kernel_rfl) ?_
  refine RunF.q (o_load_agg rfl tk41 ts41 rfl rfl rfl nL) rfl ?_
  refine RunF.q (o_load_agg rfl tk24 ts24 rfl rfl rfl nL) rfl ?_
  refine RunF.q (o_indexAddr_arr tk64 ts30 rfl rfl (by first | decide | (constructor <;> omega)) rfl) rfl ?_
  refine RunF.q (o_load rfl tk30 ts30 rfl rfl rfl) rfl ?_
  refine RunF.q (o_indexAddr_arr tk64 ts30 rfl rfl (by first | decide | (constructor <;> omega)) rfl) rfl ?_
  refine RunF.q (o_load rfl tk30 ts30 rfl rfl rfl) rfl ?_
  refine RunF.q (o_indexAddr_arr tk64 ts30 rfl rfl (by first | decide | (constructor <;> omega)) rfl) rfl ?_
  refine RunF.q (o_load rfl tk30 ts30 rfl rfl rfl) rfl ?_
  refine RunF.q (o_call (no := 9) (nr := 5) rfl rfl rfl nC (by rfl) (by exact hup) (by rfl) rfl rfl nV rfl) (by rfl) ?_
  refine RunF.q (o_move rfl) rfl ?_
  refine RunF.q (o_extract rfl rfl) rfl ?_
  refine RunF.q (o_extract rfl rfl) rfl ?_
  refine RunF.q (o_extract rfl rfl) rfl ?_
  refine RunF.q (o_extract rfl rfl) rfl ?_
  refine RunF.w (o_alloc (nm := 9) tz41 rfl) nH2 ?_
  refine RunF.wn (o_store rfl rfl rfl ts41 rfl rfl) nH2 ?_
  refine RunF.q (o_assign rfl) rfl ?_
  refine RunF.q (o_assign rfl) rfl ?_
  refine RunF.q (o_assign rfl) rfl ?_
  refine AW.seq ?_
  refine AW.seq ?_
  refine AW.region (by kernel_rfl) ?_
  refine RunF.q (o_move rfl) rfl ?_
  refine RunF.q (o_eql rfl rfl) rfl ?_
  refine RunF.q (o_move rfl) rfl ?_
  refine RunF.gq rfl (o_load_agg rfl tk41 ts41 rfl rfl rfl nL) rfl ?_
  refine RunF.gq rfl (o_call (no := 10) (nr := 5) rfl rfl rfl nC (by rfl) (by exact r5right_is hr1) (by rfl) rfl rfl nV rfl) (by rfl) ?_
  refine RunF.gq rfl (o_not rfl) rfl ?_
  refine RunF.q (o_pick_t rfl rfl) rfl ?_
  refine RunF.q (o_move rfl) rfl ?_
  refine RunF.gq rfl (o_move rfl) rfl ?_
  refine RunF.gq rfl (o_eql rfl rfl) rfl ?_
  refine RunF.gq rfl (o_move rfl) rfl ?_
  refine RunF.gq rfl (o_load_agg rfl tk41 ts41 rfl rfl rfl nL) rfl ?_
  refine RunF.gq rfl (o_call (no := 10) (nr := 5) rfl rfl rfl nC (by rfl) (by exact r5right_is hr) (by rfl) rfl rfl nV rfl) (by rfl) ?_
  refine RunF.gq rfl (o_not rfl) rfl ?_
  refine RunF.gq rfl (o_pick_t rfl rfl) rfl ?_
  refine RunF.q (o_pick_f rfl rfl) rfl ?_
  refine AW.cond rfl (fun hc1 => absurd hc1 (by simp)) (fun hc1 => ?_)
  refine AW.skip ?_
  refine AW.seq ?_
  refine AW.region (by kernel_rfl) ?_
  refine RunF.q (o_move rfl) rfl ?_
  refine RunF.q (o_move rfl) rfl ?_
  refine RunF.gq rfl (o_move rfl) rfl ?_
  refine RunF.gq rfl (o_neq rfl rfl) rfl ?_
  refine RunF.gq rfl (o_move rfl) rfl ?_
  refine RunF.gq rfl (o_move rfl) rfl ?_
  refine RunF.gq rfl (o_pick_f rfl rfl) rfl ?_
  refine RunF.gq rfl (o_move rfl) rfl ?_
  refine RunF.gq rfl (o_load_agg rfl tk41 ts41 rfl rfl rfl nL) rfl ?_
  refine RunF.gq rfl (o_load_agg rfl tk41 ts41 rfl rfl rfl nL) rfl ?_
  refine RunF.gq rfl (o_call (no := 10) (nr := 5) rfl rfl rfl nC (by rfl) (by exact r5same_is (z := true) (by omega) (by omega) (by rw [sameM_refl, sameM_refl]; rfl)) (by rfl) rfl rfl nV rfl) (by rfl) ?_
  refine RunF.gq rfl (o_pick_f rfl rfl) rfl ?_
  refine RunF.q (o_pick_t rfl rfl) rfl ?_
  refine RunF.q (o_move rfl) rfl ?_
  refine RunF.gq rfl (o_load_agg rfl tk41 ts41 rfl rfl rfl nL) rfl ?_
  refine RunF.gq rfl (o_call (no := 10) (nr := 5) rfl rfl rfl nC (by rfl) (by exact kright_is hr) (by rfl) rfl rfl nV rfl) (by rfl) ?_
  refine RunF.q (o_pick_t rfl rfl) rfl ?_
  refine RunF.q (o_assign rfl) rfl ?_
  refine AW.ret ?_
  exact FinQ.ret [] [] (ress_tmp rfl ress_nil) rfl .nil (.cons rfl rfl nP (.cons rfl rfl nP (.cons rfl rfl nP (.cons rfl rfl nP (.cons rfl rfl nP .nil))))) nR

set_option maxHeartbeats 1000000 in
theorem kStays_yt (n : Nat) (n0 : 0 < n) (n8 : n ≤ 8) (fr fc qr qc hR hC z r gate : Int) (x p F Q hl : List Int) (hx : x.length = n * 1) (hp : p.length = n * n) (hr : rightT n 1 x n n p = true) (h2 : rightM fr fc F = true) (h3 : rightM qr qc Q = true) (h4 : rightM hR hC hl = true) (w1 : Bool) (X1 P1 : List Int) (hr1 : rightT n 1 X1 n n P1 = true) (hpr : SoundC Try.prog 47 [.agg [.int .i64 n, .int .i64 1, .sl (.r 0) 0 x.length 1 false, .int .i64 n, .int .i64 n, .sl (.r 1) 0 p.length 1 false], .agg [.int .i64 fr, .int .i64 fc, .sl (.r 2) 0 F.length 1 false], .agg [.int .i64 qr, .int .i64 qc, .sl (.r 3) 0 Q.length 1 false]] ⟨[ints x, ints p, ints F, ints Q], []⟩ { val := .tuple [.agg [.int .i64 n, .int .i64 1, .sl (.o 0) 0 X1.length 1 false, .int .i64 n, .int .i64 n, .sl (.o 1) 0 P1.length 1 false], .bool w1, .int .i64 0], newo := [ints X1, ints P1] }) (w2 : Bool) (X2 P2 : List Int) (hr2 : rightT n 1 X2 n n P2 = true) (hup : SoundC Try.prog 37 [.agg [.int .i64 n, .int .i64 1, .sl (.r 0) 0 x.length 1 false, .int .i64 n, .int .i64 n, .sl (.r 1) 0 p.length 1 false], .agg [.int .i64 hR, .int .i64 hC, .sl (.r 2) 0 hl.length 1 false], .int .i64 z, .int .i64 r, .int .i64 gate] ⟨[ints x, ints p, ints hl], []⟩ { val := .tuple [.agg [.int .i64 n, .int .i64 1, .sl (.o 0) 0 X2.length 1 false, .int .i64 n, .int .i64 n, .sl (.o 1) 0 P2.length 1 false], .bool true, .bool w2, .int .i64 0], newo := [ints X2, ints P2] }) : SoundC Try.prog 12 [.agg [.int .i64 n, .int .i64 1, .sl (.r 0) 0 x.length 1 false, .int .i64 n, .int .i64 n, .sl (.r 1) 0 p.length 1 false, .int .i64 fr, .int .i64 fc, .sl (.r 2) 0 F.length 1 false, .int .i64 qr, .int .i64 qc, .sl (.r 3) 0 Q.length 1 false, .int .i64 hR, .int .i64 hC, .sl (.r 4) 0 hl.length 1 false, .int .i64 z, .int .i64 r, .int .i64 gate]] ⟨[ints x, ints p, ints F, ints Q, ints hl], []⟩ { val := .bool true } := by
  have hsm := small_mul n8 n8
  refine SoundC.of (N := 101) Try.func12 rfl rfl rfl rfl ?_
  refine AW.seq ?_
  refine AW.region (by kernel_rfl) ?_
  refine RunF.w (o_box (nm := 0) rfl rfl rfl) nH2 ?_
  refine RunF.q (o_assign rfl) rfl ?_
  refine AW.seq ?_
  refine AW.region (by kernel_rfl) ?_
  refine RunF.q (o_fieldAddr rfl tk66 rfl ts41 rfl) rfl ?_
  refine RunF.q (o_load_agg rfl tk41 ts41 rfl rfl rfl nL) rfl ?_
  refine RunF.w (o_alloc (nm := 1) tz41 rfl) nH2 ?_
  refine RunF.wn (o_store rfl rfl rfl ts41 rfl rfl) nH2 ?_
  refine AW.seq ?_
  refine AW.region (by kernel_rfl) ?_
  refine RunF.q (o_fieldAddr rfl tk66 rfl ts24 rfl) rfl ?_
  refine RunF.q (o_load_agg rfl tk24 ts24 rfl rfl rfl nL) rfl ?_
  refine RunF.w (o_alloc (nm := 2) tz24 rfl) nH2 ?_
  refine RunF.wn (o_store rfl rfl rfl ts24 rfl rfl) nH2 ?_
  refine AW.seq ?_
  refine AW.region (by kernel_rfl) ?_
  refine RunF.q (o_fieldAddr rfl tk66 rfl ts24 rfl) rfl ?_
  refine RunF.q (o_load_agg rfl tk24 ts24 rfl rfl rfl nL) rfl ?_
  refine RunF.w (o_alloc (nm := 3) tz24 rfl) nH2 ?_
  refine RunF.wn (o_store rfl rfl rfl ts24 rfl rfl) nH2 ?_
  refine AW.seq ?_
  refine AW.region (by kernel_rfl) ?_
  refine RunF.q (o_fieldAddr rfl tk66 rfl ts24 rfl) rfl ?_
  refine RunF.q (o_load_agg rfl tk24 ts24 rfl rfl rfl nL) rfl ?_
  refine RunF.w (o_alloc (nm := 4) tz24 rfl) nH2 ?_
  refine RunF.wn (o_store rfl rfl rfl ts24 rfl rfl) nH2 ?_
  refine AW.seq ?_
  refine AW.region (by kernel_rfl) ?_
  refine RunF.q (o_fieldAddr rfl tk66 rfl ts64 rfl) rfl ?_
  refine RunF.q (o_load_agg rfl tk64 ts64 rfl rfl rfl nL) rfl ?_
  refine RunF.w (o_alloc (nm := 5) tz64 rfl) nH2 ?_
  refine RunF.wn (o_store rfl rfl rfl ts64 rfl rfl) nH2 ?_
  refine AW.seq ?_
  refine AW.region (by kernel_rfl) ?_
  refine RunF.q (o_call (no := 6) (nr := 5) rfl rfl rfl nC (by rfl) (by exact shown05_ok) (by rfl) rfl rfl nV rfl) (by rfl) ?_
  refine RunF.q (o_assign rfl) rfl ?_
  refine AW.seq ?_
  refine AW.seq ?_
  refine AW.region (by kernel_rfl) ?_
  refine RunF.q (o_load_agg rfl tk41 ts41 rfl rfl rfl nL) rfl ?_
  refine RunF.q (o_call (no := 6) (nr := 5) rfl rfl rfl nC (by rfl) (by exact r5right_is hr) (by rfl) rfl rfl nV rfl) (by rfl) ?_
  refine RunF.q (o_not rfl) rfl ?_
  refine RunF.q (o_move rfl) rfl ?_
  refine RunF.gq rfl (o_load_agg rfl tk24 ts24 rfl rfl rfl nL) rfl ?_
  refine RunF.gq rfl (o_call (no := 6) (nr := 5) rfl rfl rfl nC (by rfl) (by exact rright_is h2) (by rfl) rfl rfl nV rfl) (by rfl) ?_
  refine RunF.gq rfl (o_not rfl) rfl ?_
  refine RunF.q (o_pick_f rfl rfl) rfl ?_
  refine RunF.q (o_move rfl) rfl ?_
  refine RunF.gq rfl (o_load_agg rfl tk24 ts24 rfl rfl rfl nL) rfl ?_
  refine RunF.gq rfl (o_call (no := 6) (nr := 5) rfl rfl rfl nC (by rfl) (by exact rright_is h3) (by rfl) rfl rfl nV rfl) (by rfl) ?_
  refine RunF.gq rfl (o_not rfl) rfl ?_
  refine RunF.q (o_pick_f rfl rfl) rfl ?_
  refine RunF.q (o_move rfl) rfl ?_
  refine RunF.gq rfl (o_load_agg rfl tk24 ts24 rfl rfl rfl nL) rfl ?_
  refine RunF.gq rfl (o_call (no := 6) (nr := 5) rfl rfl rfl nC (by rfl) (by exact rright_is h4) (by rfl) rfl rfl nV rfl) (by rfl) ?_
  refine RunF.gq rfl (o_not rfl) rfl ?_
  refine RunF.q (o_pick_f rfl rfl) rfl ?_
  refine AW.cond rfl (fun hc0 => absurd hc0 (by simp)) (fun hc0 => ?_)
  refine AW.skip ?_
  refine AW.seq ?_
  refine AW.region (by kernel_rfl) ?_
  refine RunF.q (o_load_agg rfl tk41 ts41 rfl rfl rfl nL) rfl ?_
  refine RunF.q (o_load_agg rfl tk24 ts24 rfl rfl rfl nL) rfl ?_
  refine RunF.q (o_load_agg rfl tk24 ts24 rfl rfl rfl nL) rfl ?_
  refine RunF.w (o_call (no := 6) (nr := 5) rfl rfl rfl nC (by rfl) (by exact hpr) (by rfl) rfl rfl nV nE) nH2 ?_
  refine RunF.q (o_move rfl) rfl ?_
  refine RunF.q (o_extract rfl rfl) rfl ?_
  refine RunF.q (o_extract rfl rfl) rfl ?_
  refine RunF.q (o_extract rfl rfl) rfl ?_
  refine RunF.w (o_alloc (nm := 8) tz41 rfl) nH2 ?_
  refine RunF.wn (o_store rfl rfl rfl ts41 rfl rfl) nH2 ?_
  refine RunF.q (o_assign rfl) rfl ?_
  refine RunF.q (o_assign rfl) rfl ?_
  refine AW.seq ?_
  refine AW.region (by kernel_rfl) ?_
  refine RunF.q (o_load_agg rfl tk41 ts41 rfl rfl rfl nL) rfl ?_
  refine RunF.q (o_load_agg rfl tk24 ts24 rfl rfl rfl nL) rfl ?_
  refine RunF.q (o_indexAddr_arr tk64 ts30 rfl rfl (by first | decide | (constructor <;> omega)) rfl) rfl ?_
  refine RunF.q (o_load rfl tk30 ts30 rfl rfl rfl) rfl ?_
  refine RunF.q (o_indexAddr_arr tk64 ts30 rfl rfl (by first | decide | (constructor <;> omega)) rfl) rfl ?_
  refine RunF.q (o_load rfl tk30 ts30 rfl rfl rfl) rfl ?_
  refine RunF.q (o_indexAddr_arr tk64 ts30 rfl rfl (by first | decide | (constructor <;> omega)) rfl) rfl ?_
  refine RunF.q (o_load rfl tk30 ts30 rfl rfl rfl) rfl ?_
  refine RunF.w (o_call (no := 9) (nr := 5) rfl rfl rfl nC (by rfl) (by exact hup) (by rfl) rfl rfl nV nE) nH2 ?_
  refine RunF.q (o_move rfl) rfl ?_
  refine RunF.q (o_extract rfl rfl) rfl ?_
  refine RunF.q (o_extract rfl rfl) rfl ?_
  refine RunF.q (o_extract rfl rfl) rfl ?_
  refine RunF.q (o_extract rfl rfl) rfl ?_
  refine RunF.w (o_alloc (nm := 11) tz41 rfl) nH2 ?_
  refine RunF.wn (o_store rfl rfl rfl ts41 rfl rfl) nH2 ?_
  refine RunF.q (o_assign rfl) rfl ?_
  refine RunF.q (o_assign rfl) rfl ?_
  refine RunF.q (o_assign rfl) rfl ?_
  refine AW.seq ?_
  refine AW.seq ?_
  refine AW.region (by kernel_rfl) ?_
  refine RunF.q (o_move rfl) rfl ?_
  refine RunF.q (o_eql rfl rfl) rfl ?_
  refine RunF.q (o_move rfl) rfl ?_
  refine RunF.gq rfl (o_load_agg rfl tk41 ts41 rfl rfl rfl nL) rfl ?_
  refine RunF.gq rfl (o_call (no := 12) (nr := 5) rfl rfl rfl nC (by rfl) (by exact r5right_is hr1) (by rfl) rfl rfl nV rfl) (by rfl) ?_
  refine RunF.gq rfl (o_not rfl) rfl ?_
  refine RunF.q (o_pick_t rfl rfl) rfl ?_
  refine RunF.q (o_move rfl) rfl ?_
  refine RunF.gq rfl (o_move rfl) rfl ?_
  refine RunF.gq rfl (o_eql rfl rfl) rfl ?_
  refine RunF.gq rfl (o_move rfl) rfl ?_
  refine RunF.gq rfl (o_load_agg rfl tk41 ts41 rfl rfl rfl nL) rfl ?_
  refine RunF.gq rfl (o_call (no := 12) (nr := 5) rfl rfl rfl nC (by rfl) (by exact r5right_is hr2) (by rfl) rfl rfl nV rfl) (by rfl) ?_
  refine RunF.gq rfl (o_not rfl) rfl ?_
  refine RunF.gq rfl (o_pick_t rfl rfl) rfl ?_
  refine RunF.q (o_pick_f rfl rfl) rfl ?_
  refine AW.cond rfl (fun hc1 => absurd hc1 (by simp)) (fun hc1 => ?_)
  refine AW.skip ?_
  refine AW.seq ?_
  refine AW.region (by kernel_rfl) ?_
  refine RunF.q (o_move rfl) rfl ?_
  refine RunF.q (o_move rfl) rfl ?_
  refine RunF.gq rfl (o_move rfl) rfl ?_
  refine RunF.gq rfl (o_neq rfl rfl) rfl ?_
  refine RunF.gq rfl (o_move rfl) rfl ?_
  refine RunF.gq rfl (o_move rfl) rfl ?_
  refine RunF.gq rfl (o_pick_f rfl rfl) rfl ?_
  refine RunF.gq rfl (o_move rfl) rfl ?_
  refine RunF.gs (b := true) rfl rfl ?_
  refine RunF.gs (b := true) rfl rfl ?_
  refine RunF.gs (b := true) rfl rfl ?_
  refine RunF.gq rfl (o_pick_t rfl rfl) rfl ?_
  refine RunF.q (o_pick_t rfl rfl) rfl ?_
  refine RunF.q (o_move rfl) rfl ?_
  refine RunF.gq rfl (o_load_agg rfl tk41 ts41 rfl rfl rfl nL) rfl ?_
  refine RunF.gq rfl (o_call (no := 12) (nr := 5) rfl rfl rfl nC (by rfl) (by exact kright_is hr) (by rfl) rfl rfl nV rfl) (by rfl) ?_
  refine RunF.q (o_pick_t rfl rfl) rfl ?_
  refine RunF.q (o_assign rfl) rfl ?_
  refine AW.ret ?_
  exact FinQ.ret [] [] (ress_tmp rfl ress_nil) rfl .nil (.cons rfl rfl nP (.cons rfl rfl nP (.cons rfl rfl nP (.cons rfl rfl nP (.cons rfl rfl nP .nil))))) nR

end Go.Proofs.Ytnkijhpikeokfaa
