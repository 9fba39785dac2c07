/-
  The law StateCleans, walked (gen_ste.py).
-/
import Derived.Test.YtfkecgkfcldffaaDoorZStD
import Derived.Test.YtfkecgkfcldffaaDoorZSq
namespace Go.Proofs.YtfkecgkfcldffaaDoor
set_option linter.unusedSimpArgs false
set_option linter.unusedVariables false
open Go.RowKit
set_option linter.unusedVariables false

theorem clipz_in (x a b : Int) (h : a ≤ b) : a ≤ clipZ x a b ∧ clipZ x a b ≤ b := by unfold clipZ; omega
theorem meet_in {aT al ab ar bT bl bb br : Int} (h : I6 aT ∧ I6 al ∧ I6 ab ∧ I6 ar) (k : I6 bT ∧ I6 bl ∧ I6 bb ∧ I6 br) : I6 (meetZ aT al ab ar bT bl bb br).1 ∧ I6 (meetZ aT al ab ar bT bl bb br).2.1 ∧ I6 (meetZ aT al ab ar bT bl bb br).2.2.1 ∧ I6 (meetZ aT al ab ar bT bl bb br).2.2.2 := by
  unfold meetZ I6 at *
  split <;> simp only <;> omega
theorem inner_in {pb pr mt ml mb mr : Int} (h1 : I6 pb) (h2 : I6 pr) (k : I6 mt ∧ I6 ml ∧ I6 mb ∧ I6 mr) : I6 (innerZ pb pr mt ml mb mr).1 ∧ I6 (innerZ pb pr mt ml mb mr).2.1 ∧ I6 (innerZ pb pr mt ml mb mr).2.2.1 ∧ I6 (innerZ pb pr mt ml mb mr).2.2.2 := by
  have hw := whole_in h1 h2
  unfold innerZ
  split
  · exact hw
  · exact meet_in hw k
theorem clamp_in {t l b r row col : Int} (h : I6 t ∧ I6 l ∧ I6 b ∧ I6 r) (h1 : I6 row) (h2 : I6 col) : I6 (clampZ t l b r row col).1 ∧ I6 (clampZ t l b r row col).2 := by
  unfold clampZ
  split
  · exact ⟨h.1, h.2.1⟩
  · rename_i he
    have he' : emptyZ t l b r = false := by simpa using he
    have hq := empty_f he'
    unfold clipZ I6 at *
    simp only
    omega
theorem uL_in (x : Int) : I6 (uL x) := by
  unfold uL selI between I6
  split
  · rename_i h
    simp at h
    omega
  · omega
theorem uR_in (x : Int) : I6 (uR x) := by
  unfold uR selI between I6
  split
  · rename_i h
    simp at h
    omega
  · omega
theorem Cor.Ok.clean {c : Cor} (h : c.Ok) : c.clean.Ok := by
  have hw := whole_in h.p.2.2.1 h.p.2.2.2
  have hc := clamp_in (row := c.row) (col := c.col) hw h.row h.col
  have hi := inner_in h.p.2.2.1 h.p.2.2.2 h.m
  have h5 := clipz_in c.level 1 5 (by decide)
  have h2 := clipz_in c.status 0 2 (by decide)
  have h16 := clipz_in c.pages 1 16 (by decide)
  have hp := clipz_in c.page 0 (clipZ c.pages 1 16 - 1) (by omega)
  have hm := h.modes
  have hr := h.rend
  refine ⟨hc.1, hc.2, ?_, h.g, uL_in _, uR_in _, ?_, hw, hi, ?_, ?_, ?_, ?_, ?_⟩
  · show 0 ≤ c.rend % 32 ∧ c.rend % 32 < 256; omega
  · show I6 (bif (c.sg == 3 || c.sg == 2) then c.sg else 0)
    cases (c.sg == 3 || c.sg == 2)
    · show I6 0; unfold I6; omega
    · exact h.sg
  · show 0 ≤ c.modes % 131072 ∧ c.modes % 131072 < 4294967296; omega
  all_goals (show I6 _; simp only [Cor.clean]; unfold I6; omega)
theorem newC_ok (r c p : Int) (hr : I6 r) (hc : I6 c) (hp : I6 p) : (newC r c p).Ok := by
  unfold newC
  refine ⟨?_, ?_, ?_, ?_, ?_, ?_, ?_, ?_, ?_, ?_, ?_, ?_, ?_, hp⟩ <;> (unfold I6 at *; simp only; omega)
theorem Cor.Ok.lits {c : Cor} (h : c.Ok) : ∀ z ∈ [.int .i64 c.row, .int .i64 c.col, .int .u8 c.rend, .bool c.kept, .bool c.wrap, .bool c.origin, .int .i64 c.g0, .int .i64 c.g1, .int .i64 c.g2, .int .i64 c.g3, .int .i64 c.gl, .int .i64 c.gr, .int .i64 c.sg, .int .i64 c.pt, .int .i64 c.pl, .int .i64 c.pb, .int .i64 c.pr, .int .i64 c.mt, .int .i64 c.ml, .int .i64 c.mb, .int .i64 c.mr, .int .i64 c.modes, .int .i64 c.level, .bool c.eight, .bool c.stream, .int .i64 c.status, .bool c.below, .int .i64 c.page, .int .i64 c.pages], litOk z := by
  have hg := h.g
  have hp := h.p
  have hm := h.m
  simp only [List.forall_mem_cons, List.not_mem_nil, false_implies, implies_true, and_true]
  refine ⟨wf_i64 h.row.1 h.row.2, wf_i64 h.col.1 h.col.2, wf_u8 h.rend.1 h.rend.2, trivial, trivial, trivial, wf_i64 hg.1.1 hg.1.2, wf_i64 hg.2.1.1 hg.2.1.2, wf_i64 hg.2.2.1.1 hg.2.2.1.2, wf_i64 hg.2.2.2.1 hg.2.2.2.2, wf_i64 h.gl.1 h.gl.2, wf_i64 h.gr.1 h.gr.2, wf_i64 h.sg.1 h.sg.2, wf_i64 hp.1.1 hp.1.2, wf_i64 hp.2.1.1 hp.2.1.2, wf_i64 hp.2.2.1.1 hp.2.2.1.2, wf_i64 hp.2.2.2.1 hp.2.2.2.2, wf_i64 hm.1.1 hm.1.2, wf_i64 hm.2.1.1 hm.2.1.2, wf_i64 hm.2.2.1.1 hm.2.2.1.2, wf_i64 hm.2.2.2.1 hm.2.2.2.2, wf_i64 (by have := h.modes; omega) (by have := h.modes; omega), wf_i64 h.level.1 h.level.2, trivial, trivial, wf_i64 h.status.1 h.status.2, trivial, wf_i64 h.page.1 h.page.2, wf_i64 h.pages.1 h.pages.2⟩
set_option maxRecDepth 100000 in
set_option maxHeartbeats 4000000 in
theorem cleans_yes (c : Cor) (rows cols : Int) (w : World) (haw : ∀ W, Gr w W → Calls Tryd.prog 6 #[] W fun e w' => e = .returned (.bool true) ∧ Gr W w') (hok : c.Ok) (hsm : smallZ c = true) (hr : I6 rows) (hc : I6 cols) : Calls Tryd.prog 3 #[.agg (cdA c), .int .i64 rows, .int .i64 cols] w fun e w' => e = .returned (.bool true) ∧ Gr w w' := by
  have hm := hok.modes
  have hcm := hok.clean.modes
  have hnok := newC_ok rows cols c.pages hr hc hok.pages
  have hnm := hnok.modes
  refine calls_sx (n := 33) (args := [.agg (cdA c), .int .i64 rows, .int .i64 cols]) Tryd.func3 rfl rfl rfl ?_
  have hs0 := Bk.init w
  refine CW.seq ?_
  refine CW.region ?_
  refine SL.new (mk := fun g => .pointer (some ⟨g, 0, none⟩)) (C := (cdA c)) (T := 33) hs0 rfl rfl (by kernel_rfl) (fun g_1 w_2 hs_3 => ?_)
  have hs_3 : Bk w w_2 [(g_1, .cells (cdA c) 33 (0, 0))] := hs_3
  refine SL.v (.bool false) ?_
  refine SL.nil ?_
  refine CW.seq ?_
  refine CW.seq ?_
  refine CW.region ?_
  refine SL.call (f := 6) (args := #[]) (w1 := w_2) rfl rfl (by kernel_rfl) (haw w_2 hs_3.gr) ?_
  rintro x w_4 ⟨rfl, hc_5⟩
  refine ⟨.bool true, rfl, ?_⟩
  have hs_6 := hs_3.grow hc_5
  refine SL.v (.bool false) ?_
  refine SL.nil ?_
  refine CW.cond_false (by kernel_rfl) ?_
  refine CW.skip ?_
  refine CW.seq ?_
  refine CW.seq ?_
  refine CW.region ?_
  refine SL.load (g := g_1) (off := 0) (v := .agg (cdA c)) rfl rfl rfl (by kernel_rfl) (hs_6.all 0 g_1 _ rfl) (by kernel_rfl) ?_
  refine SL.call (f := 7) (args := #[.agg (cdA c)]) (w1 := w_4) rfl rfl (by kernel_rfl) (hsm ▸ small_any c w_4) ?_
  rintro x w_7 ⟨rfl, hc_8⟩
  refine ⟨.bool true, rfl, ?_⟩
  have hs_9 := hs_6.grow hc_8
  refine SL.v (.bool false) ?_
  refine SL.nil ?_
  refine CW.cond_false (by kernel_rfl) ?_
  refine CW.skip ?_
  refine CW.seq ?_
  have HGR : GrL [fun v _ => v = .agg (cdA c), fun v _ => v = .agg (cvA c), fun v _ => v = .agg (cvA c.clean), fun v _ => v = .agg (cdA c.clean), fun v _ => v = .agg (cdA c), fun v _ => v = .agg (cdA c.clean), fun v _ => v = .bool true, fun v _ => v = .bool true, fun v _ => v = .int .i64 rows, fun v _ => v = .int .i64 cols, fun v _ => v = .pointer (some ⟨g_1, 28, none⟩), fun v _ => v = .int .i64 c.pages, fun v _ => v = .agg (cvA (newC rows cols c.pages)), fun v _ => v = .agg (cdA (newC rows cols c.pages)), fun v _ => v = .int .i64 rows, fun v _ => v = .int .i64 cols, fun v _ => v = .pointer (some ⟨g_1, 28, none⟩), fun v _ => v = .int .i64 c.pages] := ⟨fun _ _ _ _ h => h, ⟨fun _ _ _ _ h => h, ⟨fun _ _ _ _ h => h, ⟨fun _ _ _ _ h => h, ⟨fun _ _ _ _ h => h, ⟨fun _ _ _ _ h => h, ⟨fun _ _ _ _ h => h, ⟨fun _ _ _ _ h => h, ⟨fun _ _ _ _ h => h, ⟨fun _ _ _ _ h => h, ⟨fun _ _ _ _ h => h, ⟨fun _ _ _ _ h => h, ⟨fun _ _ _ _ h => h, ⟨fun _ _ _ _ h => h, ⟨fun _ _ _ _ h => h, ⟨fun _ _ _ _ h => h, ⟨fun _ _ _ _ h => h, ⟨fun _ _ _ _ h => h, trivial⟩⟩⟩⟩⟩⟩⟩⟩⟩⟩⟩⟩⟩⟩⟩⟩⟩⟩
  refine CW.draw 18 (FW [fun v _ => v = .agg (cdA c), fun v _ => v = .agg (cvA c), fun v _ => v = .agg (cvA c.clean), fun v _ => v = .agg (cdA c.clean), fun v _ => v = .agg (cdA c), fun v _ => v = .agg (cdA c.clean), fun v _ => v = .bool true, fun v _ => v = .bool true, fun v _ => v = .int .i64 rows, fun v _ => v = .int .i64 cols, fun v _ => v = .pointer (some ⟨g_1, 28, none⟩), fun v _ => v = .int .i64 c.pages, fun v _ => v = .agg (cvA (newC rows cols c.pages)), fun v _ => v = .agg (cdA (newC rows cols c.pages)), fun v _ => v = .int .i64 rows, fun v _ => v = .int .i64 cols, fun v _ => v = .pointer (some ⟨g_1, 28, none⟩), fun v _ => v = .int .i64 c.pages]) (fun W => Bk w W [(g_1, .cells (cdA c) 33 (0, 0))] ∧ Gr w_7 W) (by kernel_rfl) (by kernel_rfl) (by kernel_rfl) (by kernel_rfl) (by kernel_rfl) ⟨hs_9.drew, (Gr.refl _).drew⟩ ?_ ?_
  · refine ⟨?_, ⟨?_, ⟨?_, ⟨?_, ⟨?_, ⟨?_, ⟨?_, ⟨?_, ⟨?_, ⟨?_, ⟨?_, ⟨?_, ⟨?_, ⟨?_, ⟨?_, ⟨?_, ⟨?_, ⟨?_, trivial⟩⟩⟩⟩⟩⟩⟩⟩⟩⟩⟩⟩⟩⟩⟩⟩⟩⟩
    · intro L ys W hB hF hP K hK
      show OpE _ _ _ W K
      exact OpE.load (g := g_1) (off := 0) (v := .agg (cdA c)) rfl (by kernel_rfl) (hB.1.all 0 g_1 _ rfl) (by kernel_rfl) (hK _ W hB rfl (fun _ _ h => h))
    · intro L ys W hB hF hP K hK
      show OpE _ _ _ W K
      exact OpE.known (j := 0) (v := .agg (cdA c)) (show ys 0 = .agg (cdA c) from hF 0 (hP.1 rfl)) (OpE.call 9 #[.agg (cdA c)] W _ (by kernel_rfl) (own19 c W hm) (fun x w' hx => by obtain ⟨rfl, hg⟩ := hx; exact ⟨_, rfl, hK _ w' ⟨hB.1.grow hg, hB.2.trans hg⟩ rfl (fun _ _ h => FW.gr HGR hg h)⟩))
    · intro L ys W hB hF hP K hK
      show OpE _ _ _ W K
      exact OpE.known (j := 1) (v := .agg (cvA c)) (show ys 1 = .agg (cvA c) from hF 1 (hP.2.1 rfl)) (OpE.call 10 #[.agg (cvA c)] W _ (by kernel_rfl) (clean_any c W hok) (fun x w' hx => by obtain ⟨rfl, hg⟩ := hx; exact ⟨_, rfl, hK _ w' ⟨hB.1.grow hg, hB.2.trans hg⟩ rfl (fun _ _ h => FW.gr HGR hg h)⟩))
    · intro L ys W hB hF hP K hK
      show OpE _ _ _ W K
      exact OpE.known (j := 2) (v := .agg (cvA c.clean)) (show ys 2 = .agg (cvA c.clean) from hF 2 (hP.2.1 rfl)) (OpE.call 8 #[.agg (cvA c.clean)] W _ (by kernel_rfl) (told19 c.clean W hcm) (fun x w' hx => by obtain ⟨rfl, hg⟩ := hx; exact ⟨_, rfl, hK _ w' ⟨hB.1.grow hg, hB.2.trans hg⟩ rfl (fun _ _ h => FW.gr HGR hg h)⟩))
    · intro L ys W hB hF hP K hK
      show OpE _ _ _ W K
      exact OpE.load (g := g_1) (off := 0) (v := .agg (cdA c)) rfl (by kernel_rfl) (hB.1.all 0 g_1 _ rfl) (by kernel_rfl) (hK _ W hB rfl (fun _ _ h => h))
    · intro L ys W hB hF hP K hK
      show OpE _ _ _ W K
      exact OpE.known (j := 4) (v := .agg (cdA c)) (show ys 4 = .agg (cdA c) from hF 4 (hP.1 rfl)) (OpE.call 11 #[.agg (cdA c)] W _ (by kernel_rfl) (rclean_any c W hok) (fun x w' hx => by obtain ⟨rfl, hg⟩ := hx; exact ⟨_, rfl, hK _ w' ⟨hB.1.grow hg, hB.2.trans hg⟩ rfl (fun _ _ h => FW.gr HGR hg h)⟩))
    · intro L ys W hB hF hP K hK
      show OpE _ _ _ W K
      exact OpE.known (j := 3) (v := .agg (cdA c.clean)) (show ys 3 = .agg (cdA c.clean) from hF 3 (hP.1 rfl)) (OpE.known (j := 5) (v := .agg (cdA c.clean)) (show ys 5 = .agg (cdA c.clean) from hF 5 (hP.2.1 rfl)) (OpE.val (.bool true) W (run_eql_op (xs := (cdA c.clean)) (ys := (cdA c.clean)) (b := true) rfl (by kernel_rfl) (by kernel_rfl) (by kernel_rfl) (run_eql_flat (x := .agg (cdA c.clean)) (y := .agg (cdA c.clean)) (b := true) (m := 6) (lx := [.int .i64 c.clean.row, .int .i64 c.clean.col, .int .u8 c.clean.rend, .bool c.clean.kept, .bool c.clean.wrap, .bool c.clean.origin, .int .i64 c.clean.g0, .int .i64 c.clean.g1, .int .i64 c.clean.g2, .int .i64 c.clean.g3, .int .i64 c.clean.gl, .int .i64 c.clean.gr, .int .i64 c.clean.sg, .int .i64 c.clean.pt, .int .i64 c.clean.pl, .int .i64 c.clean.pb, .int .i64 c.clean.pr, .int .i64 c.clean.mt, .int .i64 c.clean.ml, .int .i64 c.clean.mb, .int .i64 c.clean.mr, .int .i64 c.clean.modes, .int .i64 c.clean.level, .bool c.clean.eight, .bool c.clean.stream, .int .i64 c.clean.status, .bool c.clean.below, .int .i64 c.clean.page, .int .i64 c.clean.pages]) (ly := [.int .i64 c.clean.row, .int .i64 c.clean.col, .int .u8 c.clean.rend, .bool c.clean.kept, .bool c.clean.wrap, .bool c.clean.origin, .int .i64 c.clean.g0, .int .i64 c.clean.g1, .int .i64 c.clean.g2, .int .i64 c.clean.g3, .int .i64 c.clean.gl, .int .i64 c.clean.gr, .int .i64 c.clean.sg, .int .i64 c.clean.pt, .int .i64 c.clean.pl, .int .i64 c.clean.pb, .int .i64 c.clean.pr, .int .i64 c.clean.mt, .int .i64 c.clean.ml, .int .i64 c.clean.mb, .int .i64 c.clean.mr, .int .i64 c.clean.modes, .int .i64 c.clean.level, .bool c.clean.eight, .bool c.clean.stream, .int .i64 c.clean.status, .bool c.clean.below, .int .i64 c.clean.page, .int .i64 c.clean.pages]) (by kernel_rfl) (by kernel_rfl) (by kernel_rfl) (by kernel_rfl) (by kernel_rfl) (by kernel_rfl) hok.clean.lits hok.clean.lits ⟨fun _ => rfl, fun _ => rfl⟩)) (hK _ W hB rfl (fun _ _ h => h))))
    · intro L ys W hB hF hP K hK
      show OpE _ _ _ W K
      exact OpE.known (j := 6) (v := .bool true) (show ys 6 = .bool true from hF 6 (hP.1 rfl)) (OpE.val (.bool true) W (by kernel_rfl) (hK _ W hB rfl (fun _ _ h => h)))
    · intro L ys W hB hF hP K hK
      refine ⟨19, true, rfl, (show fillE _ 0 ys _ 19 = _ from (show ys 7 = .bool true from hF 7 (hP.1 rfl))), .inl ⟨rfl, ?_⟩⟩
      exact OpE.val (.int .i64 rows) W (by kernel_rfl) (hK _ W hB rfl (fun _ _ h => h))
    · intro L ys W hB hF hP K hK
      refine ⟨19, true, rfl, (show fillE _ 0 ys _ 19 = _ from (show ys 7 = .bool true from hF 7 (hP.1 rfl))), .inl ⟨rfl, ?_⟩⟩
      exact OpE.val (.int .i64 cols) W (by kernel_rfl) (hK _ W hB rfl (fun _ _ h => h))
    · intro L ys W hB hF hP K hK
      refine ⟨19, true, rfl, (show fillE _ 0 ys _ 19 = _ from (show ys 7 = .bool true from hF 7 (hP.1 rfl))), .inl ⟨rfl, ?_⟩⟩
      exact OpE.val (.pointer (some ⟨g_1, 28, none⟩)) W (by kernel_rfl) (hK _ W hB rfl (fun _ _ h => h))
    · intro L ys W hB hF hP K hK
      refine ⟨19, true, rfl, (show fillE _ 0 ys _ 19 = _ from (show ys 7 = .bool true from hF 7 (hP.2.1 rfl))), .inl ⟨rfl, ?_⟩⟩
      exact OpE.known (j := 10) (v := .pointer (some ⟨g_1, 28, none⟩)) (show ys 10 = .pointer (some ⟨g_1, 28, none⟩) from hF 10 (hP.1 rfl)) (OpE.load (g := g_1) (off := 28) (v := .int .i64 c.pages) rfl (by kernel_rfl) (hB.1.all 0 g_1 _ rfl) (by kernel_rfl) (hK _ W hB rfl (fun _ _ h => h)))
    · intro L ys W hB hF hP K hK
      refine ⟨19, true, rfl, (show fillE _ 0 ys _ 19 = _ from (show ys 7 = .bool true from hF 7 (hP.2.2.2.2.1 rfl))), .inl ⟨rfl, ?_⟩⟩
      exact OpE.known (j := 8) (v := .int .i64 rows) (show ys 8 = .int .i64 rows from hF 8 (hP.1 rfl)) (OpE.known (j := 9) (v := .int .i64 cols) (show ys 9 = .int .i64 cols from hF 9 (hP.2.1 rfl)) (OpE.known (j := 11) (v := .int .i64 c.pages) (show ys 11 = .int .i64 c.pages from hF 11 (hP.2.2.1 rfl)) (OpE.call 12 #[.int .i64 rows, .int .i64 cols, .int .i64 c.pages] W _ (by kernel_rfl) (snew_any rows cols c.pages W) (fun x w' hx => by obtain ⟨rfl, hg⟩ := hx; exact ⟨_, rfl, hK _ w' ⟨hB.1.grow hg, hB.2.trans hg⟩ rfl (fun _ _ h => FW.gr HGR hg h)⟩))))
    · intro L ys W hB hF hP K hK
      refine ⟨19, true, rfl, (show fillE _ 0 ys _ 19 = _ from (show ys 7 = .bool true from hF 7 (hP.2.2.1 rfl))), .inl ⟨rfl, ?_⟩⟩
      exact OpE.known (j := 12) (v := .agg (cvA (newC rows cols c.pages))) (show ys 12 = .agg (cvA (newC rows cols c.pages)) from hF 12 (hP.2.1 rfl)) (OpE.call 8 #[.agg (cvA (newC rows cols c.pages))] W _ (by kernel_rfl) (told19 (newC rows cols c.pages) W hnm) (fun x w' hx => by obtain ⟨rfl, hg⟩ := hx; exact ⟨_, rfl, hK _ w' ⟨hB.1.grow hg, hB.2.trans hg⟩ rfl (fun _ _ h => FW.gr HGR hg h)⟩))
    · intro L ys W hB hF hP K hK
      refine ⟨19, true, rfl, (show fillE _ 0 ys _ 19 = _ from (show ys 7 = .bool true from hF 7 (hP.1 rfl))), .inl ⟨rfl, ?_⟩⟩
      exact OpE.val (.int .i64 rows) W (by kernel_rfl) (hK _ W hB rfl (fun _ _ h => h))
    · intro L ys W hB hF hP K hK
      refine ⟨19, true, rfl, (show fillE _ 0 ys _ 19 = _ from (show ys 7 = .bool true from hF 7 (hP.1 rfl))), .inl ⟨rfl, ?_⟩⟩
      exact OpE.val (.int .i64 cols) W (by kernel_rfl) (hK _ W hB rfl (fun _ _ h => h))
    · intro L ys W hB hF hP K hK
      refine ⟨19, true, rfl, (show fillE _ 0 ys _ 19 = _ from (show ys 7 = .bool true from hF 7 (hP.1 rfl))), .inl ⟨rfl, ?_⟩⟩
      exact OpE.val (.pointer (some ⟨g_1, 28, none⟩)) W (by kernel_rfl) (hK _ W hB rfl (fun _ _ h => h))
    · intro L ys W hB hF hP K hK
      refine ⟨19, true, rfl, (show fillE _ 0 ys _ 19 = _ from (show ys 7 = .bool true from hF 7 (hP.2.1 rfl))), .inl ⟨rfl, ?_⟩⟩
      exact OpE.known (j := 16) (v := .pointer (some ⟨g_1, 28, none⟩)) (show ys 16 = .pointer (some ⟨g_1, 28, none⟩) from hF 16 (hP.1 rfl)) (OpE.load (g := g_1) (off := 28) (v := .int .i64 c.pages) rfl (by kernel_rfl) (hB.1.all 0 g_1 _ rfl) (by kernel_rfl) (hK _ W hB rfl (fun _ _ h => h)))
  · intro ys_13 w_10 hs_11 hF_12
    have hs_11 : Bk w w_10 [(g_1, .cells (cdA c) 33 (0, 0))] := hs_11.1
    refine SL.knownY (j := 7) (v := .bool true) (show ys_13 7 = .bool true from hF_12 7 (by decide)) (SL.knownY (j := 13) (v := .agg (cdA (newC rows cols c.pages))) (show ys_13 13 = .agg (cdA (newC rows cols c.pages)) from hF_12 13 (by decide)) (SL.knownY (j := 14) (v := .int .i64 rows) (show ys_13 14 = .int .i64 rows from hF_12 14 (by decide)) (SL.knownY (j := 15) (v := .int .i64 cols) (show ys_13 15 = .int .i64 cols from hF_12 15 (by decide)) (SL.knownY (j := 17) (v := .int .i64 c.pages) (show ys_13 17 = .int .i64 c.pages from hF_12 17 (by decide)) (?_)))))
    clear hF_12 HGR
    refine SL.on rfl rfl (by kernel_rfl) ?_
    refine SL.call (f := 13) (args := #[.int .i64 rows, .int .i64 cols, .int .i64 c.pages]) (w1 := w_10) rfl rfl (by kernel_rfl) (rsnew_any rows cols c.pages w_10) ?_
    rintro x w_14 ⟨rfl, hc_15⟩
    refine ⟨.agg (cdA (newC rows cols c.pages)), rfl, ?_⟩
    have hs_16 := hs_11.grow hc_15
    refine SL.on rfl rfl (by kernel_rfl) ?_
    refine SL.val (v := .bool true) (w' := w_14) rfl rfl (run_eql_op (xs := (cdA (newC rows cols c.pages))) (ys := (cdA (newC rows cols c.pages))) (b := true) rfl (by kernel_rfl) (by kernel_rfl) (by kernel_rfl) (run_eql_flat (x := .agg (cdA (newC rows cols c.pages))) (y := .agg (cdA (newC rows cols c.pages))) (b := true) (m := 6) (lx := [.int .i64 ((newC rows cols c.pages).row), .int .i64 ((newC rows cols c.pages).col), .int .u8 ((newC rows cols c.pages).rend), .bool ((newC rows cols c.pages).kept), .bool ((newC rows cols c.pages).wrap), .bool ((newC rows cols c.pages).origin), .int .i64 ((newC rows cols c.pages).g0), .int .i64 ((newC rows cols c.pages).g1), .int .i64 ((newC rows cols c.pages).g2), .int .i64 ((newC rows cols c.pages).g3), .int .i64 ((newC rows cols c.pages).gl), .int .i64 ((newC rows cols c.pages).gr), .int .i64 ((newC rows cols c.pages).sg), .int .i64 ((newC rows cols c.pages).pt), .int .i64 ((newC rows cols c.pages).pl), .int .i64 ((newC rows cols c.pages).pb), .int .i64 ((newC rows cols c.pages).pr), .int .i64 ((newC rows cols c.pages).mt), .int .i64 ((newC rows cols c.pages).ml), .int .i64 ((newC rows cols c.pages).mb), .int .i64 ((newC rows cols c.pages).mr), .int .i64 ((newC rows cols c.pages).modes), .int .i64 ((newC rows cols c.pages).level), .bool ((newC rows cols c.pages).eight), .bool ((newC rows cols c.pages).stream), .int .i64 ((newC rows cols c.pages).status), .bool ((newC rows cols c.pages).below), .int .i64 ((newC rows cols c.pages).page), .int .i64 ((newC rows cols c.pages).pages)]) (ly := [.int .i64 ((newC rows cols c.pages).row), .int .i64 ((newC rows cols c.pages).col), .int .u8 ((newC rows cols c.pages).rend), .bool ((newC rows cols c.pages).kept), .bool ((newC rows cols c.pages).wrap), .bool ((newC rows cols c.pages).origin), .int .i64 ((newC rows cols c.pages).g0), .int .i64 ((newC rows cols c.pages).g1), .int .i64 ((newC rows cols c.pages).g2), .int .i64 ((newC rows cols c.pages).g3), .int .i64 ((newC rows cols c.pages).gl), .int .i64 ((newC rows cols c.pages).gr), .int .i64 ((newC rows cols c.pages).sg), .int .i64 ((newC rows cols c.pages).pt), .int .i64 ((newC rows cols c.pages).pl), .int .i64 ((newC rows cols c.pages).pb), .int .i64 ((newC rows cols c.pages).pr), .int .i64 ((newC rows cols c.pages).mt), .int .i64 ((newC rows cols c.pages).ml), .int .i64 ((newC rows cols c.pages).mb), .int .i64 ((newC rows cols c.pages).mr), .int .i64 ((newC rows cols c.pages).modes), .int .i64 ((newC rows cols c.pages).level), .bool ((newC rows cols c.pages).eight), .bool ((newC rows cols c.pages).stream), .int .i64 ((newC rows cols c.pages).status), .bool ((newC rows cols c.pages).below), .int .i64 ((newC rows cols c.pages).page), .int .i64 ((newC rows cols c.pages).pages)]) (by kernel_rfl) (by kernel_rfl) (by kernel_rfl) (by kernel_rfl) (by kernel_rfl) (by kernel_rfl) hnok.lits hnok.lits ⟨fun _ => rfl, fun _ => rfl⟩)) ?_
    refine SL.v (.bool true) ?_
    refine SL.v (.bool true) ?_
    refine SL.nil ?_
    refine CW.ret ?_
    repeat with_reducible first | refine PThen.ret ?_ | refine PBlock.ret ?_
    refine PRet.tmp (t := 6) (v := .bool true) rfl rfl (by kernel_rfl) ?_
    exact ⟨rfl, hs_16.gr⟩
set_option maxRecDepth 100000 in
set_option maxHeartbeats 4000000 in
theorem cleans_no (c : Cor) (rows cols : Int) (w : World) (haw : ∀ W, Gr w W → Calls Tryd.prog 6 #[] W fun e w' => e = .returned (.bool true) ∧ Gr W w') (hsm : smallZ c = false) : Calls Tryd.prog 3 #[.agg (cdA c), .int .i64 rows, .int .i64 cols] w fun e w' => e = .returned (.bool true) ∧ Gr w w' := by
  refine calls_sx (n := 33) (args := [.agg (cdA c), .int .i64 rows, .int .i64 cols]) Tryd.func3 rfl rfl rfl ?_
  have hs0 := Bk.init w
  refine CW.seq ?_
  refine CW.region ?_
  refine SL.new (mk := fun g => .pointer (some ⟨g, 0, none⟩)) (C := (cdA c)) (T := 33) hs0 rfl rfl (by kernel_rfl) (fun g_1 w_2 hs_3 => ?_)
  have hs_3 : Bk w w_2 [(g_1, .cells (cdA c) 33 (0, 0))] := hs_3
  refine SL.v (.bool false) ?_
  refine SL.nil ?_
  refine CW.seq ?_
  refine CW.seq ?_
  refine CW.region ?_
  refine SL.call (f := 6) (args := #[]) (w1 := w_2) rfl rfl (by kernel_rfl) (haw w_2 hs_3.gr) ?_
  rintro x w_4 ⟨rfl, hc_5⟩
  refine ⟨.bool true, rfl, ?_⟩
  have hs_6 := hs_3.grow hc_5
  refine SL.v (.bool false) ?_
  refine SL.nil ?_
  refine CW.cond_false (by kernel_rfl) ?_
  refine CW.skip ?_
  refine CW.seq ?_
  refine CW.seq ?_
  refine CW.region ?_
  refine SL.load (g := g_1) (off := 0) (v := .agg (cdA c)) rfl rfl rfl (by kernel_rfl) (hs_6.all 0 g_1 _ rfl) (by kernel_rfl) ?_
  refine SL.call (f := 7) (args := #[.agg (cdA c)]) (w1 := w_4) rfl rfl (by kernel_rfl) (hsm ▸ small_any c w_4) ?_
  rintro x w_7 ⟨rfl, hc_8⟩
  refine ⟨.bool false, rfl, ?_⟩
  have hs_9 := hs_6.grow hc_8
  refine SL.v (.bool true) ?_
  refine SL.nil ?_
  refine CW.cond_true (by kernel_rfl) ?_
  refine CW.seq ?_
  refine CW.region ?_
  refine SL.v (.bool true) ?_
  refine SL.nil ?_
  refine CW.ret ?_
  repeat with_reducible first | refine PThen.ret ?_ | refine PBlock.ret ?_
  refine PRet.tmp (t := 6) (v := .bool true) rfl rfl (by kernel_rfl) ?_
  exact ⟨rfl, hs_9.gr⟩
end Go.Proofs.YtfkecgkfcldffaaDoor
