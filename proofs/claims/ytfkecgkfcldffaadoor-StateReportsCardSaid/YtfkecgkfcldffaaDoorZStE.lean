/-
  The law StateCleans, walked (gen_ste.py).
-/
import Derived.Test.YtfkecgkfcldffaaDoorZStD
import Derived.Test.YtfkecgkfcldffaaDoorZSq
namespace Go.Proofs.YtfkecgkfcldffaaDoor
set_option linter.unusedSimpArgs false
set_option linter.unusedVariables false
open Go.RowKit
set_option linter.unusedVariables false

theorem clipz_in (x a b : Int) (h : a ≤ b) : a ≤ clipZ x a b ∧ clipZ x a b ≤ b := by unfold clipZ; omega
theorem meet_in {aT al ab ar bT bl bb br : Int} (h : I6 aT ∧ I6 al ∧ I6 ab ∧ I6 ar) (k : I6 bT ∧ I6 bl ∧ I6 bb ∧ I6 br) : I6 (meetZ aT al ab ar bT bl bb br).1 ∧ I6 (meetZ aT al ab ar bT bl bb br).2.1 ∧ I6 (meetZ aT al ab ar bT bl bb br).2.2.1 ∧ I6 (meetZ aT al ab ar bT bl bb br).2.2.2 := by
  unfold meetZ I6 at *
  split <;> simp only <;> omega
theorem inner_in {pb pr mt ml mb mr : Int} (h1 : I6 pb) (h2 : I6 pr) (k : I6 mt ∧ I6 ml ∧ I6 mb ∧ I6 mr) : I6 (innerZ pb pr mt ml mb mr).1 ∧ I6 (innerZ pb pr mt ml mb mr).2.1 ∧ I6 (innerZ pb pr mt ml mb mr).2.2.1 ∧ I6 (innerZ pb pr mt ml mb mr).2.2.2 := by
  have hw := whole_in h1 h2
  unfold innerZ
  split
  · exact hw
  · exact meet_in hw k
theorem clamp_in {t l b r row col : Int} (h : I6 t ∧ I6 l ∧ I6 b ∧ I6 r) (h1 : I6 row) (h2 : I6 col) : I6 (clampZ t l b r row col).1 ∧ I6 (clampZ t l b r row col).2 := by
  unfold clampZ
  split
  · exact ⟨h.1, h.2.1⟩
  · rename_i he
    have he' : emptyZ t l b r = false := by simpa using he
    have hq := empty_f he'
    unfold clipZ I6 at *
    simp only
    omega
theorem uL_in (x : Int) : I6 (uL x) := by
  unfold uL selI between I6
  split
  · rename_i h
    simp at h
    omega
  · omega
theorem uR_in (x : Int) : I6 (uR x) := by
  unfold uR selI between I6
  split
  · rename_i h
    simp at h
    omega
  · omega
theorem Cor.Ok.clean {c : Cor} (h : c.Ok) : c.clean.Ok := by
  have hw := whole_in h.p.2.2.1 h.p.2.2.2
  have hc := clamp_in (row := c.row) (col := c.col) hw h.row h.col
  have hi := inner_in h.p.2.2.1 h.p.2.2.2 h.m
  have h5 := clipz_in c.level 1 5 (by decide)
  have h2 := clipz_in c.status 0 2 (by decide)
  have h16 := clipz_in c.pages 1 16 (by decide)
  have hp := clipz_in c.page 0 (clipZ c.pages 1 16 - 1) (by omega)
  have hm := h.modes
  have hr := h.rend
  refine ⟨hc.1, hc.2, ?_, h.g, uL_in _, uR_in _, ?_, hw, hi, ?_, ?_, ?_, ?_, ?_⟩
  · show 0 ≤ c.rend % 32 ∧ c.rend % 32 < 256; omega
  · show I6 (bif (c.sg == 3 || c.sg == 2) then c.sg else 0)
    cases (c.sg == 3 || c.sg == 2)
    · show I6 0; unfold I6; omega
    · exact h.sg
  · show 0 ≤ c.modes % 131072 ∧ c.modes % 131072 < 4294967296; omega
  all_goals (show I6 _; simp only [Cor.clean]; unfold I6; omega)
theorem newC_ok (r c p : Int) (hr : I6 r) (hc : I6 c) (hp : I6 p) : (newC r c p).Ok := by
  unfold newC
  refine ⟨?_, ?_, ?_, ?_, ?_, ?_, ?_, ?_, ?_, ?_, ?_, ?_, ?_, hp⟩ <;> (unfold I6 at *; simp only; omega)
theorem Cor.Ok.lits {c : Cor} (h : c.Ok) : ∀ z ∈ [.int .i64 c.row, .int .i64 c.col, .int .u8 c.rend, .bool c.kept, .bool c.wrap, .bool c.origin, .int .i64 c.g0, .int .i64 c.g1, .int .i64 c.g2, .int .i64 c.g3, .int .i64 c.gl, .int .i64 c.gr, .int .i64 c.sg, .int .i64 c.pt, .int .i64 c.pl, .int .i64 c.pb, .int .i64 c.pr, .int .i64 c.mt, .int .i64 c.ml, .int .i64 c.mb, .int .i64 c.mr, .int .i64 c.modes, .int .i64 c.level, .bool c.eight, .bool c.stream, .int .i64 c.status, .bool c.below, .int .i64 c.page, .int .i64 c.pages], litOk z := by
  have hg := h.g
  have hp := h.p
  have hm := h.m
  simp only [List.forall_mem_cons, List.not_mem_nil, false_implies, implies_true, and_true]
  refine ⟨wf_i64 h.row.1 h.row.2, wf_i64 h.col.1 h.col.2, wf_u8 h.rend.1 h.rend.2, trivial, trivial, trivial, wf_i64 hg.1.1 hg.1.2, wf_i64 hg.2.1.1 hg.2.1.2, wf_i64 hg.2.2.1.1 hg.2.2.1.2, wf_i64 hg.2.2.2.1 hg.2.2.2.2, wf_i64 h.gl.1 h.gl.2, wf_i64 h.gr.1 h.gr.2, wf_i64 h.sg.1 h.sg.2, wf_i64 hp.1.1 hp.1.2, wf_i64 hp.2.1.1 hp.2.1.2, wf_i64 hp.2.2.1.1 hp.2.2.1.2, wf_i64 hp.2.2.2.1 hp.2.2.2.2, wf_i64 hm.1.1 hm.1.2, wf_i64 hm.2.1.1 hm.2.1.2, wf_i64 hm.2.2.1.1 hm.2.2.1.2, wf_i64 hm.2.2.2.1 hm.2.2.2.2, wf_i64 (by have := h.modes; omega) (by have := h.modes; omega), wf_i64 h.level.1 h.level.2, trivial, trivial, wf_i64 h.status.1 h.status.2, trivial, wf_i64 h.page.1 h.page.2, wf_i64 h.pages.1 h.pages.2⟩
end Go.Proofs.YtfkecgkfcldffaaDoor
