/-
  The law StateCleans, walked (gen_ste.py).
  The numbers of a state, both texts, walked (gen_stf.py).
-/
import Derived.DeepKeys
import Derived.Test.YthfipedfoofobaaDoorZSr
import Derived.Test.YthfipedfoofobaaDoorZStC
import Derived.Test.YthfipedfoofobaaDoorZHe
import Derived.Test.YthfipedfoofobaaDoorZTkD
namespace Go.Proofs.YthfipedfoofobaaDoor
set_option linter.unusedSimpArgs false
set_option linter.unusedVariables false
open Go.RowKit
set_option linter.unusedVariables false

theorem clipz_in (x a b : Int) (h : a ≤ b) : a ≤ clipZ x a b ∧ clipZ x a b ≤ b := by unfold clipZ; omega
theorem meet_in {aT al ab ar bT bl bb br : Int} (h : I6 aT ∧ I6 al ∧ I6 ab ∧ I6 ar) (k : I6 bT ∧ I6 bl ∧ I6 bb ∧ I6 br) : I6 (meetZ aT al ab ar bT bl bb br).1 ∧ I6 (meetZ aT al ab ar bT bl bb br).2.1 ∧ I6 (meetZ aT al ab ar bT bl bb br).2.2.1 ∧ I6 (meetZ aT al ab ar bT bl bb br).2.2.2 := by
  unfold meetZ I6 at *
  split <;> simp only <;> omega
theorem inner_in {pb pr mt ml mb mr : Int} (h1 : I6 pb) (h2 : I6 pr) (k : I6 mt ∧ I6 ml ∧ I6 mb ∧ I6 mr) : I6 (innerZ pb pr mt ml mb mr).1 ∧ I6 (innerZ pb pr mt ml mb mr).2.1 ∧ I6 (innerZ pb pr mt ml mb mr).2.2.1 ∧ I6 (innerZ pb pr mt ml mb mr).2.2.2 := by
  have hw := whole_in h1 h2
  unfold innerZ
  split
  · exact hw
  · exact meet_in hw k
theorem clamp_in {t l b r row col : Int} (h : I6 t ∧ I6 l ∧ I6 b ∧ I6 r) (h1 : I6 row) (h2 : I6 col) : I6 (clampZ t l b r row col).1 ∧ I6 (clampZ t l b r row col).2 := by
  unfold clampZ
  split
  · exact ⟨h.1, h.2.1⟩
  · rename_i he
    have he' : emptyZ t l b r = false := by simpa using he
    have hq := empty_f he'
    unfold clipZ I6 at *
    simp only
    omega
theorem uL_in (x : Int) : I6 (uL x) := by
  unfold uL selI between I6
  split
  · rename_i h
    simp at h
    omega
  · omega
theorem uR_in (x : Int) : I6 (uR x) := by
  unfold uR selI between I6
  split
  · rename_i h
    simp at h
    omega
  · omega
theorem Cor.Ok.clean {c : Cor} (h : c.Ok) : c.clean.Ok := by
  have hw := whole_in h.p.2.2.1 h.p.2.2.2
  have hc := clamp_in (row := c.row) (col := c.col) hw h.row h.col
  have hi := inner_in h.p.2.2.1 h.p.2.2.2 h.m
  have h5 := clipz_in c.level 1 5 (by decide)
  have h2 := clipz_in c.status 0 2 (by decide)
  have h16 := clipz_in c.pages 1 16 (by decide)
  have hp := clipz_in c.page 0 (clipZ c.pages 1 16 - 1) (by omega)
  have hm := h.modes
  have hr := h.rend
  refine ⟨hc.1, hc.2, ?_, h.g, uL_in _, uR_in _, ?_, hw, hi, ?_, ?_, ?_, ?_, ?_⟩
  · show 0 ≤ c.rend % 32 ∧ c.rend % 32 < 256; omega
  · show I6 (bif (c.sg == 3 || c.sg == 2) then c.sg else 0)
    cases (c.sg == 3 || c.sg == 2)
    · show I6 0; unfold I6; omega
    · exact h.sg
  · show 0 ≤ c.modes % 131072 ∧ c.modes % 131072 < 4294967296; omega
  all_goals (show I6 _; simp only [Cor.clean]; unfold I6; omega)
end Go.Proofs.YthfipedfoofobaaDoor

namespace Go.Proofs.YthfipedfoofobaaDoor
set_option linter.unusedSimpArgs false
set_option linter.unusedVariables false
open Go.RowKit
set_option linter.unusedVariables false

def flagZ (b : Bool) : Int := bif b then 1 else 0
theorem rd_new {w : World} {g n : Nat} {l : List Int} {T : TypeId} {cs : List Value} (hb : w.heap[g]? = some (.cells cs.toArray T (0, 0))) (hc : cs = icells l) (hn : l.length = n) : Rd w (some ⟨g, 0, none⟩) n (icells l) := by
  subst hc
  refine ⟨by simpa [icells] using hn, .inr ⟨g, 0, rfl, fun i u hu => ?_⟩⟩
  have := cell_of_row hb i u (by simpa using hu)
  simpa using this
set_option maxRecDepth 100000 in
set_option maxHeartbeats 4000000 in
theorem flag_any (b : Bool) (w : World) : Calls Tryd.prog 13 #[.bool b] w fun e w' => e = .returned (.int .i64 (flagZ b)) ∧ Gr w w' := by
  refine calls_sx (n := 4) (args := [.bool b]) Tryd.func13 rfl rfl rfl ?_
  have hs0 := Bk.init w
  refine CW.seq ?_
  refine CW.region ?_
  refine SL.v (.int .i64 0) ?_
  refine SL.nil ?_
  refine CW.seq ?_
  refine CW.seq ?_
  refine CW.region ?_
  refine SL.v (.bool b) ?_
  refine SL.nil ?_
  rcases Bool.eq_false_or_eq_true (b) with hb_1 | hb_1
  · try rw [hb_1]
    refine CW.cond_true (by kernel_rfl) ?_
    refine CW.seq ?_
    refine CW.region ?_
    refine SL.v (.int .i64 1) ?_
    refine SL.nil ?_
    refine CW.ret ?_
    repeat with_reducible first | refine PThen.ret ?_ | refine PBlock.ret ?_
    refine PRet.tmp (t := 2) (v := .int .i64 1) rfl rfl (by kernel_rfl) ?_
    exact ⟨rfl, hs0.gr⟩
  · try rw [hb_1]
    refine CW.cond_false (by kernel_rfl) ?_
    refine CW.skip ?_
    refine CW.seq ?_
    refine CW.region ?_
    refine SL.v (.int .i64 0) ?_
    refine SL.nil ?_
    refine CW.ret ?_
    repeat with_reducible first | refine PThen.ret ?_ | refine PBlock.ret ?_
    refine PRet.tmp (t := 2) (v := .int .i64 0) rfl rfl (by kernel_rfl) ?_
    exact ⟨rfl, hs0.gr⟩
def Cor.nums (c : Cor) : List Int := [c.level, flagZ c.eight, c.modes / 4096, c.modes % 4096, flagZ c.stream, c.status, flagZ c.below, c.mt, c.ml, c.mb, c.mr, flagZ c.origin]
end Go.Proofs.YthfipedfoofobaaDoor
