/-
 The law StateCleans, walked (gen_ste.py).
 The numbers of a state, both texts, walked (gen_stf.py).
-/
import Derived.Test.YtfkecgkfcldffaaGreatDoorZStD
import Derived.Test.YtfkecgkfcldffaaGreatDoorZSq
import Derived.Test.YtfkecgkfcldffaaGreatDoorZTkD
namespace Go.Proofs.YtfkecgkfcldffaaGreatDoor
set_option linter.unusedSimpArgs false
set_option linter.unusedVariables false
open Go.RowKit
set_option linter.unusedVariables false

theorem clipz_in (x a b : Int) (h : a ≤ b) : a ≤ clipZ x a b ∧ clipZ x a b ≤ b := by unfold clipZ; omega
theorem meet_in {aT al ab ar bT bl bb br : Int} (h : I6 aT ∧ I6 al ∧ I6 ab ∧ I6 ar) (k : I6 bT ∧ I6 bl ∧ I6 bb ∧ I6 br) : I6 (meetZ aT al ab ar bT bl bb br).1 ∧ I6 (meetZ aT al ab ar bT bl bb br).2.1 ∧ I6 (meetZ aT al ab ar bT bl bb br).2.2.1 ∧ I6 (meetZ aT al ab ar bT bl bb br).2.2.2 := by
 unfold meetZ I6 at *
 split <;> simp only <;> omega
theorem inner_in {pb pr mt ml mb mr : Int} (h1 : I6 pb) (h2 : I6 pr) (k : I6 mt ∧ I6 ml ∧ I6 mb ∧ I6 mr) : I6 (innerZ pb pr mt ml mb mr).1 ∧ I6 (innerZ pb pr mt ml mb mr).2.1 ∧ I6 (innerZ pb pr mt ml mb mr).2.2.1 ∧ I6 (innerZ pb pr mt ml mb mr).2.2.2 := by
 have hw := whole_in h1 h2
 unfold innerZ
 split
 ·exact hw
 ·exact meet_in hw k
theorem clamp_in {t l b r row col : Int} (h : I6 t ∧ I6 l ∧ I6 b ∧ I6 r) (h1 : I6 row) (h2 : I6 col) : I6 (clampZ t l b r row col).1 ∧ I6 (clampZ t l b r row col).2 := by
 unfold clampZ
 split
 ·exact ⟨h.1, h.2.1⟩
 ·rename_i he
  have he' : emptyZ t l b r = false := by simpa using he
  have hq := empty_f he'
  unfold clipZ I6 at *
  simp only
  omega
theorem uL_in (x : Int) : I6 (uL x) := by
 unfold uL selI between I6
 split
 ·rename_i h
  simp at h
  omega
 ·omega
theorem uR_in (x : Int) : I6 (uR x) := by
 unfold uR selI between I6
 split
 ·rename_i h
  simp at h
  omega
 ·omega
theorem Cor.Ok.clean {c : Cor} (h : c.Ok) : c.clean.Ok := by
 have hw := whole_in h.p.2.2.1 h.p.2.2.2
 have hc := clamp_in (row := c.row) (col := c.col) hw h.row h.col
 have hi := inner_in h.p.2.2.1 h.p.2.2.2 h.m
 have h5 := clipz_in c.level 1 5 (by decide)
 have h2 := clipz_in c.status 0 2 (by decide)
 have h16 := clipz_in c.pages 1 16 (by decide)
 have hp := clipz_in c.page 0 (clipZ c.pages 1 16 - 1) (by omega)
 have hm := h.modes
 have hr := h.rend
 refine ⟨hc.1, hc.2, ?_, h.g, uL_in _, uR_in _, ?_, hw, hi, ?_, ?_, ?_, ?_, ?_⟩
 ·show 0 ≤ c.rend % 32 ∧ c.rend % 32 < 256; omega
 ·show I6 (bif (c.sg == 3 || c.sg == 2) then c.sg else 0)
  cases (c.sg == 3 || c.sg == 2)
  ·show I6 0; unfold I6; omega
  ·exact h.sg
 ·show 0 ≤ c.modes % 131072 ∧ c.modes % 131072 < 4294967296; omega
 all_goals (show I6 _; simp only [Cor.clean]; unfold I6; omega)
theorem newC_ok (r c p : Int) (hr : I6 r) (hc : I6 c) (hp : I6 p) : (newC r c p).Ok := by
 unfold newC
 refine ⟨?_, ?_, ?_, ?_, ?_, ?_, ?_, ?_, ?_, ?_, ?_, ?_, ?_, hp⟩ <;> (unfold I6 at *; simp only; omega)
theorem Cor.Ok.lits {c : Cor} (h : c.Ok) : ∀ z ∈ [.int .i64 c.row, .int .i64 c.col, .int .u8 c.rend, .bool c.kept, .bool c.wrap, .bool c.origin, .int .i64 c.g0, .int .i64 c.g1, .int .i64 c.g2, .int .i64 c.g3, .int .i64 c.gl, .int .i64 c.gr, .int .i64 c.sg, .int .i64 c.pt, .int .i64 c.pl, .int .i64 c.pb, .int .i64 c.pr, .int .i64 c.mt, .int .i64 c.ml, .int .i64 c.mb, .int .i64 c.mr, .int .i64 c.modes, .int .i64 c.level, .bool c.eight, .bool c.stream, .int .i64 c.status, .bool c.below, .int .i64 c.page, .int .i64 c.pages], litOk z := by
 have hg := h.g
 have hp := h.p
 have hm := h.m
 simp only [List.forall_mem_cons, List.not_mem_nil, false_implies, implies_true, and_true]
 refine ⟨wf_i64 h.row.1 h.row.2, wf_i64 h.col.1 h.col.2, wf_u8 h.rend.1 h.rend.2, trivial, trivial, trivial, wf_i64 hg.1.1 hg.1.2, wf_i64 hg.2.1.1 hg.2.1.2, wf_i64 hg.2.2.1.1 hg.2.2.1.2, wf_i64 hg.2.2.2.1 hg.2.2.2.2, wf_i64 h.gl.1 h.gl.2, wf_i64 h.gr.1 h.gr.2, wf_i64 h.sg.1 h.sg.2, wf_i64 hp.1.1 hp.1.2, wf_i64 hp.2.1.1 hp.2.1.2, wf_i64 hp.2.2.1.1 hp.2.2.1.2, wf_i64 hp.2.2.2.1 hp.2.2.2.2, wf_i64 hm.1.1 hm.1.2, wf_i64 hm.2.1.1 hm.2.1.2, wf_i64 hm.2.2.1.1 hm.2.2.1.2, wf_i64 hm.2.2.2.1 hm.2.2.2.2, wf_i64 (by have := h.modes; omega) (by have := h.modes; omega), wf_i64 h.level.1 h.level.2, trivial, trivial, wf_i64 h.status.1 h.status.2, trivial, wf_i64 h.page.1 h.page.2, wf_i64 h.pages.1 h.pages.2⟩
end Go.Proofs.YtfkecgkfcldffaaGreatDoor

namespace Go.Proofs.YtfkecgkfcldffaaGreatDoor
set_option linter.unusedSimpArgs false
set_option linter.unusedVariables false
open Go.RowKit
set_option linter.unusedVariables false

def flagZ (b : Bool) : Int := bif b then 1 else 0
theorem rd_new {w : World} {g n : Nat} {l : List Int} {T : TypeId} {cs : List Value} (hb : w.heap[g]? = some (.cells cs.toArray T (0, 0))) (hc : cs = icells l) (hn : l.length = n) : Rd w (some ⟨g, 0, none⟩) n (icells l) := by
 subst hc
 refine ⟨by simpa [icells] using hn, .inr ⟨g, 0, rfl, fun i u hu => ?_⟩⟩
 have := cell_of_row hb i u (by simpa using hu)
 simpa using this
set_option maxRecDepth 100000 in
set_option maxHeartbeats 4000000 in
theorem flag_any (b : Bool) (w : World) : Calls Tryz.prog 54 #[.bool b] w fun e w' => e = .returned (iv (flagZ b)) ∧ Gr w w' := by
 refine calls_sx (n := 4) (args := [.bool b]) Tryz.func54 rfl rfl rfl ?_
 have hs0 := Bk.init w
 refine CW.seq ?_
 refine CW.region ?_
 refine SL.v (iv 0) ?_
 refine SL.nil ?_
 refine CW.seq ?_
 refine CW.seq ?_
 refine CW.region ?_
 refine SL.v (.bool b) ?_
 refine SL.nil ?_
 rcases Bool.eq_false_or_eq_true (b) with hb_1 | hb_1
 ·try rw [hb_1]
  refine CW.cond_true (by kernel_rfl) ?_
  refine CW.seq ?_
  refine CW.region ?_
  refine SL.v (iv 1) ?_
  refine SL.nil ?_
  refine CW.ret ?_
  repeat with_reducible first | refine PThen.ret ?_ | refine PBlock.ret ?_
  refine PRet.tmp (t := 2) (v := iv 1) rfl rfl (by kernel_rfl) ?_
  exact ⟨rfl, hs0.gr⟩
 ·try rw [hb_1]
  refine CW.cond_false (by kernel_rfl) ?_
  refine CW.skip ?_
  refine CW.seq ?_
  refine CW.region ?_
  refine SL.v (iv 0) ?_
  refine SL.nil ?_
  refine CW.ret ?_
  repeat with_reducible first | refine PThen.ret ?_ | refine PBlock.ret ?_
  refine PRet.tmp (t := 2) (v := iv 0) rfl rfl (by kernel_rfl) ?_
  exact ⟨rfl, hs0.gr⟩
def Cor.nums (c : Cor) : List Int := [c.level, flagZ c.eight, c.modes / 4096, c.modes % 4096, flagZ c.stream, c.status, flagZ c.below, c.mt, c.ml, c.mb, c.mr, flagZ c.origin]
set_option maxRecDepth 100000 in
set_option maxHeartbeats 4000000 in
theorem nums_any (c : Cor) (w : World) (hok : c.Ok) : Calls Tryz.prog 47 #[.agg (cvA c)] w fun e w' => ∃ g, e = .returned (sv g 0 12 12) ∧ w'.heap[g]? = some (.cells (icells c.clean.nums).toArray 3 (0, 0)) ∧ w.heap.size ≤ g ∧ Gr w w' := by
 have hcm := hok.clean.modes
 refine calls_sx (n := 43) (args := [.agg (cvA c)]) Tryz.func47 rfl rfl rfl ?_
 have hs0 := Bk.init w
 refine CW.seq ?_
 refine CW.region ?_
 refine SL.new (mk := fun g => pv g 0) (C := (cvA c)) (T := 45) hs0 rfl rfl (by kernel_rfl) (fun g_1 w_2 hs_3 => ?_)
 have hs_3 : Bk w w_2 [(g_1, .cells (cvA c) 45 (0, 0))] := hs_3
 refine SL.v (.slice none 0 0) ?_
 refine SL.nil ?_
 refine CW.seq ?_
 refine CW.region ?_
 refine SL.load (g := g_1) (off := 0) (v := .agg (cvA c)) rfl rfl rfl (by kernel_rfl) (hs_3.all 0 g_1 _ rfl) (by kernel_rfl) ?_
 refine SL.call (f := 20) (args := #[.agg (cvA c)]) (w1 := w_2) rfl rfl (by kernel_rfl) (clean_any c w_2 hok) ?_
 rintro x w_4 ⟨rfl, hc_5⟩
 refine ⟨_, rfl, ?_⟩
 have hs_6 := hs_3.grow hc_5
 refine SL.store (i := 0) (g := g_1) (off := 0) (v := .agg (cvA c.clean)) (L' := [(g_1, .cells (cvA c.clean) 45 (0, 0))]) hs_6 rfl rfl rfl (by kernel_rfl) (by kernel_rfl) rfl (by kernel_rfl) (by kernel_rfl) rfl (by kernel_rfl) rfl (fun w_7 hs_8 => ?_)
 refine SL.nil ?_
 refine CW.seq ?_
 refine CW.region ?_
 refine SL.v (pv g_1 13) ?_
 refine SL.v (pv g_1 17) ?_
 refine SL.load (g := g_1) (off := 17) (v := .agg #[iv c.clean.mt, iv c.clean.ml, iv c.clean.mb, iv c.clean.mr]) rfl rfl rfl (by kernel_rfl) (hs_8.all 0 g_1 _ rfl) (by kernel_rfl) ?_
 refine SL.new (mk := fun g => pv g 0) (C := #[iv 0, iv 0, iv 0, iv 0]) (T := 29) hs_8 rfl rfl (by kernel_rfl) (fun g_9 w_10 hs_11 => ?_)
 have hs_11 : Bk w w_10 [(g_1, .cells (cvA c.clean) 45 (0, 0)), (g_9, .cells #[iv 0, iv 0, iv 0, iv 0] 29 (0, 0))] := hs_11
 refine SL.store (i := 1) (g := g_9) (off := 0) (v := .agg #[iv c.clean.mt, iv c.clean.ml, iv c.clean.mb, iv c.clean.mr]) (L' := [(g_1, .cells (cvA c.clean) 45 (0, 0)), (g_9, .cells #[iv c.clean.mt, iv c.clean.ml, iv c.clean.mb, iv c.clean.mr] 29 (0, 0))]) hs_11 rfl rfl rfl (by kernel_rfl) (by kernel_rfl) rfl (by kernel_rfl) (by kernel_rfl) rfl (by kernel_rfl) rfl (fun w_12 hs_13 => ?_)
 refine SL.nil ?_
 refine CW.seq ?_
 have HGR : GrL [fun v _ => v = pv g_1 22, fun v _ => v = iv c.clean.level, fun v _ => v = pv g_1 23, fun v _ => v = .bool c.clean.eight, fun v _ => v = iv (flagZ c.clean.eight), fun v _ => v = pv g_1 21, fun v _ => v = .int .u32 c.clean.modes, fun v _ => v = iv c.clean.modes, fun v _ => v = iv (c.clean.modes / 4096), fun v _ => v = pv g_1 21, fun v _ => v = .int .u32 c.clean.modes, fun v _ => v = iv c.clean.modes, fun v _ => v = iv (c.clean.modes % 4096), fun v _ => v = pv g_1 24, fun v _ => v = .bool c.clean.stream, fun v _ => v = iv (flagZ c.clean.stream), fun v _ => v = pv g_1 25, fun v _ => v = iv c.clean.status, fun v _ => v = pv g_1 26, fun v _ => v = .bool c.clean.below, fun v _ => v = iv (flagZ c.clean.below), fun v _ => v = pv g_9 0, fun v _ => v = iv c.clean.mt, fun v _ => v = pv g_9 1, fun v _ => v = iv c.clean.ml, fun v _ => v = pv g_9 2, fun v _ => v = iv c.clean.mb, fun v _ => v = pv g_9 3, fun v _ => v = iv c.clean.mr, fun v _ => v = pv g_1 0, fun v _ => v = pv g_1 5, fun v _ => v = .bool c.clean.origin, fun v _ => v = iv (flagZ c.clean.origin)] := ⟨fun _ _ _ _ h => h, ⟨fun _ _ _ _ h => h, ⟨fun _ _ _ _ h => h, ⟨fun _ _ _ _ h => h, ⟨fun _ _ _ _ h => h, ⟨fun _ _ _ _ h => h, ⟨fun _ _ _ _ h => h, ⟨fun _ _ _ _ h => h, ⟨fun _ _ _ _ h => h, ⟨fun _ _ _ _ h => h, ⟨fun _ _ _ _ h => h, ⟨fun _ _ _ _ h => h, ⟨fun _ _ _ _ h => h, ⟨fun _ _ _ _ h => h, ⟨fun _ _ _ _ h => h, ⟨fun _ _ _ _ h => h, ⟨fun _ _ _ _ h => h, ⟨fun _ _ _ _ h => h, ⟨fun _ _ _ _ h => h, ⟨fun _ _ _ _ h => h, ⟨fun _ _ _ _ h => h, ⟨fun _ _ _ _ h => h, ⟨fun _ _ _ _ h => h, ⟨fun _ _ _ _ h => h, ⟨fun _ _ _ _ h => h, ⟨fun _ _ _ _ h => h, ⟨fun _ _ _ _ h => h, ⟨fun _ _ _ _ h => h, ⟨fun _ _ _ _ h => h, ⟨fun _ _ _ _ h => h, ⟨fun _ _ _ _ h => h, ⟨fun _ _ _ _ h => h, ⟨fun _ _ _ _ h => h, trivial⟩⟩⟩⟩⟩⟩⟩⟩⟩⟩⟩⟩⟩⟩⟩⟩⟩⟩⟩⟩⟩⟩⟩⟩⟩⟩⟩⟩⟩⟩⟩⟩⟩
 refine CW.draw 33 (FW [fun v _ => v = pv g_1 22, fun v _ => v = iv c.clean.level, fun v _ => v = pv g_1 23, fun v _ => v = .bool c.clean.eight, fun v _ => v = iv (flagZ c.clean.eight), fun v _ => v = pv g_1 21, fun v _ => v = .int .u32 c.clean.modes, fun v _ => v = iv c.clean.modes, fun v _ => v = iv (c.clean.modes / 4096), fun v _ => v = pv g_1 21, fun v _ => v = .int .u32 c.clean.modes, fun v _ => v = iv c.clean.modes, fun v _ => v = iv (c.clean.modes % 4096), fun v _ => v = pv g_1 24, fun v _ => v = .bool c.clean.stream, fun v _ => v = iv (flagZ c.clean.stream), fun v _ => v = pv g_1 25, fun v _ => v = iv c.clean.status, fun v _ => v = pv g_1 26, fun v _ => v = .bool c.clean.below, fun v _ => v = iv (flagZ c.clean.below), fun v _ => v = pv g_9 0, fun v _ => v = iv c.clean.mt, fun v _ => v = pv g_9 1, fun v _ => v = iv c.clean.ml, fun v _ => v = pv g_9 2, fun v _ => v = iv c.clean.mb, fun v _ => v = pv g_9 3, fun v _ => v = iv c.clean.mr, fun v _ => v = pv g_1 0, fun v _ => v = pv g_1 5, fun v _ => v = .bool c.clean.origin, fun v _ => v = iv (flagZ c.clean.origin)]) (fun W => Bk w W [(g_1, .cells (cvA c.clean) 45 (0, 0)), (g_9, .cells #[iv c.clean.mt, iv c.clean.ml, iv c.clean.mb, iv c.clean.mr] 29 (0, 0))] ∧ Gr w_12 W) (by kernel_rfl) (by kernel_rfl) (by kernel_rfl) (by kernel_rfl) (by kernel_rfl) ⟨hs_13.drew, (Gr.refl _).drew⟩ ?_ ?_
 ·refine ⟨?_, ⟨?_, ⟨?_, ⟨?_, ⟨?_, ⟨?_, ⟨?_, ⟨?_, ⟨?_, ⟨?_, ⟨?_, ⟨?_, ⟨?_, ⟨?_, ⟨?_, ⟨?_, ⟨?_, ⟨?_, ⟨?_, ⟨?_, ⟨?_, ⟨?_, ⟨?_, ⟨?_, ⟨?_, ⟨?_, ⟨?_, ⟨?_, ⟨?_, ⟨?_, ⟨?_, ⟨?_, ⟨?_, trivial⟩⟩⟩⟩⟩⟩⟩⟩⟩⟩⟩⟩⟩⟩⟩⟩⟩⟩⟩⟩⟩⟩⟩⟩⟩⟩⟩⟩⟩⟩⟩⟩⟩
  ·intro L ys W hB hF hP K hK
   show OpE _ _ _ W K
   exact OpE.val (pv g_1 22) W (by kernel_rfl) (hK _ W hB rfl (fun _ _ h => h))
  ·intro L ys W hB hF hP K hK
   show OpE _ _ _ W K
   exact OpE.known (j := 0) (v := pv g_1 22) (hF 0 (hP.1 rfl)) (OpE.load (g := g_1) (off := 22) (v := iv c.clean.level) rfl (by kernel_rfl) (hB.1.all 0 g_1 _ rfl) (by kernel_rfl) (hK _ W hB rfl (fun _ _ h => h)))
  ·intro L ys W hB hF hP K hK
   show OpE _ _ _ W K
   exact OpE.val (pv g_1 23) W (by kernel_rfl) (hK _ W hB rfl (fun _ _ h => h))
  ·intro L ys W hB hF hP K hK
   show OpE _ _ _ W K
   exact OpE.known (j := 2) (v := pv g_1 23) (hF 2 (hP.1 rfl)) (OpE.load (g := g_1) (off := 23) (v := .bool c.clean.eight) rfl (by kernel_rfl) (hB.1.all 0 g_1 _ rfl) (by kernel_rfl) (hK _ W hB rfl (fun _ _ h => h)))
  ·intro L ys W hB hF hP K hK
   show OpE _ _ _ W K
   exact OpE.known (j := 3) (v := .bool c.clean.eight) (hF 3 (hP.1 rfl)) (OpE.call 54 #[.bool c.clean.eight] W _ (by kernel_rfl) (flag_any c.clean.eight W) (fun x w' hx => by obtain ⟨rfl, hg⟩ := hx; exact ⟨_, rfl, hK _ w' ⟨hB.1.grow hg, hB.2.trans hg⟩ rfl (fun _ _ h => FW.gr HGR hg h)⟩))
  ·intro L ys W hB hF hP K hK
   show OpE _ _ _ W K
   exact OpE.val (pv g_1 21) W (by kernel_rfl) (hK _ W hB rfl (fun _ _ h => h))
  ·intro L ys W hB hF hP K hK
   show OpE _ _ _ W K
   exact OpE.known (j := 5) (v := pv g_1 21) (hF 5 (hP.1 rfl)) (OpE.load (g := g_1) (off := 21) (v := .int .u32 c.clean.modes) rfl (by kernel_rfl) (hB.1.all 0 g_1 _ rfl) (by kernel_rfl) (hK _ W hB rfl (fun _ _ h => h)))
  ·intro L ys W hB hF hP K hK
   show OpE _ _ _ W K
   exact OpE.known (j := 6) (v := .int .u32 c.clean.modes) (hF 6 (hP.1 rfl)) (OpE.val (iv c.clean.modes) W (by have hw : IntKind.i64.wrap (c.clean.modes) = c.clean.modes := IntWalk.i64_in _ (by omega); exact run_eqv (by kernel_rfl) (congrArg (fun z => Value.int .i64 z) hw)) (hK _ W hB rfl (fun _ _ h => h)))
  ·intro L ys W hB hF hP K hK
   show OpE _ _ _ W K
   exact OpE.known (j := 7) (v := iv c.clean.modes) (hF 7 (hP.1 rfl)) (OpE.val (iv (c.clean.modes / 4096)) W (by have hw : IntKind.i64.wrap (Int.tdiv c.clean.modes 4096) = c.clean.modes / 4096 := (by rw [Int.tdiv_eq_ediv_of_nonneg (by omega)]; exact IntWalk.i64_in _ (by omega)); exact run_eqv (by kernel_rfl) (congrArg (Value.int .i64) hw)) (hK _ W hB rfl (fun _ _ h => h)))
  ·intro L ys W hB hF hP K hK
   show OpE _ _ _ W K
   exact OpE.val (pv g_1 21) W (by kernel_rfl) (hK _ W hB rfl (fun _ _ h => h))
  ·intro L ys W hB hF hP K hK
   show OpE _ _ _ W K
   exact OpE.known (j := 9) (v := pv g_1 21) (hF 9 (hP.1 rfl)) (OpE.load (g := g_1) (off := 21) (v := .int .u32 c.clean.modes) rfl (by kernel_rfl) (hB.1.all 0 g_1 _ rfl) (by kernel_rfl) (hK _ W hB rfl (fun _ _ h => h)))
  ·intro L ys W hB hF hP K hK
   show OpE _ _ _ W K
   exact OpE.known (j := 10) (v := .int .u32 c.clean.modes) (hF 10 (hP.1 rfl)) (OpE.val (iv c.clean.modes) W (by have hw : IntKind.i64.wrap (c.clean.modes) = c.clean.modes := IntWalk.i64_in _ (by omega); exact run_eqv (by kernel_rfl) (congrArg (fun z => Value.int .i64 z) hw)) (hK _ W hB rfl (fun _ _ h => h)))
  ·intro L ys W hB hF hP K hK
   show OpE _ _ _ W K
   exact OpE.known (j := 11) (v := iv c.clean.modes) (hF 11 (hP.1 rfl)) (OpE.val (iv (c.clean.modes % 4096)) W (run_eqv (by kernel_rfl) (congrArg (Value.int .i64) (Int.tmod_eq_emod_of_nonneg (a := c.clean.modes) (b := 4096) (by omega)))) (hK _ W hB rfl (fun _ _ h => h)))
  ·intro L ys W hB hF hP K hK
   show OpE _ _ _ W K
   exact OpE.val (pv g_1 24) W (by kernel_rfl) (hK _ W hB rfl (fun _ _ h => h))
  ·intro L ys W hB hF hP K hK
   show OpE _ _ _ W K
   exact OpE.known (j := 13) (v := pv g_1 24) (hF 13 (hP.1 rfl)) (OpE.load (g := g_1) (off := 24) (v := .bool c.clean.stream) rfl (by kernel_rfl) (hB.1.all 0 g_1 _ rfl) (by kernel_rfl) (hK _ W hB rfl (fun _ _ h => h)))
  ·intro L ys W hB hF hP K hK
   show OpE _ _ _ W K
   exact OpE.known (j := 14) (v := .bool c.clean.stream) (hF 14 (hP.1 rfl)) (OpE.call 54 #[.bool c.clean.stream] W _ (by kernel_rfl) (flag_any c.clean.stream W) (fun x w' hx => by obtain ⟨rfl, hg⟩ := hx; exact ⟨_, rfl, hK _ w' ⟨hB.1.grow hg, hB.2.trans hg⟩ rfl (fun _ _ h => FW.gr HGR hg h)⟩))
  ·intro L ys W hB hF hP K hK
   show OpE _ _ _ W K
   exact OpE.val (pv g_1 25) W (by kernel_rfl) (hK _ W hB rfl (fun _ _ h => h))
  ·intro L ys W hB hF hP K hK
   show OpE _ _ _ W K
   exact OpE.known (j := 16) (v := pv g_1 25) (hF 16 (hP.1 rfl)) (OpE.load (g := g_1) (off := 25) (v := iv c.clean.status) rfl (by kernel_rfl) (hB.1.all 0 g_1 _ rfl) (by kernel_rfl) (hK _ W hB rfl (fun _ _ h => h)))
  ·intro L ys W hB hF hP K hK
   show OpE _ _ _ W K
   exact OpE.val (pv g_1 26) W (by kernel_rfl) (hK _ W hB rfl (fun _ _ h => h))
  ·intro L ys W hB hF hP K hK
   show OpE _ _ _ W K
   exact OpE.known (j := 18) (v := pv g_1 26) (hF 18 (hP.1 rfl)) (OpE.load (g := g_1) (off := 26) (v := .bool c.clean.below) rfl (by kernel_rfl) (hB.1.all 0 g_1 _ rfl) (by kernel_rfl) (hK _ W hB rfl (fun _ _ h => h)))
  ·intro L ys W hB hF hP K hK
   show OpE _ _ _ W K
   exact OpE.known (j := 19) (v := .bool c.clean.below) (hF 19 (hP.1 rfl)) (OpE.call 54 #[.bool c.clean.below] W _ (by kernel_rfl) (flag_any c.clean.below W) (fun x w' hx => by obtain ⟨rfl, hg⟩ := hx; exact ⟨_, rfl, hK _ w' ⟨hB.1.grow hg, hB.2.trans hg⟩ rfl (fun _ _ h => FW.gr HGR hg h)⟩))
  ·intro L ys W hB hF hP K hK
   show OpE _ _ _ W K
   exact OpE.val (pv g_9 0) W (by kernel_rfl) (hK _ W hB rfl (fun _ _ h => h))
  ·intro L ys W hB hF hP K hK
   show OpE _ _ _ W K
   exact OpE.known (j := 21) (v := pv g_9 0) (hF 21 (hP.1 rfl)) (OpE.load (g := g_9) (off := 0) (v := iv c.clean.mt) rfl (by kernel_rfl) (hB.1.all 1 g_9 _ rfl) (by kernel_rfl) (hK _ W hB rfl (fun _ _ h => h)))
  ·intro L ys W hB hF hP K hK
   show OpE _ _ _ W K
   exact OpE.val (pv g_9 1) W (by kernel_rfl) (hK _ W hB rfl (fun _ _ h => h))
  ·intro L ys W hB hF hP K hK
   show OpE _ _ _ W K
   exact OpE.known (j := 23) (v := pv g_9 1) (hF 23 (hP.1 rfl)) (OpE.load (g := g_9) (off := 1) (v := iv c.clean.ml) rfl (by kernel_rfl) (hB.1.all 1 g_9 _ rfl) (by kernel_rfl) (hK _ W hB rfl (fun _ _ h => h)))
  ·intro L ys W hB hF hP K hK
   show OpE _ _ _ W K
   exact OpE.val (pv g_9 2) W (by kernel_rfl) (hK _ W hB rfl (fun _ _ h => h))
  ·intro L ys W hB hF hP K hK
   show OpE _ _ _ W K
   exact OpE.known (j := 25) (v := pv g_9 2) (hF 25 (hP.1 rfl)) (OpE.load (g := g_9) (off := 2) (v := iv c.clean.mb) rfl (by kernel_rfl) (hB.1.all 1 g_9 _ rfl) (by kernel_rfl) (hK _ W hB rfl (fun _ _ h => h)))
  ·intro L ys W hB hF hP K hK
   show OpE _ _ _ W K
   exact OpE.val (pv g_9 3) W (by kernel_rfl) (hK _ W hB rfl (fun _ _ h => h))
  ·intro L ys W hB hF hP K hK
   show OpE _ _ _ W K
   exact OpE.known (j := 27) (v := pv g_9 3) (hF 27 (hP.1 rfl)) (OpE.load (g := g_9) (off := 3) (v := iv c.clean.mr) rfl (by kernel_rfl) (hB.1.all 1 g_9 _ rfl) (by kernel_rfl) (hK _ W hB rfl (fun _ _ h => h)))
  ·intro L ys W hB hF hP K hK
   show OpE _ _ _ W K
   exact OpE.val (pv g_1 0) W (by kernel_rfl) (hK _ W hB rfl (fun _ _ h => h))
  ·intro L ys W hB hF hP K hK
   show OpE _ _ _ W K
   exact OpE.known (j := 29) (v := pv g_1 0) (hF 29 (hP.1 rfl)) (OpE.val (pv g_1 5) W (by kernel_rfl) (hK _ W hB rfl (fun _ _ h => h)))
  ·intro L ys W hB hF hP K hK
   show OpE _ _ _ W K
   exact OpE.known (j := 30) (v := pv g_1 5) (hF 30 (hP.1 rfl)) (OpE.load (g := g_1) (off := 5) (v := .bool c.clean.origin) rfl (by kernel_rfl) (hB.1.all 0 g_1 _ rfl) (by kernel_rfl) (hK _ W hB rfl (fun _ _ h => h)))
  ·intro L ys W hB hF hP K hK
   show OpE _ _ _ W K
   exact OpE.known (j := 31) (v := .bool c.clean.origin) (hF 31 (hP.1 rfl)) (OpE.call 54 #[.bool c.clean.origin] W _ (by kernel_rfl) (flag_any c.clean.origin W) (fun x w' hx => by obtain ⟨rfl, hg⟩ := hx; exact ⟨_, rfl, hK _ w' ⟨hB.1.grow hg, hB.2.trans hg⟩ rfl (fun _ _ h => FW.gr HGR hg h)⟩))
 ·intro ys_17 w_14 hs_15 hF_16
  have hs_15 : Bk w w_14 [(g_1, .cells (cvA c.clean) 45 (0, 0)), (g_9, .cells #[iv c.clean.mt, iv c.clean.ml, iv c.clean.mb, iv c.clean.mr] 29 (0, 0))] := hs_15.1
  refine SL.knownY (j := 1) (v := iv c.clean.level) (show ys_17 1 = iv c.clean.level from hF_16 1 (by decide)) (SL.knownY (j := 4) (v := iv (flagZ c.clean.eight)) (show ys_17 4 = iv (flagZ c.clean.eight) from hF_16 4 (by decide)) (SL.knownY (j := 8) (v := iv (c.clean.modes / 4096)) (show ys_17 8 = iv (c.clean.modes / 4096) from hF_16 8 (by decide)) (SL.knownY (j := 12) (v := iv (c.clean.modes % 4096)) (show ys_17 12 = iv (c.clean.modes % 4096) from hF_16 12 (by decide)) (SL.knownY (j := 15) (v := iv (flagZ c.clean.stream)) (show ys_17 15 = iv (flagZ c.clean.stream) from hF_16 15 (by decide)) (SL.knownY (j := 17) (v := iv c.clean.status) (show ys_17 17 = iv c.clean.status from hF_16 17 (by decide)) (SL.knownY (j := 20) (v := iv (flagZ c.clean.below)) (show ys_17 20 = iv (flagZ c.clean.below) from hF_16 20 (by decide)) (SL.knownY (j := 22) (v := iv c.clean.mt) (show ys_17 22 = iv c.clean.mt from hF_16 22 (by decide)) (SL.knownY (j := 24) (v := iv c.clean.ml) (show ys_17 24 = iv c.clean.ml from hF_16 24 (by decide)) (SL.knownY (j := 26) (v := iv c.clean.mb) (show ys_17 26 = iv c.clean.mb from hF_16 26 (by decide)) (SL.knownY (j := 28) (v := iv c.clean.mr) (show ys_17 28 = iv c.clean.mr from hF_16 28 (by decide)) (SL.knownY (j := 32) (v := iv (flagZ c.clean.origin)) (show ys_17 32 = iv (flagZ c.clean.origin) from hF_16 32 (by decide)) (?_))))))))))))
  clear hF_16 HGR
  refine SL.new (mk := fun g => sv g 0 12 12) (C := #[iv c.clean.level, iv (flagZ c.clean.eight), iv (c.clean.modes / 4096), iv (c.clean.modes % 4096), iv (flagZ c.clean.stream), iv c.clean.status, iv (flagZ c.clean.below), iv c.clean.mt, iv c.clean.ml, iv c.clean.mb, iv c.clean.mr, iv (flagZ c.clean.origin)]) (T := 3) hs_15 rfl rfl (by kernel_rfl) (fun g_18 w_19 hs_20 => ?_)
  have hs_20 : Bk w w_19 [(g_1, .cells (cvA c.clean) 45 (0, 0)), (g_9, .cells #[iv c.clean.mt, iv c.clean.ml, iv c.clean.mb, iv c.clean.mr] 29 (0, 0)), (g_18, .cells #[iv c.clean.level, iv (flagZ c.clean.eight), iv (c.clean.modes / 4096), iv (c.clean.modes % 4096), iv (flagZ c.clean.stream), iv c.clean.status, iv (flagZ c.clean.below), iv c.clean.mt, iv c.clean.ml, iv c.clean.mb, iv c.clean.mr, iv (flagZ c.clean.origin)] 3 (0, 0))] := hs_20
  refine SL.v (sv g_18 0 12 12) ?_
  refine SL.nil ?_
  refine CW.ret ?_
  repeat with_reducible first | refine PThen.ret ?_ | refine PBlock.ret ?_
  refine PRet.tmp (t := 2) (v := sv g_18 0 12 12) rfl rfl (by kernel_rfl) ?_
  exact ⟨g_18, rfl, hs_20.all 2 g_18 _ rfl, hs_20.own 2 g_18 _ rfl, hs_20.gr⟩
end Go.Proofs.YtfkecgkfcldffaaGreatDoor
