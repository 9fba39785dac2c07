/-
 What a state counts as, in both texts, walked (gen_stc.py).
-/
import Derived.Test.YtfkecgkfcldffaaGreatDoorZIsD
import Derived.Test.YtfkecgkfcldffaaGreatDoorZStB
namespace Go.Proofs.YtfkecgkfcldffaaGreatDoor
set_option linter.unusedSimpArgs false
set_option linter.unusedVariables false
open Go.RowKit
set_option linter.unusedVariables false

/-- What a state counts as. -/
def Cor.clean (c : Cor) : Cor :=
 { c with
  pt := (wholeZ c.pb c.pr).1, pl := (wholeZ c.pb c.pr).2.1, pb := (wholeZ c.pb c.pr).2.2.1, pr := (wholeZ c.pb c.pr).2.2.2
  mt := (innerZ c.pb c.pr c.mt c.ml c.mb c.mr).1, ml := (innerZ c.pb c.pr c.mt c.ml c.mb c.mr).2.1, mb := (innerZ c.pb c.pr c.mt c.ml c.mb c.mr).2.2.1, mr := (innerZ c.pb c.pr c.mt c.ml c.mb c.mr).2.2.2
  row := (clampZ 0 0 (wholeZ c.pb c.pr).2.2.1 (wholeZ c.pb c.pr).2.2.2 c.row c.col).1, col := (clampZ 0 0 (wholeZ c.pb c.pr).2.2.1 (wholeZ c.pb c.pr).2.2.2 c.row c.col).2
  rend := c.rend % 32, gl := uL c.gl, gr := uR c.gr, sg := bif (c.sg == 3 || c.sg == 2) then c.sg else 0
  modes := c.modes % 131072, level := clipZ c.level 1 5, status := clipZ c.status 0 2, pages := clipZ c.pages 1 16, page := clipZ c.page 0 (clipZ c.pages 1 16 - 1) }
theorem apply32 (r : Int) (g : Nat) (w : World) (hb : w.heap[g]? = some (.cells #[iv (-1)] 3 (0, 0))) (hr : 0 ≤ r ∧ r < 256) : Calls Tryz.prog 59 #[.int .u8 r, sv g 0 1 1] w fun e w' => e = .returned (.int .u8 (r % 32)) ∧ Gr w w' := by
 have := apply_m1 r g w hb
 rw [rend_m1 hr.1 hr.2] at this
 exact this
theorem clear17 (m : Int) (w : World) (hm : 0 ≤ m ∧ m < 4294967296) : Calls Tryz.prog 60 #[.int .u32 m] w fun e w' => e = .returned (.int .u32 (m % 131072)) ∧ Gr w w' := by
 have := mclear_any m w
 rw [mclear m hm.1 hm.2] at this
 exact this
theorem whole_in {b r : Int} (hb : I6 b) (hr : I6 r) : I6 (wholeZ b r).1 ∧ I6 (wholeZ b r).2.1 ∧ I6 (wholeZ b r).2.2.1 ∧ I6 (wholeZ b r).2.2.2 := by
 unfold wholeZ I6 at *
 simp only
 omega
abbrev qStC_0 (c : Cor) : Int × Int := (clampZ ((wholeZ c.pb c.pr).1) ((wholeZ c.pb c.pr).2.1) ((wholeZ c.pb c.pr).2.2.1) ((wholeZ c.pb c.pr).2.2.2) c.row c.col)
abbrev qStC_1 (c : Cor) : Int × Int × Int × Int := (innerZ c.pb c.pr c.mt c.ml c.mb c.mr)
abbrev qStC_2 (c : Cor) : Array Value := #[iv c.pt, iv c.pl, iv c.pb, iv c.pr, iv c.mt, iv c.ml, iv c.mb, iv c.mr]
abbrev qStC_3 (c : Cor) : Array Value := #[iv ((wholeZ c.pb c.pr).1), iv ((wholeZ c.pb c.pr).2.1), iv ((wholeZ c.pb c.pr).2.2.1), iv ((wholeZ c.pb c.pr).2.2.2)]
set_option maxRecDepth 100000 in
set_option maxHeartbeats 4000000 in
theorem clean_any (c : Cor) (w : World) (hc : c.Ok) : Calls Tryz.prog 20 #[.agg (cvA c)] w fun e w' => e = .returned (c.clean.v) ∧ Gr w w' := by
 have hwh := whole_in hc.p.2.2.1 hc.p.2.2.2
 have hrend := hc.rend
 have hmodes := hc.modes
 have hpg : 1 ≤ clipZ c.pages 1 16 ∧ clipZ c.pages 1 16 ≤ 16 := by unfold clipZ; omega
 refine calls_sx (n := 84) (args := [.agg (cvA c)]) Tryz.func20 rfl rfl rfl ?_
 have hs0 := Bk.init w
 refine CW.seq ?_
 refine CW.region ?_
 refine SL.new (mk := fun g => pv g 0) (C := (cvA c)) (T := 45) hs0 rfl rfl (by kernel_rfl) (fun g_1 w_2 hs_3 => ?_)
 have hs_3 : Bk w w_2 [(g_1, .cells (cvA c) 45 (0, 0))] := hs_3
 refine SL.new (mk := fun g => pv g 0) (C := czA) (T := 45) hs_3 rfl rfl (by kernel_rfl) (fun g_4 w_5 hs_6 => ?_)
 have hs_6 : Bk w w_5 [(g_1, .cells (cvA c) 45 (0, 0)), (g_4, .cells czA 45 (0, 0))] := hs_6
 refine SL.nil ?_
 refine CW.seq ?_
 have HGR : GrL [fun v _ => v = pv g_1 13, fun v _ => v = .agg (qStC_2 c), fun v _ => v = .agg (qStC_3 c), fun v _ => v = pv g_1 13, fun v _ => v = .agg (qStC_2 c)] := ⟨fun _ _ _ _ h => h, ⟨fun _ _ _ _ h => h, ⟨fun _ _ _ _ h => h, ⟨fun _ _ _ _ h => h, ⟨fun _ _ _ _ h => h, trivial⟩⟩⟩⟩⟩
 refine CW.draw 5 (FW [fun v _ => v = pv g_1 13, fun v _ => v = .agg (qStC_2 c), fun v _ => v = .agg (qStC_3 c), fun v _ => v = pv g_1 13, fun v _ => v = .agg (qStC_2 c)]) (fun W => Bk w W [(g_1, .cells (cvA c) 45 (0, 0)), (g_4, .cells czA 45 (0, 0))] ∧ Gr w_5 W) (by kernel_rfl) (by kernel_rfl) (by kernel_rfl) (by kernel_rfl) (by kernel_rfl) ⟨hs_6.drew, (Gr.refl _).drew⟩ ?_ ?_
 ·refine ⟨?_, ⟨?_, ⟨?_, ⟨?_, ⟨?_, trivial⟩⟩⟩⟩⟩
  ·intro L ys W hB hF hP K hK
   show OpE _ _ _ W K
   exact OpE.val (pv g_1 13) W (by kernel_rfl) (hK _ W hB rfl (fun _ _ h => h))
  ·intro L ys W hB hF hP K hK
   show OpE _ _ _ W K
   exact OpE.known (j := 0) (v := pv g_1 13) (hF 0 (hP.1 rfl)) (OpE.load (g := g_1) (off := 13) (v := .agg (qStC_2 c)) rfl (by kernel_rfl) (hB.1.all 0 g_1 _ rfl) (by kernel_rfl) (hK _ W hB rfl (fun _ _ h => h)))
  ·intro L ys W hB hF hP K hK
   show OpE _ _ _ W K
   exact OpE.known (j := 1) (v := .agg (qStC_2 c)) (hF 1 (hP.1 rfl)) (OpE.call 56 #[.agg (qStC_2 c)] W _ (by kernel_rfl) (fwhole_any c.pt c.pl c.pb c.pr c.mt c.ml c.mb c.mr W) (fun x w' hx => by obtain ⟨rfl, hg⟩ := hx; exact ⟨_, rfl, hK _ w' ⟨hB.1.grow hg, hB.2.trans hg⟩ rfl (fun _ _ h => FW.gr HGR hg h)⟩))
  ·intro L ys W hB hF hP K hK
   show OpE _ _ _ W K
   exact OpE.val (pv g_1 13) W (by kernel_rfl) (hK _ W hB rfl (fun _ _ h => h))
  ·intro L ys W hB hF hP K hK
   show OpE _ _ _ W K
   exact OpE.known (j := 3) (v := pv g_1 13) (hF 3 (hP.1 rfl)) (OpE.load (g := g_1) (off := 13) (v := .agg (qStC_2 c)) rfl (by kernel_rfl) (hB.1.all 0 g_1 _ rfl) (by kernel_rfl) (hK _ W hB rfl (fun _ _ h => h)))
 ·intro ys_10 w_7 hs_8 hF_9
  have hs_8 : Bk w w_7 [(g_1, .cells (cvA c) 45 (0, 0)), (g_4, .cells czA 45 (0, 0))] := hs_8.1
  refine SL.knownY (j := 2) (v := .agg (qStC_3 c)) (show ys_10 2 = .agg (qStC_3 c) from hF_9 2 (by decide)) (SL.knownY (j := 4) (v := .agg (qStC_2 c)) (show ys_10 4 = .agg (qStC_2 c) from hF_9 4 (by decide)) (?_))
  clear hF_9 HGR
  refine SL.call (f := 57) (args := #[.agg (qStC_2 c)]) (w1 := w_7) rfl rfl (by kernel_rfl) (finner_any c.pt c.pl c.pb c.pr c.mt c.ml c.mb c.mr w_7) ?_
  rintro x w_11 ⟨rfl, hc_12⟩
  refine ⟨_, rfl, ?_⟩
  have hs_13 := hs_8.grow hc_12
  refine SL.v (.agg #[iv ((wholeZ c.pb c.pr).1), iv ((wholeZ c.pb c.pr).2.1), iv ((wholeZ c.pb c.pr).2.2.1), iv ((wholeZ c.pb c.pr).2.2.2), iv ((qStC_1 c).1), iv ((qStC_1 c).2.1), iv ((qStC_1 c).2.2.1), iv ((qStC_1 c).2.2.2)]) ?_
  refine SL.v (pv g_1 13) ?_
  refine SL.store (i := 0) (g := g_1) (off := 13) (v := .agg #[iv ((wholeZ c.pb c.pr).1), iv ((wholeZ c.pb c.pr).2.1), iv ((wholeZ c.pb c.pr).2.2.1), iv ((wholeZ c.pb c.pr).2.2.2), iv ((qStC_1 c).1), iv ((qStC_1 c).2.1), iv ((qStC_1 c).2.2.1), iv ((qStC_1 c).2.2.2)]) (L' := [(g_1, .cells #[iv c.row, iv c.col, .int .u8 c.rend, .bool c.kept, .bool c.wrap, .bool c.origin, iv c.g0, iv c.g1, iv c.g2, iv c.g3, iv c.gl, iv c.gr, iv c.sg, iv ((wholeZ c.pb c.pr).1), iv ((wholeZ c.pb c.pr).2.1), iv ((wholeZ c.pb c.pr).2.2.1), iv ((wholeZ c.pb c.pr).2.2.2), iv ((qStC_1 c).1), iv ((qStC_1 c).2.1), iv ((qStC_1 c).2.2.1), iv ((qStC_1 c).2.2.2), .int .u32 c.modes, iv c.level, .bool c.eight, .bool c.stream, iv c.status, .bool c.below, iv c.page, iv c.pages] 45 (0, 0)), (g_4, .cells czA 45 (0, 0))]) hs_13 rfl rfl rfl (by kernel_rfl) (by kernel_rfl) rfl (by kernel_rfl) (by kernel_rfl) rfl (by kernel_rfl) rfl (fun w_14 hs_15 => ?_)
  refine SL.nil ?_
  refine CW.seq ?_
  refine CW.region ?_
  refine SL.v (pv g_1 13) ?_
  refine SL.v (pv g_1 13) ?_
  refine SL.load (g := g_1) (off := 13) (v := .agg (qStC_3 c)) rfl rfl rfl (by kernel_rfl) (hs_15.all 0 g_1 _ rfl) (by kernel_rfl) ?_
  refine SL.v (pv g_1 0) ?_
  refine SL.v (pv g_1 0) ?_
  refine SL.load (g := g_1) (off := 0) (v := .agg #[iv c.row, iv c.col]) rfl rfl rfl (by kernel_rfl) (hs_15.all 0 g_1 _ rfl) (by kernel_rfl) ?_
  refine SL.call (f := 58) (args := #[.agg (qStC_3 c), .agg #[iv c.row, iv c.col]]) (w1 := w_14) rfl rfl (by kernel_rfl) (clamp_any ((wholeZ c.pb c.pr).1) ((wholeZ c.pb c.pr).2.1) ((wholeZ c.pb c.pr).2.2.1) ((wholeZ c.pb c.pr).2.2.2) c.row c.col w_14 hwh) ?_
  rintro x w_16 ⟨rfl, hc_17⟩
  refine ⟨_, rfl, ?_⟩
  have hs_18 := hs_15.grow hc_17
  refine SL.v (pv g_1 0) ?_
  refine SL.v (pv g_1 0) ?_
  refine SL.store (i := 0) (g := g_1) (off := 0) (v := .agg #[iv ((qStC_0 c).1), iv ((qStC_0 c).2)]) (L' := [(g_1, .cells #[iv ((qStC_0 c).1), iv ((qStC_0 c).2), .int .u8 c.rend, .bool c.kept, .bool c.wrap, .bool c.origin, iv c.g0, iv c.g1, iv c.g2, iv c.g3, iv c.gl, iv c.gr, iv c.sg, iv ((wholeZ c.pb c.pr).1), iv ((wholeZ c.pb c.pr).2.1), iv ((wholeZ c.pb c.pr).2.2.1), iv ((wholeZ c.pb c.pr).2.2.2), iv ((qStC_1 c).1), iv ((qStC_1 c).2.1), iv ((qStC_1 c).2.2.1), iv ((qStC_1 c).2.2.2), .int .u32 c.modes, iv c.level, .bool c.eight, .bool c.stream, iv c.status, .bool c.below, iv c.page, iv c.pages] 45 (0, 0)), (g_4, .cells czA 45 (0, 0))]) hs_18 rfl rfl rfl (by kernel_rfl) (by kernel_rfl) rfl (by kernel_rfl) (by kernel_rfl) rfl (by kernel_rfl) rfl (fun w_19 hs_20 => ?_)
  refine SL.nil ?_
  refine CW.seq ?_
  refine CW.region ?_
  refine SL.v (pv g_1 0) ?_
  refine SL.v (pv g_1 2) ?_
  refine SL.load (g := g_1) (off := 2) (v := .int .u8 c.rend) rfl rfl rfl (by kernel_rfl) (hs_20.all 0 g_1 _ rfl) (by kernel_rfl) ?_
  refine SL.new (mk := fun g => sv g 0 1 1) (C := #[iv (-1)]) (T := 3) hs_20 rfl rfl (by kernel_rfl) (fun g_21 w_22 hs_23 => ?_)
  have hs_23 : Bk w w_22 [(g_1, .cells #[iv ((qStC_0 c).1), iv ((qStC_0 c).2), .int .u8 c.rend, .bool c.kept, .bool c.wrap, .bool c.origin, iv c.g0, iv c.g1, iv c.g2, iv c.g3, iv c.gl, iv c.gr, iv c.sg, iv ((wholeZ c.pb c.pr).1), iv ((wholeZ c.pb c.pr).2.1), iv ((wholeZ c.pb c.pr).2.2.1), iv ((wholeZ c.pb c.pr).2.2.2), iv ((qStC_1 c).1), iv ((qStC_1 c).2.1), iv ((qStC_1 c).2.2.1), iv ((qStC_1 c).2.2.2), .int .u32 c.modes, iv c.level, .bool c.eight, .bool c.stream, iv c.status, .bool c.below, iv c.page, iv c.pages] 45 (0, 0)), (g_4, .cells czA 45 (0, 0)), (g_21, .cells #[iv (-1)] 3 (0, 0))] := hs_23
  refine SL.call (f := 59) (args := #[.int .u8 c.rend, sv g_21 0 1 1]) (w1 := w_22) rfl rfl (by kernel_rfl) ((apply32 c.rend _ w_22 (hs_23.all 2 g_21 _ rfl) hrend)) ?_
  rintro x w_24 ⟨rfl, hc_25⟩
  refine ⟨_, rfl, ?_⟩
  have hs_26 := hs_23.grow hc_25
  refine SL.v (pv g_1 0) ?_
  refine SL.v (pv g_1 2) ?_
  refine SL.store (i := 0) (g := g_1) (off := 2) (v := .int .u8 (c.rend % 32)) (L' := [(g_1, .cells #[iv ((qStC_0 c).1), iv ((qStC_0 c).2), .int .u8 (c.rend % 32), .bool c.kept, .bool c.wrap, .bool c.origin, iv c.g0, iv c.g1, iv c.g2, iv c.g3, iv c.gl, iv c.gr, iv c.sg, iv ((wholeZ c.pb c.pr).1), iv ((wholeZ c.pb c.pr).2.1), iv ((wholeZ c.pb c.pr).2.2.1), iv ((wholeZ c.pb c.pr).2.2.2), iv ((qStC_1 c).1), iv ((qStC_1 c).2.1), iv ((qStC_1 c).2.2.1), iv ((qStC_1 c).2.2.2), .int .u32 c.modes, iv c.level, .bool c.eight, .bool c.stream, iv c.status, .bool c.below, iv c.page, iv c.pages] 45 (0, 0)), (g_4, .cells czA 45 (0, 0)), (g_21, .cells #[iv (-1)] 3 (0, 0))]) hs_26 rfl rfl rfl (by kernel_rfl) (by kernel_rfl) rfl (by kernel_rfl) (by kernel_rfl) rfl (by kernel_rfl) rfl (fun w_27 hs_28 => ?_)
  refine SL.nil ?_
  refine CW.seq ?_
  refine CW.region ?_
  refine SL.v (pv g_1 0) ?_
  refine SL.v (pv g_1 6) ?_
  refine SL.v (pv g_1 6) ?_
  refine SL.nil ?_
  refine CW.seq ?_
  refine CW.region ?_
  refine SL.v (pv g_1 6) ?_
  refine SL.v (pv g_1 6) ?_
  refine SL.v (pv g_1 6) ?_
  refine SL.v (pv g_1 6) ?_
  refine SL.load (g := g_1) (off := 6) (v := .agg #[iv c.g0, iv c.g1, iv c.g2, iv c.g3, iv c.gl, iv c.gr, iv c.sg]) rfl rfl rfl (by kernel_rfl) (hs_28.all 0 g_1 _ rfl) (by kernel_rfl) ?_
  refine SL.call (f := 21) (args := #[.agg #[iv c.g0, iv c.g1, iv c.g2, iv c.g3, iv c.gl, iv c.gr, iv c.sg]]) (w1 := w_27) rfl rfl (by kernel_rfl) (report_any c.g0 c.g1 c.g2 c.g3 c.gl c.gr c.sg w_27) ?_
  rintro x w_29 ⟨rfl, hc_30⟩
  refine ⟨_, rfl, ?_⟩
  have hs_31 := hs_28.grow hc_30
  refine SL.v (.tuple #[iv (uL c.gl), iv (uR c.gr), .int .u8 (repSize (gNo c.g0 c.g1 c.g2 c.g3) 4), .string ⟨(repIds (gNo c.g0 c.g1 c.g2 c.g3) 4).toArray⟩]) ?_
  refine SL.v (iv (uL c.gl)) ?_
  refine SL.v (iv (uR c.gr)) ?_
  refine SL.v (.int .u8 (repSize (gNo c.g0 c.g1 c.g2 c.g3) 4)) ?_
  refine SL.v (.string ⟨(repIds (gNo c.g0 c.g1 c.g2 c.g3) 4).toArray⟩) ?_
  refine SL.v (pv g_1 6) ?_
  refine SL.v (pv g_1 10) ?_
  refine SL.store (i := 0) (g := g_1) (off := 10) (v := iv (uL c.gl)) (L' := [(g_1, .cells #[iv ((qStC_0 c).1), iv ((qStC_0 c).2), .int .u8 (c.rend % 32), .bool c.kept, .bool c.wrap, .bool c.origin, iv c.g0, iv c.g1, iv c.g2, iv c.g3, iv (uL c.gl), iv c.gr, iv c.sg, iv ((wholeZ c.pb c.pr).1), iv ((wholeZ c.pb c.pr).2.1), iv ((wholeZ c.pb c.pr).2.2.1), iv ((wholeZ c.pb c.pr).2.2.2), iv ((qStC_1 c).1), iv ((qStC_1 c).2.1), iv ((qStC_1 c).2.2.1), iv ((qStC_1 c).2.2.2), .int .u32 c.modes, iv c.level, .bool c.eight, .bool c.stream, iv c.status, .bool c.below, iv c.page, iv c.pages] 45 (0, 0)), (g_4, .cells czA 45 (0, 0)), (g_21, .cells #[iv (-1)] 3 (0, 0))]) hs_31 rfl rfl rfl (by kernel_rfl) (by kernel_rfl) rfl (by kernel_rfl) (by kernel_rfl) rfl (by kernel_rfl) rfl (fun w_32 hs_33 => ?_)
  refine SL.v (pv g_1 6) ?_
  refine SL.v (pv g_1 11) ?_
  refine SL.store (i := 0) (g := g_1) (off := 11) (v := iv (uR c.gr)) (L' := [(g_1, .cells #[iv ((qStC_0 c).1), iv ((qStC_0 c).2), .int .u8 (c.rend % 32), .bool c.kept, .bool c.wrap, .bool c.origin, iv c.g0, iv c.g1, iv c.g2, iv c.g3, iv (uL c.gl), iv (uR c.gr), iv c.sg, iv ((wholeZ c.pb c.pr).1), iv ((wholeZ c.pb c.pr).2.1), iv ((wholeZ c.pb c.pr).2.2.1), iv ((wholeZ c.pb c.pr).2.2.2), iv ((qStC_1 c).1), iv ((qStC_1 c).2.1), iv ((qStC_1 c).2.2.1), iv ((qStC_1 c).2.2.2), .int .u32 c.modes, iv c.level, .bool c.eight, .bool c.stream, iv c.status, .bool c.below, iv c.page, iv c.pages] 45 (0, 0)), (g_4, .cells czA 45 (0, 0)), (g_21, .cells #[iv (-1)] 3 (0, 0))]) hs_33 rfl rfl rfl (by kernel_rfl) (by kernel_rfl) rfl (by kernel_rfl) (by kernel_rfl) rfl (by kernel_rfl) rfl (fun w_34 hs_35 => ?_)
  refine SL.nil ?_
  refine CW.seq ?_
  refine CW.seq ?_
  refine CW.region ?_
  refine SL.v (pv g_1 6) ?_
  refine SL.v (pv g_1 6) ?_
  refine SL.v (pv g_1 12) ?_
  refine SL.load (g := g_1) (off := 12) (v := iv c.sg) rfl rfl rfl (by kernel_rfl) (hs_35.all 0 g_1 _ rfl) (by kernel_rfl) ?_
  refine SL.v (.bool (!(c.sg == 3))) ?_
  refine SL.v (.bool (!(c.sg == 3))) ?_
  rcases Bool.eq_false_or_eq_true (c.sg == 3) with hb_36 | hb_36
  ·try rw [hb_36]
   refine SL.no false ?_
   refine SL.no false ?_
   refine SL.no false ?_
   refine SL.no false ?_
   refine SL.no false ?_
   refine SL.v (.bool false) ?_
   refine SL.nil ?_
   refine CW.cond_false (by kernel_rfl) ?_
   refine CW.skip ?_
   refine CW.seq ?_
   refine CW.region ?_
   refine SL.v (pv g_1 21) ?_
   refine SL.load (g := g_1) (off := 21) (v := .int .u32 c.modes) rfl rfl rfl (by kernel_rfl) (hs_35.all 0 g_1 _ rfl) (by kernel_rfl) ?_
   refine SL.call (f := 60) (args := #[.int .u32 c.modes]) (w1 := w_34) rfl rfl (by kernel_rfl) ((clear17 c.modes w_34 hmodes)) ?_
   rintro x w_37 ⟨rfl, hc_38⟩
   refine ⟨_, rfl, ?_⟩
   have hs_39 := hs_35.grow hc_38
   refine SL.v (pv g_1 21) ?_
   refine SL.store (i := 0) (g := g_1) (off := 21) (v := .int .u32 (c.modes % 131072)) (L' := [(g_1, .cells #[iv ((qStC_0 c).1), iv ((qStC_0 c).2), .int .u8 (c.rend % 32), .bool c.kept, .bool c.wrap, .bool c.origin, iv c.g0, iv c.g1, iv c.g2, iv c.g3, iv (uL c.gl), iv (uR c.gr), iv c.sg, iv ((wholeZ c.pb c.pr).1), iv ((wholeZ c.pb c.pr).2.1), iv ((wholeZ c.pb c.pr).2.2.1), iv ((wholeZ c.pb c.pr).2.2.2), iv ((qStC_1 c).1), iv ((qStC_1 c).2.1), iv ((qStC_1 c).2.2.1), iv ((qStC_1 c).2.2.2), .int .u32 (c.modes % 131072), iv c.level, .bool c.eight, .bool c.stream, iv c.status, .bool c.below, iv c.page, iv c.pages] 45 (0, 0)), (g_4, .cells czA 45 (0, 0)), (g_21, .cells #[iv (-1)] 3 (0, 0))]) hs_39 rfl rfl rfl (by kernel_rfl) (by kernel_rfl) rfl (by kernel_rfl) (by kernel_rfl) rfl (by kernel_rfl) rfl (fun w_40 hs_41 => ?_)
   refine SL.nil ?_
   refine CW.seq ?_
   have HGR : GrL [fun v _ => v = pv g_1 22, fun v _ => v = iv c.level, fun v _ => v = iv (clipZ c.level 1 5), fun v _ => v = pv g_1 25, fun v _ => v = iv c.status] := ⟨fun _ _ _ _ h => h, ⟨fun _ _ _ _ h => h, ⟨fun _ _ _ _ h => h, ⟨fun _ _ _ _ h => h, ⟨fun _ _ _ _ h => h, trivial⟩⟩⟩⟩⟩
   refine CW.draw 5 (FW [fun v _ => v = pv g_1 22, fun v _ => v = iv c.level, fun v _ => v = iv (clipZ c.level 1 5), fun v _ => v = pv g_1 25, fun v _ => v = iv c.status]) (fun W => Bk w W [(g_1, .cells #[iv ((qStC_0 c).1), iv ((qStC_0 c).2), .int .u8 (c.rend % 32), .bool c.kept, .bool c.wrap, .bool c.origin, iv c.g0, iv c.g1, iv c.g2, iv c.g3, iv (uL c.gl), iv (uR c.gr), iv c.sg, iv ((wholeZ c.pb c.pr).1), iv ((wholeZ c.pb c.pr).2.1), iv ((wholeZ c.pb c.pr).2.2.1), iv ((wholeZ c.pb c.pr).2.2.2), iv ((qStC_1 c).1), iv ((qStC_1 c).2.1), iv ((qStC_1 c).2.2.1), iv ((qStC_1 c).2.2.2), .int .u32 (c.modes % 131072), iv c.level, .bool c.eight, .bool c.stream, iv c.status, .bool c.below, iv c.page, iv c.pages] 45 (0, 0)), (g_4, .cells czA 45 (0, 0)), (g_21, .cells #[iv (-1)] 3 (0, 0))] ∧ Gr w_40 W) (by kernel_rfl) (by kernel_rfl) (by kernel_rfl) (by kernel_rfl) (by kernel_rfl) ⟨hs_41.drew, (Gr.refl _).drew⟩ ?_ ?_
   ·refine ⟨?_, ⟨?_, ⟨?_, ⟨?_, ⟨?_, trivial⟩⟩⟩⟩⟩
    ·intro L ys W hB hF hP K hK
     show OpE _ _ _ W K
     exact OpE.val (pv g_1 22) W (by kernel_rfl) (hK _ W hB rfl (fun _ _ h => h))
    ·intro L ys W hB hF hP K hK
     show OpE _ _ _ W K
     exact OpE.known (j := 0) (v := pv g_1 22) (hF 0 (hP.1 rfl)) (OpE.load (g := g_1) (off := 22) (v := iv c.level) rfl (by kernel_rfl) (hB.1.all 0 g_1 _ rfl) (by kernel_rfl) (hK _ W hB rfl (fun _ _ h => h)))
    ·intro L ys W hB hF hP K hK
     show OpE _ _ _ W K
     exact OpE.known (j := 1) (v := iv c.level) (hF 1 (hP.1 rfl)) (OpE.call 61 #[iv c.level, iv 1, iv 5] W _ (by kernel_rfl) (clipz_any c.level 1 5 W) (fun x w' hx => by obtain ⟨rfl, hg⟩ := hx; exact ⟨_, rfl, hK _ w' ⟨hB.1.grow hg, hB.2.trans hg⟩ rfl (fun _ _ h => FW.gr HGR hg h)⟩))
    ·intro L ys W hB hF hP K hK
     show OpE _ _ _ W K
     exact OpE.val (pv g_1 25) W (by kernel_rfl) (hK _ W hB rfl (fun _ _ h => h))
    ·intro L ys W hB hF hP K hK
     show OpE _ _ _ W K
     exact OpE.known (j := 3) (v := pv g_1 25) (hF 3 (hP.1 rfl)) (OpE.load (g := g_1) (off := 25) (v := iv c.status) rfl (by kernel_rfl) (hB.1.all 0 g_1 _ rfl) (by kernel_rfl) (hK _ W hB rfl (fun _ _ h => h)))
   ·intro ys_45 w_42 hs_43 hF_44
    have hs_43 : Bk w w_42 [(g_1, .cells #[iv ((qStC_0 c).1), iv ((qStC_0 c).2), .int .u8 (c.rend % 32), .bool c.kept, .bool c.wrap, .bool c.origin, iv c.g0, iv c.g1, iv c.g2, iv c.g3, iv (uL c.gl), iv (uR c.gr), iv c.sg, iv ((wholeZ c.pb c.pr).1), iv ((wholeZ c.pb c.pr).2.1), iv ((wholeZ c.pb c.pr).2.2.1), iv ((wholeZ c.pb c.pr).2.2.2), iv ((qStC_1 c).1), iv ((qStC_1 c).2.1), iv ((qStC_1 c).2.2.1), iv ((qStC_1 c).2.2.2), .int .u32 (c.modes % 131072), iv c.level, .bool c.eight, .bool c.stream, iv c.status, .bool c.below, iv c.page, iv c.pages] 45 (0, 0)), (g_4, .cells czA 45 (0, 0)), (g_21, .cells #[iv (-1)] 3 (0, 0))] := hs_43.1
    refine SL.knownY (j := 2) (v := iv (clipZ c.level 1 5)) (show ys_45 2 = iv (clipZ c.level 1 5) from hF_44 2 (by decide)) (SL.knownY (j := 4) (v := iv c.status) (show ys_45 4 = iv c.status from hF_44 4 (by decide)) (?_))
    clear hF_44 HGR
    refine SL.call (f := 61) (args := #[iv c.status, iv 0, iv 2]) (w1 := w_42) rfl rfl (by kernel_rfl) (clipz_any c.status 0 2 w_42) ?_
    rintro x w_46 ⟨rfl, hc_47⟩
    refine ⟨_, rfl, ?_⟩
    have hs_48 := hs_43.grow hc_47
    refine SL.v (pv g_1 22) ?_
    refine SL.store (i := 0) (g := g_1) (off := 22) (v := iv (clipZ c.level 1 5)) (L' := [(g_1, .cells #[iv ((qStC_0 c).1), iv ((qStC_0 c).2), .int .u8 (c.rend % 32), .bool c.kept, .bool c.wrap, .bool c.origin, iv c.g0, iv c.g1, iv c.g2, iv c.g3, iv (uL c.gl), iv (uR c.gr), iv c.sg, iv ((wholeZ c.pb c.pr).1), iv ((wholeZ c.pb c.pr).2.1), iv ((wholeZ c.pb c.pr).2.2.1), iv ((wholeZ c.pb c.pr).2.2.2), iv ((qStC_1 c).1), iv ((qStC_1 c).2.1), iv ((qStC_1 c).2.2.1), iv ((qStC_1 c).2.2.2), .int .u32 (c.modes % 131072), iv (clipZ c.level 1 5), .bool c.eight, .bool c.stream, iv c.status, .bool c.below, iv c.page, iv c.pages] 45 (0, 0)), (g_4, .cells czA 45 (0, 0)), (g_21, .cells #[iv (-1)] 3 (0, 0))]) hs_48 rfl rfl rfl (by kernel_rfl) (by kernel_rfl) rfl (by kernel_rfl) (by kernel_rfl) rfl (by kernel_rfl) rfl (fun w_49 hs_50 => ?_)
    refine SL.v (pv g_1 25) ?_
    refine SL.store (i := 0) (g := g_1) (off := 25) (v := iv (clipZ c.status 0 2)) (L' := [(g_1, .cells #[iv ((qStC_0 c).1), iv ((qStC_0 c).2), .int .u8 (c.rend % 32), .bool c.kept, .bool c.wrap, .bool c.origin, iv c.g0, iv c.g1, iv c.g2, iv c.g3, iv (uL c.gl), iv (uR c.gr), iv c.sg, iv ((wholeZ c.pb c.pr).1), iv ((wholeZ c.pb c.pr).2.1), iv ((wholeZ c.pb c.pr).2.2.1), iv ((wholeZ c.pb c.pr).2.2.2), iv ((qStC_1 c).1), iv ((qStC_1 c).2.1), iv ((qStC_1 c).2.2.1), iv ((qStC_1 c).2.2.2), .int .u32 (c.modes % 131072), iv (clipZ c.level 1 5), .bool c.eight, .bool c.stream, iv (clipZ c.status 0 2), .bool c.below, iv c.page, iv c.pages] 45 (0, 0)), (g_4, .cells czA 45 (0, 0)), (g_21, .cells #[iv (-1)] 3 (0, 0))]) hs_50 rfl rfl rfl (by kernel_rfl) (by kernel_rfl) rfl (by kernel_rfl) (by kernel_rfl) rfl (by kernel_rfl) rfl (fun w_51 hs_52 => ?_)
    refine SL.nil ?_
    refine CW.seq ?_
    refine CW.region ?_
    refine SL.v (pv g_1 28) ?_
    refine SL.load (g := g_1) (off := 28) (v := iv c.pages) rfl rfl rfl (by kernel_rfl) (hs_52.all 0 g_1 _ rfl) (by kernel_rfl) ?_
    refine SL.call (f := 61) (args := #[iv c.pages, iv 1, iv 16]) (w1 := w_51) rfl rfl (by kernel_rfl) (clipz_any c.pages 1 16 w_51) ?_
    rintro x w_53 ⟨rfl, hc_54⟩
    refine ⟨_, rfl, ?_⟩
    have hs_55 := hs_52.grow hc_54
    refine SL.v (pv g_1 28) ?_
    refine SL.store (i := 0) (g := g_1) (off := 28) (v := iv (clipZ c.pages 1 16)) (L' := [(g_1, .cells #[iv ((qStC_0 c).1), iv ((qStC_0 c).2), .int .u8 (c.rend % 32), .bool c.kept, .bool c.wrap, .bool c.origin, iv c.g0, iv c.g1, iv c.g2, iv c.g3, iv (uL c.gl), iv (uR c.gr), iv c.sg, iv ((wholeZ c.pb c.pr).1), iv ((wholeZ c.pb c.pr).2.1), iv ((wholeZ c.pb c.pr).2.2.1), iv ((wholeZ c.pb c.pr).2.2.2), iv ((qStC_1 c).1), iv ((qStC_1 c).2.1), iv ((qStC_1 c).2.2.1), iv ((qStC_1 c).2.2.2), .int .u32 (c.modes % 131072), iv (clipZ c.level 1 5), .bool c.eight, .bool c.stream, iv (clipZ c.status 0 2), .bool c.below, iv c.page, iv (clipZ c.pages 1 16)] 45 (0, 0)), (g_4, .cells czA 45 (0, 0)), (g_21, .cells #[iv (-1)] 3 (0, 0))]) hs_55 rfl rfl rfl (by kernel_rfl) (by kernel_rfl) rfl (by kernel_rfl) (by kernel_rfl) rfl (by kernel_rfl) rfl (fun w_56 hs_57 => ?_)
    refine SL.nil ?_
    refine CW.seq ?_
    refine CW.region ?_
    refine SL.v (pv g_1 27) ?_
    refine SL.load (g := g_1) (off := 27) (v := iv c.page) rfl rfl rfl (by kernel_rfl) (hs_57.all 0 g_1 _ rfl) (by kernel_rfl) ?_
    refine SL.v (pv g_1 28) ?_
    refine SL.load (g := g_1) (off := 28) (v := iv (clipZ c.pages 1 16)) rfl rfl rfl (by kernel_rfl) (hs_57.all 0 g_1 _ rfl) (by kernel_rfl) ?_
    refine SL.val (v := iv ((clipZ c.pages 1 16) - 1)) (w' := w_56) rfl rfl (by have hw : IntKind.i64.wrap ((clipZ c.pages 1 16) - 1) = (clipZ c.pages 1 16) - 1 := IntWalk.i64_in _ (by omega); exact run_eqv (by kernel_rfl) (congrArg (fun z => Value.int .i64 z) hw)) ?_
    refine SL.call (f := 61) (args := #[iv c.page, iv 0, iv ((clipZ c.pages 1 16) - 1)]) (w1 := w_56) rfl rfl (by kernel_rfl) (clipz_any c.page 0 ((clipZ c.pages 1 16) - 1) w_56) ?_
    rintro x w_58 ⟨rfl, hc_59⟩
    refine ⟨_, rfl, ?_⟩
    have hs_60 := hs_57.grow hc_59
    refine SL.v (pv g_1 27) ?_
    refine SL.store (i := 0) (g := g_1) (off := 27) (v := iv (clipZ c.page 0 ((clipZ c.pages 1 16) - 1))) (L' := [(g_1, .cells #[iv ((qStC_0 c).1), iv ((qStC_0 c).2), .int .u8 (c.rend % 32), .bool c.kept, .bool c.wrap, .bool c.origin, iv c.g0, iv c.g1, iv c.g2, iv c.g3, iv (uL c.gl), iv (uR c.gr), iv c.sg, iv ((wholeZ c.pb c.pr).1), iv ((wholeZ c.pb c.pr).2.1), iv ((wholeZ c.pb c.pr).2.2.1), iv ((wholeZ c.pb c.pr).2.2.2), iv ((qStC_1 c).1), iv ((qStC_1 c).2.1), iv ((qStC_1 c).2.2.1), iv ((qStC_1 c).2.2.2), .int .u32 (c.modes % 131072), iv (clipZ c.level 1 5), .bool c.eight, .bool c.stream, iv (clipZ c.status 0 2), .bool c.below, iv (clipZ c.page 0 ((clipZ c.pages 1 16) - 1)), iv (clipZ c.pages 1 16)] 45 (0, 0)), (g_4, .cells czA 45 (0, 0)), (g_21, .cells #[iv (-1)] 3 (0, 0))]) hs_60 rfl rfl rfl (by kernel_rfl) (by kernel_rfl) rfl (by kernel_rfl) (by kernel_rfl) rfl (by kernel_rfl) rfl (fun w_61 hs_62 => ?_)
    refine SL.nil ?_
    refine CW.seq ?_
    refine CW.region ?_
    refine SL.load (g := g_1) (off := 0) (v := .agg #[iv ((qStC_0 c).1), iv ((qStC_0 c).2), .int .u8 (c.rend % 32), .bool c.kept, .bool c.wrap, .bool c.origin, iv c.g0, iv c.g1, iv c.g2, iv c.g3, iv (uL c.gl), iv (uR c.gr), iv c.sg, iv ((wholeZ c.pb c.pr).1), iv ((wholeZ c.pb c.pr).2.1), iv ((wholeZ c.pb c.pr).2.2.1), iv ((wholeZ c.pb c.pr).2.2.2), iv ((qStC_1 c).1), iv ((qStC_1 c).2.1), iv ((qStC_1 c).2.2.1), iv ((qStC_1 c).2.2.2), .int .u32 (c.modes % 131072), iv (clipZ c.level 1 5), .bool c.eight, .bool c.stream, iv (clipZ c.status 0 2), .bool c.below, iv (clipZ c.page 0 ((clipZ c.pages 1 16) - 1)), iv (clipZ c.pages 1 16)]) rfl rfl rfl (by kernel_rfl) (hs_62.all 0 g_1 _ rfl) (by kernel_rfl) ?_
    refine SL.store (i := 1) (g := g_4) (off := 0) (v := .agg #[iv ((qStC_0 c).1), iv ((qStC_0 c).2), .int .u8 (c.rend % 32), .bool c.kept, .bool c.wrap, .bool c.origin, iv c.g0, iv c.g1, iv c.g2, iv c.g3, iv (uL c.gl), iv (uR c.gr), iv c.sg, iv ((wholeZ c.pb c.pr).1), iv ((wholeZ c.pb c.pr).2.1), iv ((wholeZ c.pb c.pr).2.2.1), iv ((wholeZ c.pb c.pr).2.2.2), iv ((qStC_1 c).1), iv ((qStC_1 c).2.1), iv ((qStC_1 c).2.2.1), iv ((qStC_1 c).2.2.2), .int .u32 (c.modes % 131072), iv (clipZ c.level 1 5), .bool c.eight, .bool c.stream, iv (clipZ c.status 0 2), .bool c.below, iv (clipZ c.page 0 ((clipZ c.pages 1 16) - 1)), iv (clipZ c.pages 1 16)]) (L' := [(g_1, .cells #[iv ((qStC_0 c).1), iv ((qStC_0 c).2), .int .u8 (c.rend % 32), .bool c.kept, .bool c.wrap, .bool c.origin, iv c.g0, iv c.g1, iv c.g2, iv c.g3, iv (uL c.gl), iv (uR c.gr), iv c.sg, iv ((wholeZ c.pb c.pr).1), iv ((wholeZ c.pb c.pr).2.1), iv ((wholeZ c.pb c.pr).2.2.1), iv ((wholeZ c.pb c.pr).2.2.2), iv ((qStC_1 c).1), iv ((qStC_1 c).2.1), iv ((qStC_1 c).2.2.1), iv ((qStC_1 c).2.2.2), .int .u32 (c.modes % 131072), iv (clipZ c.level 1 5), .bool c.eight, .bool c.stream, iv (clipZ c.status 0 2), .bool c.below, iv (clipZ c.page 0 ((clipZ c.pages 1 16) - 1)), iv (clipZ c.pages 1 16)] 45 (0, 0)), (g_4, .cells #[iv ((qStC_0 c).1), iv ((qStC_0 c).2), .int .u8 (c.rend % 32), .bool c.kept, .bool c.wrap, .bool c.origin, iv c.g0, iv c.g1, iv c.g2, iv c.g3, iv (uL c.gl), iv (uR c.gr), iv c.sg, iv ((wholeZ c.pb c.pr).1), iv ((wholeZ c.pb c.pr).2.1), iv ((wholeZ c.pb c.pr).2.2.1), iv ((wholeZ c.pb c.pr).2.2.2), iv ((qStC_1 c).1), iv ((qStC_1 c).2.1), iv ((qStC_1 c).2.2.1), iv ((qStC_1 c).2.2.2), .int .u32 (c.modes % 131072), iv (clipZ c.level 1 5), .bool c.eight, .bool c.stream, iv (clipZ c.status 0 2), .bool c.below, iv (clipZ c.page 0 ((clipZ c.pages 1 16) - 1)), iv (clipZ c.pages 1 16)] 45 (0, 0)), (g_21, .cells #[iv (-1)] 3 (0, 0))]) hs_62 rfl rfl rfl (by kernel_rfl) (by kernel_rfl) rfl (by kernel_rfl) (by kernel_rfl) rfl (by kernel_rfl) rfl (fun w_63 hs_64 => ?_)
    refine SL.nil ?_
    refine CW.ret ?_
    repeat with_reducible first | refine PThen.ret ?_ | refine PBlock.ret ?_
    refine PRet.cell (t := 2) (ty := 45) (g := g_4) (v := .agg #[iv ((qStC_0 c).1), iv ((qStC_0 c).2), .int .u8 (c.rend % 32), .bool c.kept, .bool c.wrap, .bool c.origin, iv c.g0, iv c.g1, iv c.g2, iv c.g3, iv (uL c.gl), iv (uR c.gr), iv c.sg, iv ((wholeZ c.pb c.pr).1), iv ((wholeZ c.pb c.pr).2.1), iv ((wholeZ c.pb c.pr).2.2.1), iv ((wholeZ c.pb c.pr).2.2.2), iv ((qStC_1 c).1), iv ((qStC_1 c).2.1), iv ((qStC_1 c).2.2.1), iv ((qStC_1 c).2.2.2), .int .u32 (c.modes % 131072), iv (clipZ c.level 1 5), .bool c.eight, .bool c.stream, iv (clipZ c.status 0 2), .bool c.below, iv (clipZ c.page 0 ((clipZ c.pages 1 16) - 1)), iv (clipZ c.pages 1 16)]) rfl rfl (by kernel_rfl) (hs_64.all 1 g_4 _ rfl) (by kernel_rfl) ?_
    exact ⟨by simp only [Cor.v, Cor.clean, hb_36, Bool.or_true, Bool.or_false]; rfl, hs_64.gr⟩
  ·try rw [hb_36]
   refine SL.go ?_
   refine SL.v (pv g_1 6) ?_
   refine SL.go ?_
   refine SL.v (pv g_1 6) ?_
   refine SL.go ?_
   refine SL.v (pv g_1 12) ?_
   refine SL.go ?_
   refine SL.load (g := g_1) (off := 12) (v := iv c.sg) rfl rfl rfl (by kernel_rfl) (hs_35.all 0 g_1 _ rfl) (by kernel_rfl) ?_
   refine SL.go ?_
   refine SL.v (.bool (!(c.sg == 2))) ?_
   refine SL.v (.bool (!(c.sg == 2))) ?_
   refine SL.nil ?_
   refine CW.mid (fun e9 w9 => Bk w w9 [(g_1, .cells #[iv ((qStC_0 c).1), iv ((qStC_0 c).2), .int .u8 (c.rend % 32), .bool c.kept, .bool c.wrap, .bool c.origin, iv c.g0, iv c.g1, iv c.g2, iv c.g3, iv (uL c.gl), iv (uR c.gr), iv (bif (c.sg == 2) then c.sg else 0), iv ((wholeZ c.pb c.pr).1), iv ((wholeZ c.pb c.pr).2.1), iv ((wholeZ c.pb c.pr).2.2.1), iv ((wholeZ c.pb c.pr).2.2.2), iv ((qStC_1 c).1), iv ((qStC_1 c).2.1), iv ((qStC_1 c).2.2.1), iv ((qStC_1 c).2.2.2), .int .u32 c.modes, iv c.level, .bool c.eight, .bool c.stream, iv c.status, .bool c.below, iv c.page, iv c.pages] 45 (0, 0)), (g_4, .cells czA 45 (0, 0)), (g_21, .cells #[iv (-1)] 3 (0, 0))] ∧ e9 1 = pv g_1 0 ∧ e9 2 = pv g_4 0) ?_ ?_
   ·skip
    rcases Bool.eq_false_or_eq_true (c.sg == 2) with hb_66 | hb_66
    ·try rw [hb_66]
     refine CW.cond_false (by kernel_rfl) ?_
     refine CW.skip ?_
     exact ⟨hs_35, (by kernel_rfl), (by kernel_rfl)⟩
    ·try rw [hb_66]
     refine CW.cond_true (by kernel_rfl) ?_
     refine CW.region ?_
     refine SL.v (pv g_1 6) ?_
     refine SL.v (pv g_1 6) ?_
     refine SL.v (pv g_1 12) ?_
     refine SL.store (i := 0) (g := g_1) (off := 12) (v := iv 0) (L' := [(g_1, .cells #[iv ((qStC_0 c).1), iv ((qStC_0 c).2), .int .u8 (c.rend % 32), .bool c.kept, .bool c.wrap, .bool c.origin, iv c.g0, iv c.g1, iv c.g2, iv c.g3, iv (uL c.gl), iv (uR c.gr), iv 0, iv ((wholeZ c.pb c.pr).1), iv ((wholeZ c.pb c.pr).2.1), iv ((wholeZ c.pb c.pr).2.2.1), iv ((wholeZ c.pb c.pr).2.2.2), iv ((qStC_1 c).1), iv ((qStC_1 c).2.1), iv ((qStC_1 c).2.2.1), iv ((qStC_1 c).2.2.2), .int .u32 c.modes, iv c.level, .bool c.eight, .bool c.stream, iv c.status, .bool c.below, iv c.page, iv c.pages] 45 (0, 0)), (g_4, .cells czA 45 (0, 0)), (g_21, .cells #[iv (-1)] 3 (0, 0))]) hs_35 rfl rfl rfl (by kernel_rfl) (by kernel_rfl) rfl (by kernel_rfl) (by kernel_rfl) rfl (by kernel_rfl) rfl (fun w_67 hs_68 => ?_)
     refine SL.nil ?_
     exact ⟨hs_68, (by kernel_rfl), (by kernel_rfl)⟩
   ·rintro e_69 w_70 ⟨hs_71, hv_73, hv_74⟩
    obtain ⟨e_72, rfl⟩ : ∃ e_72, e_69 = put1 (put1 e_72 1 (pv g_1 0)) 2 (pv g_4 0) := ⟨e_69, (put_self hv_74).trans (congrArg (fun z => put1 z 2 (pv g_4 0)) (put_self hv_73))⟩
    clear hv_73 hv_74
    refine CW.seq ?_
    refine CW.region ?_
    refine SL.v (pv g_1 21) ?_
    refine SL.load (g := g_1) (off := 21) (v := .int .u32 c.modes) rfl rfl rfl (by kernel_rfl) (hs_71.all 0 g_1 _ rfl) (by kernel_rfl) ?_
    refine SL.call (f := 60) (args := #[.int .u32 c.modes]) (w1 := w_70) rfl rfl (by kernel_rfl) ((clear17 c.modes w_70 hmodes)) ?_
    rintro x w_75 ⟨rfl, hc_76⟩
    refine ⟨_, rfl, ?_⟩
    have hs_77 := hs_71.grow hc_76
    refine SL.v (pv g_1 21) ?_
    refine SL.store (i := 0) (g := g_1) (off := 21) (v := .int .u32 (c.modes % 131072)) (L' := [(g_1, .cells #[iv ((qStC_0 c).1), iv ((qStC_0 c).2), .int .u8 (c.rend % 32), .bool c.kept, .bool c.wrap, .bool c.origin, iv c.g0, iv c.g1, iv c.g2, iv c.g3, iv (uL c.gl), iv (uR c.gr), iv (bif (c.sg == 2) then c.sg else 0), iv ((wholeZ c.pb c.pr).1), iv ((wholeZ c.pb c.pr).2.1), iv ((wholeZ c.pb c.pr).2.2.1), iv ((wholeZ c.pb c.pr).2.2.2), iv ((qStC_1 c).1), iv ((qStC_1 c).2.1), iv ((qStC_1 c).2.2.1), iv ((qStC_1 c).2.2.2), .int .u32 (c.modes % 131072), iv c.level, .bool c.eight, .bool c.stream, iv c.status, .bool c.below, iv c.page, iv c.pages] 45 (0, 0)), (g_4, .cells czA 45 (0, 0)), (g_21, .cells #[iv (-1)] 3 (0, 0))]) hs_77 rfl rfl rfl (by kernel_rfl) (by kernel_rfl) rfl (by kernel_rfl) (by kernel_rfl) rfl (by kernel_rfl) rfl (fun w_78 hs_79 => ?_)
    refine SL.nil ?_
    refine CW.seq ?_
    have HGR : GrL [fun v _ => v = pv g_1 22, fun v _ => v = iv c.level, fun v _ => v = iv (clipZ c.level 1 5), fun v _ => v = pv g_1 25, fun v _ => v = iv c.status] := ⟨fun _ _ _ _ h => h, ⟨fun _ _ _ _ h => h, ⟨fun _ _ _ _ h => h, ⟨fun _ _ _ _ h => h, ⟨fun _ _ _ _ h => h, trivial⟩⟩⟩⟩⟩
    refine CW.draw 5 (FW [fun v _ => v = pv g_1 22, fun v _ => v = iv c.level, fun v _ => v = iv (clipZ c.level 1 5), fun v _ => v = pv g_1 25, fun v _ => v = iv c.status]) (fun W => Bk w W [(g_1, .cells #[iv ((qStC_0 c).1), iv ((qStC_0 c).2), .int .u8 (c.rend % 32), .bool c.kept, .bool c.wrap, .bool c.origin, iv c.g0, iv c.g1, iv c.g2, iv c.g3, iv (uL c.gl), iv (uR c.gr), iv (bif (c.sg == 2) then c.sg else 0), iv ((wholeZ c.pb c.pr).1), iv ((wholeZ c.pb c.pr).2.1), iv ((wholeZ c.pb c.pr).2.2.1), iv ((wholeZ c.pb c.pr).2.2.2), iv ((qStC_1 c).1), iv ((qStC_1 c).2.1), iv ((qStC_1 c).2.2.1), iv ((qStC_1 c).2.2.2), .int .u32 (c.modes % 131072), iv c.level, .bool c.eight, .bool c.stream, iv c.status, .bool c.below, iv c.page, iv c.pages] 45 (0, 0)), (g_4, .cells czA 45 (0, 0)), (g_21, .cells #[iv (-1)] 3 (0, 0))] ∧ Gr w_78 W) (by kernel_rfl) (by kernel_rfl) (by kernel_rfl) (by kernel_rfl) (by kernel_rfl) ⟨hs_79.drew, (Gr.refl _).drew⟩ ?_ ?_
    ·refine ⟨?_, ⟨?_, ⟨?_, ⟨?_, ⟨?_, trivial⟩⟩⟩⟩⟩
     ·intro L ys W hB hF hP K hK
      show OpE _ _ _ W K
      exact OpE.val (pv g_1 22) W (by kernel_rfl) (hK _ W hB rfl (fun _ _ h => h))
     ·intro L ys W hB hF hP K hK
      show OpE _ _ _ W K
      exact OpE.known (j := 0) (v := pv g_1 22) (hF 0 (hP.1 rfl)) (OpE.load (g := g_1) (off := 22) (v := iv c.level) rfl (by kernel_rfl) (hB.1.all 0 g_1 _ rfl) (by kernel_rfl) (hK _ W hB rfl (fun _ _ h => h)))
     ·intro L ys W hB hF hP K hK
      show OpE _ _ _ W K
      exact OpE.known (j := 1) (v := iv c.level) (hF 1 (hP.1 rfl)) (OpE.call 61 #[iv c.level, iv 1, iv 5] W _ (by kernel_rfl) (clipz_any c.level 1 5 W) (fun x w' hx => by obtain ⟨rfl, hg⟩ := hx; exact ⟨_, rfl, hK _ w' ⟨hB.1.grow hg, hB.2.trans hg⟩ rfl (fun _ _ h => FW.gr HGR hg h)⟩))
     ·intro L ys W hB hF hP K hK
      show OpE _ _ _ W K
      exact OpE.val (pv g_1 25) W (by kernel_rfl) (hK _ W hB rfl (fun _ _ h => h))
     ·intro L ys W hB hF hP K hK
      show OpE _ _ _ W K
      exact OpE.known (j := 3) (v := pv g_1 25) (hF 3 (hP.1 rfl)) (OpE.load (g := g_1) (off := 25) (v := iv c.status) rfl (by kernel_rfl) (hB.1.all 0 g_1 _ rfl) (by kernel_rfl) (hK _ W hB rfl (fun _ _ h => h)))
    ·intro ys_83 w_80 hs_81 hF_82
     have hs_81 : Bk w w_80 [(g_1, .cells #[iv ((qStC_0 c).1), iv ((qStC_0 c).2), .int .u8 (c.rend % 32), .bool c.kept, .bool c.wrap, .bool c.origin, iv c.g0, iv c.g1, iv c.g2, iv c.g3, iv (uL c.gl), iv (uR c.gr), iv (bif (c.sg == 2) then c.sg else 0), iv ((wholeZ c.pb c.pr).1), iv ((wholeZ c.pb c.pr).2.1), iv ((wholeZ c.pb c.pr).2.2.1), iv ((wholeZ c.pb c.pr).2.2.2), iv ((qStC_1 c).1), iv ((qStC_1 c).2.1), iv ((qStC_1 c).2.2.1), iv ((qStC_1 c).2.2.2), .int .u32 (c.modes % 131072), iv c.level, .bool c.eight, .bool c.stream, iv c.status, .bool c.below, iv c.page, iv c.pages] 45 (0, 0)), (g_4, .cells czA 45 (0, 0)), (g_21, .cells #[iv (-1)] 3 (0, 0))] := hs_81.1
     refine SL.knownY (j := 2) (v := iv (clipZ c.level 1 5)) (show ys_83 2 = iv (clipZ c.level 1 5) from hF_82 2 (by decide)) (SL.knownY (j := 4) (v := iv c.status) (show ys_83 4 = iv c.status from hF_82 4 (by decide)) (?_))
     clear hF_82 HGR
     refine SL.call (f := 61) (args := #[iv c.status, iv 0, iv 2]) (w1 := w_80) rfl rfl (by kernel_rfl) (clipz_any c.status 0 2 w_80) ?_
     rintro x w_84 ⟨rfl, hc_85⟩
     refine ⟨_, rfl, ?_⟩
     have hs_86 := hs_81.grow hc_85
     refine SL.v (pv g_1 22) ?_
     refine SL.store (i := 0) (g := g_1) (off := 22) (v := iv (clipZ c.level 1 5)) (L' := [(g_1, .cells #[iv ((qStC_0 c).1), iv ((qStC_0 c).2), .int .u8 (c.rend % 32), .bool c.kept, .bool c.wrap, .bool c.origin, iv c.g0, iv c.g1, iv c.g2, iv c.g3, iv (uL c.gl), iv (uR c.gr), iv (bif (c.sg == 2) then c.sg else 0), iv ((wholeZ c.pb c.pr).1), iv ((wholeZ c.pb c.pr).2.1), iv ((wholeZ c.pb c.pr).2.2.1), iv ((wholeZ c.pb c.pr).2.2.2), iv ((qStC_1 c).1), iv ((qStC_1 c).2.1), iv ((qStC_1 c).2.2.1), iv ((qStC_1 c).2.2.2), .int .u32 (c.modes % 131072), iv (clipZ c.level 1 5), .bool c.eight, .bool c.stream, iv c.status, .bool c.below, iv c.page, iv c.pages] 45 (0, 0)), (g_4, .cells czA 45 (0, 0)), (g_21, .cells #[iv (-1)] 3 (0, 0))]) hs_86 rfl rfl rfl (by kernel_rfl) (by kernel_rfl) rfl (by kernel_rfl) (by kernel_rfl) rfl (by kernel_rfl) rfl (fun w_87 hs_88 => ?_)
     refine SL.v (pv g_1 25) ?_
     refine SL.store (i := 0) (g := g_1) (off := 25) (v := iv (clipZ c.status 0 2)) (L' := [(g_1, .cells #[iv ((qStC_0 c).1), iv ((qStC_0 c).2), .int .u8 (c.rend % 32), .bool c.kept, .bool c.wrap, .bool c.origin, iv c.g0, iv c.g1, iv c.g2, iv c.g3, iv (uL c.gl), iv (uR c.gr), iv (bif (c.sg == 2) then c.sg else 0), iv ((wholeZ c.pb c.pr).1), iv ((wholeZ c.pb c.pr).2.1), iv ((wholeZ c.pb c.pr).2.2.1), iv ((wholeZ c.pb c.pr).2.2.2), iv ((qStC_1 c).1), iv ((qStC_1 c).2.1), iv ((qStC_1 c).2.2.1), iv ((qStC_1 c).2.2.2), .int .u32 (c.modes % 131072), iv (clipZ c.level 1 5), .bool c.eight, .bool c.stream, iv (clipZ c.status 0 2), .bool c.below, iv c.page, iv c.pages] 45 (0, 0)), (g_4, .cells czA 45 (0, 0)), (g_21, .cells #[iv (-1)] 3 (0, 0))]) hs_88 rfl rfl rfl (by kernel_rfl) (by kernel_rfl) rfl (by kernel_rfl) (by kernel_rfl) rfl (by kernel_rfl) rfl (fun w_89 hs_90 => ?_)
     refine SL.nil ?_
     refine CW.seq ?_
     refine CW.region ?_
     refine SL.v (pv g_1 28) ?_
     refine SL.load (g := g_1) (off := 28) (v := iv c.pages) rfl rfl rfl (by kernel_rfl) (hs_90.all 0 g_1 _ rfl) (by kernel_rfl) ?_
     refine SL.call (f := 61) (args := #[iv c.pages, iv 1, iv 16]) (w1 := w_89) rfl rfl (by kernel_rfl) (clipz_any c.pages 1 16 w_89) ?_
     rintro x w_91 ⟨rfl, hc_92⟩
     refine ⟨_, rfl, ?_⟩
     have hs_93 := hs_90.grow hc_92
     refine SL.v (pv g_1 28) ?_
     refine SL.store (i := 0) (g := g_1) (off := 28) (v := iv (clipZ c.pages 1 16)) (L' := [(g_1, .cells #[iv ((qStC_0 c).1), iv ((qStC_0 c).2), .int .u8 (c.rend % 32), .bool c.kept, .bool c.wrap, .bool c.origin, iv c.g0, iv c.g1, iv c.g2, iv c.g3, iv (uL c.gl), iv (uR c.gr), iv (bif (c.sg == 2) then c.sg else 0), iv ((wholeZ c.pb c.pr).1), iv ((wholeZ c.pb c.pr).2.1), iv ((wholeZ c.pb c.pr).2.2.1), iv ((wholeZ c.pb c.pr).2.2.2), iv ((qStC_1 c).1), iv ((qStC_1 c).2.1), iv ((qStC_1 c).2.2.1), iv ((qStC_1 c).2.2.2), .int .u32 (c.modes % 131072), iv (clipZ c.level 1 5), .bool c.eight, .bool c.stream, iv (clipZ c.status 0 2), .bool c.below, iv c.page, iv (clipZ c.pages 1 16)] 45 (0, 0)), (g_4, .cells czA 45 (0, 0)), (g_21, .cells #[iv (-1)] 3 (0, 0))]) hs_93 rfl rfl rfl (by kernel_rfl) (by kernel_rfl) rfl (by kernel_rfl) (by kernel_rfl) rfl (by kernel_rfl) rfl (fun w_94 hs_95 => ?_)
     refine SL.nil ?_
     refine CW.seq ?_
     refine CW.region ?_
     refine SL.v (pv g_1 27) ?_
     refine SL.load (g := g_1) (off := 27) (v := iv c.page) rfl rfl rfl (by kernel_rfl) (hs_95.all 0 g_1 _ rfl) (by kernel_rfl) ?_
     refine SL.v (pv g_1 28) ?_
     refine SL.load (g := g_1) (off := 28) (v := iv (clipZ c.pages 1 16)) rfl rfl rfl (by kernel_rfl) (hs_95.all 0 g_1 _ rfl) (by kernel_rfl) ?_
     refine SL.val (v := iv ((clipZ c.pages 1 16) - 1)) (w' := w_94) rfl rfl (by have hw : IntKind.i64.wrap ((clipZ c.pages 1 16) - 1) = (clipZ c.pages 1 16) - 1 := IntWalk.i64_in _ (by omega); exact run_eqv (by kernel_rfl) (congrArg (fun z => Value.int .i64 z) hw)) ?_
     refine SL.call (f := 61) (args := #[iv c.page, iv 0, iv ((clipZ c.pages 1 16) - 1)]) (w1 := w_94) rfl rfl (by kernel_rfl) (clipz_any c.page 0 ((clipZ c.pages 1 16) - 1) w_94) ?_
     rintro x w_96 ⟨rfl, hc_97⟩
     refine ⟨_, rfl, ?_⟩
     have hs_98 := hs_95.grow hc_97
     refine SL.v (pv g_1 27) ?_
     refine SL.store (i := 0) (g := g_1) (off := 27) (v := iv (clipZ c.page 0 ((clipZ c.pages 1 16) - 1))) (L' := [(g_1, .cells #[iv ((qStC_0 c).1), iv ((qStC_0 c).2), .int .u8 (c.rend % 32), .bool c.kept, .bool c.wrap, .bool c.origin, iv c.g0, iv c.g1, iv c.g2, iv c.g3, iv (uL c.gl), iv (uR c.gr), iv (bif (c.sg == 2) then c.sg else 0), iv ((wholeZ c.pb c.pr).1), iv ((wholeZ c.pb c.pr).2.1), iv ((wholeZ c.pb c.pr).2.2.1), iv ((wholeZ c.pb c.pr).2.2.2), iv ((qStC_1 c).1), iv ((qStC_1 c).2.1), iv ((qStC_1 c).2.2.1), iv ((qStC_1 c).2.2.2), .int .u32 (c.modes % 131072), iv (clipZ c.level 1 5), .bool c.eight, .bool c.stream, iv (clipZ c.status 0 2), .bool c.below, iv (clipZ c.page 0 ((clipZ c.pages 1 16) - 1)), iv (clipZ c.pages 1 16)] 45 (0, 0)), (g_4, .cells czA 45 (0, 0)), (g_21, .cells #[iv (-1)] 3 (0, 0))]) hs_98 rfl rfl rfl (by kernel_rfl) (by kernel_rfl) rfl (by kernel_rfl) (by kernel_rfl) rfl (by kernel_rfl) rfl (fun w_99 hs_100 => ?_)
     refine SL.nil ?_
     refine CW.seq ?_
     refine CW.region ?_
     refine SL.load (g := g_1) (off := 0) (v := .agg #[iv ((qStC_0 c).1), iv ((qStC_0 c).2), .int .u8 (c.rend % 32), .bool c.kept, .bool c.wrap, .bool c.origin, iv c.g0, iv c.g1, iv c.g2, iv c.g3, iv (uL c.gl), iv (uR c.gr), iv (bif (c.sg == 2) then c.sg else 0), iv ((wholeZ c.pb c.pr).1), iv ((wholeZ c.pb c.pr).2.1), iv ((wholeZ c.pb c.pr).2.2.1), iv ((wholeZ c.pb c.pr).2.2.2), iv ((qStC_1 c).1), iv ((qStC_1 c).2.1), iv ((qStC_1 c).2.2.1), iv ((qStC_1 c).2.2.2), .int .u32 (c.modes % 131072), iv (clipZ c.level 1 5), .bool c.eight, .bool c.stream, iv (clipZ c.status 0 2), .bool c.below, iv (clipZ c.page 0 ((clipZ c.pages 1 16) - 1)), iv (clipZ c.pages 1 16)]) rfl rfl rfl (by kernel_rfl) (hs_100.all 0 g_1 _ rfl) (by kernel_rfl) ?_
     refine SL.store (i := 1) (g := g_4) (off := 0) (v := .agg #[iv ((qStC_0 c).1), iv ((qStC_0 c).2), .int .u8 (c.rend % 32), .bool c.kept, .bool c.wrap, .bool c.origin, iv c.g0, iv c.g1, iv c.g2, iv c.g3, iv (uL c.gl), iv (uR c.gr), iv (bif (c.sg == 2) then c.sg else 0), iv ((wholeZ c.pb c.pr).1), iv ((wholeZ c.pb c.pr).2.1), iv ((wholeZ c.pb c.pr).2.2.1), iv ((wholeZ c.pb c.pr).2.2.2), iv ((qStC_1 c).1), iv ((qStC_1 c).2.1), iv ((qStC_1 c).2.2.1), iv ((qStC_1 c).2.2.2), .int .u32 (c.modes % 131072), iv (clipZ c.level 1 5), .bool c.eight, .bool c.stream, iv (clipZ c.status 0 2), .bool c.below, iv (clipZ c.page 0 ((clipZ c.pages 1 16) - 1)), iv (clipZ c.pages 1 16)]) (L' := [(g_1, .cells #[iv ((qStC_0 c).1), iv ((qStC_0 c).2), .int .u8 (c.rend % 32), .bool c.kept, .bool c.wrap, .bool c.origin, iv c.g0, iv c.g1, iv c.g2, iv c.g3, iv (uL c.gl), iv (uR c.gr), iv (bif (c.sg == 2) then c.sg else 0), iv ((wholeZ c.pb c.pr).1), iv ((wholeZ c.pb c.pr).2.1), iv ((wholeZ c.pb c.pr).2.2.1), iv ((wholeZ c.pb c.pr).2.2.2), iv ((qStC_1 c).1), iv ((qStC_1 c).2.1), iv ((qStC_1 c).2.2.1), iv ((qStC_1 c).2.2.2), .int .u32 (c.modes % 131072), iv (clipZ c.level 1 5), .bool c.eight, .bool c.stream, iv (clipZ c.status 0 2), .bool c.below, iv (clipZ c.page 0 ((clipZ c.pages 1 16) - 1)), iv (clipZ c.pages 1 16)] 45 (0, 0)), (g_4, .cells #[iv ((qStC_0 c).1), iv ((qStC_0 c).2), .int .u8 (c.rend % 32), .bool c.kept, .bool c.wrap, .bool c.origin, iv c.g0, iv c.g1, iv c.g2, iv c.g3, iv (uL c.gl), iv (uR c.gr), iv (bif (c.sg == 2) then c.sg else 0), iv ((wholeZ c.pb c.pr).1), iv ((wholeZ c.pb c.pr).2.1), iv ((wholeZ c.pb c.pr).2.2.1), iv ((wholeZ c.pb c.pr).2.2.2), iv ((qStC_1 c).1), iv ((qStC_1 c).2.1), iv ((qStC_1 c).2.2.1), iv ((qStC_1 c).2.2.2), .int .u32 (c.modes % 131072), iv (clipZ c.level 1 5), .bool c.eight, .bool c.stream, iv (clipZ c.status 0 2), .bool c.below, iv (clipZ c.page 0 ((clipZ c.pages 1 16) - 1)), iv (clipZ c.pages 1 16)] 45 (0, 0)), (g_21, .cells #[iv (-1)] 3 (0, 0))]) hs_100 rfl rfl rfl (by kernel_rfl) (by kernel_rfl) rfl (by kernel_rfl) (by kernel_rfl) rfl (by kernel_rfl) rfl (fun w_101 hs_102 => ?_)
     refine SL.nil ?_
     refine CW.ret ?_
     repeat with_reducible first | refine PThen.ret ?_ | refine PBlock.ret ?_
     refine PRet.cell (t := 2) (ty := 45) (g := g_4) (v := .agg #[iv ((qStC_0 c).1), iv ((qStC_0 c).2), .int .u8 (c.rend % 32), .bool c.kept, .bool c.wrap, .bool c.origin, iv c.g0, iv c.g1, iv c.g2, iv c.g3, iv (uL c.gl), iv (uR c.gr), iv (bif (c.sg == 2) then c.sg else 0), iv ((wholeZ c.pb c.pr).1), iv ((wholeZ c.pb c.pr).2.1), iv ((wholeZ c.pb c.pr).2.2.1), iv ((wholeZ c.pb c.pr).2.2.2), iv ((qStC_1 c).1), iv ((qStC_1 c).2.1), iv ((qStC_1 c).2.2.1), iv ((qStC_1 c).2.2.2), .int .u32 (c.modes % 131072), iv (clipZ c.level 1 5), .bool c.eight, .bool c.stream, iv (clipZ c.status 0 2), .bool c.below, iv (clipZ c.page 0 ((clipZ c.pages 1 16) - 1)), iv (clipZ c.pages 1 16)]) rfl rfl (by kernel_rfl) (hs_102.all 1 g_4 _ rfl) (by kernel_rfl) ?_
     exact ⟨by simp only [Cor.v, Cor.clean, hb_36, Bool.or_true, Bool.or_false]; rfl, hs_102.gr⟩
theorem rused (g0 g1 g2 g3 gl gr si : Int) (w : World) : Calls Tryz.prog 44 #[.agg #[iv g0, iv g1, iv g2, iv g3, iv gl, iv gr, iv si]] w fun e w' => e = .returned (.tuple #[iv (uL gl), iv (uR gr)]) ∧ Gr w w' := used_any g0 g1 g2 g3 gl gr si w
set_option maxRecDepth 100000 in
set_option maxHeartbeats 4000000 in
theorem rclean_any (c : Cor) (w : World) (hc : c.Ok) : Calls Tryz.prog 13 #[.agg (cdA c)] w fun e w' => e = .returned (c.clean.d) ∧ Gr w w' := by
 have hwh := whole_in hc.p.2.2.1 hc.p.2.2.2
 have hrend := hc.rend
 have hmodes := hc.modes
 obtain ⟨hmd1, hmd2⟩ := hmodes
 have hpg : 1 ≤ clipZ c.pages 1 16 ∧ clipZ c.pages 1 16 ≤ 16 := by unfold clipZ; omega
 refine calls_sx (n := 95) (args := [.agg (cdA c)]) Tryz.func13 rfl rfl rfl ?_
 have hs0 := Bk.init w
 refine CW.seq ?_
 refine CW.region ?_
 refine SL.new (mk := fun g => pv g 0) (C := (cdA c)) (T := 33) hs0 rfl rfl (by kernel_rfl) (fun g_1 w_2 hs_3 => ?_)
 have hs_3 : Bk w w_2 [(g_1, .cells (cdA c) 33 (0, 0))] := hs_3
 refine SL.new (mk := fun g => pv g 0) (C := czD) (T := 33) hs_3 rfl rfl (by kernel_rfl) (fun g_4 w_5 hs_6 => ?_)
 have hs_6 : Bk w w_5 [(g_1, .cells (cdA c) 33 (0, 0)), (g_4, .cells czD 33 (0, 0))] := hs_6
 refine SL.nil ?_
 refine CW.seq ?_
 refine CW.region ?_
 refine SL.v (pv g_1 13) ?_
 refine SL.load (g := g_1) (off := 13) (v := .agg (qStC_2 c)) rfl rfl rfl (by kernel_rfl) (hs_6.all 0 g_1 _ rfl) (by kernel_rfl) ?_
 refine SL.new (mk := fun g => pv g 0) (C := #[iv 0, iv 0, iv 0, iv 0, iv 0, iv 0, iv 0, iv 0]) (T := 31) hs_6 rfl rfl (by kernel_rfl) (fun g_7 w_8 hs_9 => ?_)
 have hs_9 : Bk w w_8 [(g_1, .cells (cdA c) 33 (0, 0)), (g_4, .cells czD 33 (0, 0)), (g_7, .cells #[iv 0, iv 0, iv 0, iv 0, iv 0, iv 0, iv 0, iv 0] 31 (0, 0))] := hs_9
 refine SL.store (i := 2) (g := g_7) (off := 0) (v := .agg (qStC_2 c)) (L' := [(g_1, .cells (cdA c) 33 (0, 0)), (g_4, .cells czD 33 (0, 0)), (g_7, .cells (qStC_2 c) 31 (0, 0))]) hs_9 rfl rfl rfl (by kernel_rfl) (by kernel_rfl) rfl (by kernel_rfl) (by kernel_rfl) rfl (by kernel_rfl) rfl (fun w_10 hs_11 => ?_)
 refine SL.nil ?_
 refine CW.seq ?_
 have HGR : GrL [fun v _ => v = .agg (qStC_2 c), fun v _ => v = .agg (qStC_3 c), fun v _ => v = .agg (qStC_2 c)] := ⟨fun _ _ _ _ h => h, ⟨fun _ _ _ _ h => h, ⟨fun _ _ _ _ h => h, trivial⟩⟩⟩
 refine CW.draw 3 (FW [fun v _ => v = .agg (qStC_2 c), fun v _ => v = .agg (qStC_3 c), fun v _ => v = .agg (qStC_2 c)]) (fun W => Bk w W [(g_1, .cells (cdA c) 33 (0, 0)), (g_4, .cells czD 33 (0, 0)), (g_7, .cells (qStC_2 c) 31 (0, 0))] ∧ Gr w_10 W) (by kernel_rfl) (by kernel_rfl) (by kernel_rfl) (by kernel_rfl) (by kernel_rfl) ⟨hs_11.drew, (Gr.refl _).drew⟩ ?_ ?_
 ·refine ⟨?_, ⟨?_, ⟨?_, trivial⟩⟩⟩
  ·intro L ys W hB hF hP K hK
   show OpE _ _ _ W K
   exact OpE.load (g := g_7) (off := 0) (v := .agg (qStC_2 c)) rfl (by kernel_rfl) (hB.1.all 2 g_7 _ rfl) (by kernel_rfl) (hK _ W hB rfl (fun _ _ h => h))
  ·intro L ys W hB hF hP K hK
   show OpE _ _ _ W K
   exact OpE.known (j := 0) (v := .agg (qStC_2 c)) (hF 0 (hP.1 rfl)) (OpE.call 39 #[.agg (qStC_2 c)] W _ (by kernel_rfl) (rwhole_any c.pt c.pl c.pb c.pr c.mt c.ml c.mb c.mr W) (fun x w' hx => by obtain ⟨rfl, hg⟩ := hx; exact ⟨_, rfl, hK _ w' ⟨hB.1.grow hg, hB.2.trans hg⟩ rfl (fun _ _ h => FW.gr HGR hg h)⟩))
  ·intro L ys W hB hF hP K hK
   show OpE _ _ _ W K
   exact OpE.load (g := g_7) (off := 0) (v := .agg (qStC_2 c)) rfl (by kernel_rfl) (hB.1.all 2 g_7 _ rfl) (by kernel_rfl) (hK _ W hB rfl (fun _ _ h => h))
 ·intro ys_15 w_12 hs_13 hF_14
  have hs_13 : Bk w w_12 [(g_1, .cells (cdA c) 33 (0, 0)), (g_4, .cells czD 33 (0, 0)), (g_7, .cells (qStC_2 c) 31 (0, 0))] := hs_13.1
  refine SL.knownY (j := 1) (v := .agg (qStC_3 c)) (show ys_15 1 = .agg (qStC_3 c) from hF_14 1 (by decide)) (SL.knownY (j := 2) (v := .agg (qStC_2 c)) (show ys_15 2 = .agg (qStC_2 c) from hF_14 2 (by decide)) (?_))
  clear hF_14 HGR
  refine SL.call (f := 40) (args := #[.agg (qStC_2 c)]) (w1 := w_12) rfl rfl (by kernel_rfl) (rinner_any c.pt c.pl c.pb c.pr c.mt c.ml c.mb c.mr w_12) ?_
  rintro x w_16 ⟨rfl, hc_17⟩
  refine ⟨_, rfl, ?_⟩
  have hs_18 := hs_13.grow hc_17
  refine SL.v (.agg #[iv ((wholeZ c.pb c.pr).1), iv ((wholeZ c.pb c.pr).2.1), iv ((wholeZ c.pb c.pr).2.2.1), iv ((wholeZ c.pb c.pr).2.2.2), iv ((qStC_1 c).1), iv ((qStC_1 c).2.1), iv ((qStC_1 c).2.2.1), iv ((qStC_1 c).2.2.2)]) ?_
  refine SL.v (pv g_1 13) ?_
  refine SL.store (i := 0) (g := g_1) (off := 13) (v := .agg #[iv ((wholeZ c.pb c.pr).1), iv ((wholeZ c.pb c.pr).2.1), iv ((wholeZ c.pb c.pr).2.2.1), iv ((wholeZ c.pb c.pr).2.2.2), iv ((qStC_1 c).1), iv ((qStC_1 c).2.1), iv ((qStC_1 c).2.2.1), iv ((qStC_1 c).2.2.2)]) (L' := [(g_1, .cells #[iv c.row, iv c.col, .int .u8 c.rend, .bool c.kept, .bool c.wrap, .bool c.origin, iv c.g0, iv c.g1, iv c.g2, iv c.g3, iv c.gl, iv c.gr, iv c.sg, iv ((wholeZ c.pb c.pr).1), iv ((wholeZ c.pb c.pr).2.1), iv ((wholeZ c.pb c.pr).2.2.1), iv ((wholeZ c.pb c.pr).2.2.2), iv ((qStC_1 c).1), iv ((qStC_1 c).2.1), iv ((qStC_1 c).2.2.1), iv ((qStC_1 c).2.2.2), iv c.modes, iv c.level, .bool c.eight, .bool c.stream, iv c.status, .bool c.below, iv c.page, iv c.pages] 33 (0, 0)), (g_4, .cells czD 33 (0, 0)), (g_7, .cells (qStC_2 c) 31 (0, 0))]) hs_18 rfl rfl rfl (by kernel_rfl) (by kernel_rfl) rfl (by kernel_rfl) (by kernel_rfl) rfl (by kernel_rfl) rfl (fun w_19 hs_20 => ?_)
  refine SL.nil ?_
  refine CW.seq ?_
  refine CW.region ?_
  refine SL.v (pv g_1 13) ?_
  refine SL.v (pv g_1 13) ?_
  refine SL.load (g := g_1) (off := 13) (v := .agg (qStC_3 c)) rfl rfl rfl (by kernel_rfl) (hs_20.all 0 g_1 _ rfl) (by kernel_rfl) ?_
  refine SL.v (pv g_1 0) ?_
  refine SL.v (pv g_1 0) ?_
  refine SL.load (g := g_1) (off := 0) (v := iv c.row) rfl rfl rfl (by kernel_rfl) (hs_20.all 0 g_1 _ rfl) (by kernel_rfl) ?_
  refine SL.v (pv g_1 0) ?_
  refine SL.v (pv g_1 1) ?_
  refine SL.load (g := g_1) (off := 1) (v := iv c.col) rfl rfl rfl (by kernel_rfl) (hs_20.all 0 g_1 _ rfl) (by kernel_rfl) ?_
  refine SL.v (.agg #[iv c.row, iv c.col]) ?_
  refine SL.call (f := 41) (args := #[.agg (qStC_3 c), .agg #[iv c.row, iv c.col]]) (w1 := w_19) rfl rfl (by kernel_rfl) (rclamp_any ((wholeZ c.pb c.pr).1) ((wholeZ c.pb c.pr).2.1) ((wholeZ c.pb c.pr).2.2.1) ((wholeZ c.pb c.pr).2.2.2) c.row c.col w_19 hwh) ?_
  rintro x w_21 ⟨rfl, hc_22⟩
  refine ⟨_, rfl, ?_⟩
  have hs_23 := hs_20.grow hc_22
  refine SL.new (mk := fun g => pv g 0) (C := #[iv 0, iv 0]) (T := 37) hs_23 rfl rfl (by kernel_rfl) (fun g_24 w_25 hs_26 => ?_)
  have hs_26 : Bk w w_25 [(g_1, .cells #[iv c.row, iv c.col, .int .u8 c.rend, .bool c.kept, .bool c.wrap, .bool c.origin, iv c.g0, iv c.g1, iv c.g2, iv c.g3, iv c.gl, iv c.gr, iv c.sg, iv ((wholeZ c.pb c.pr).1), iv ((wholeZ c.pb c.pr).2.1), iv ((wholeZ c.pb c.pr).2.2.1), iv ((wholeZ c.pb c.pr).2.2.2), iv ((qStC_1 c).1), iv ((qStC_1 c).2.1), iv ((qStC_1 c).2.2.1), iv ((qStC_1 c).2.2.2), iv c.modes, iv c.level, .bool c.eight, .bool c.stream, iv c.status, .bool c.below, iv c.page, iv c.pages] 33 (0, 0)), (g_4, .cells czD 33 (0, 0)), (g_7, .cells (qStC_2 c) 31 (0, 0)), (g_24, .cells #[iv 0, iv 0] 37 (0, 0))] := hs_26
  refine SL.store (i := 3) (g := g_24) (off := 0) (v := .agg #[iv ((qStC_0 c).1), iv ((qStC_0 c).2)]) (L' := [(g_1, .cells #[iv c.row, iv c.col, .int .u8 c.rend, .bool c.kept, .bool c.wrap, .bool c.origin, iv c.g0, iv c.g1, iv c.g2, iv c.g3, iv c.gl, iv c.gr, iv c.sg, iv ((wholeZ c.pb c.pr).1), iv ((wholeZ c.pb c.pr).2.1), iv ((wholeZ c.pb c.pr).2.2.1), iv ((wholeZ c.pb c.pr).2.2.2), iv ((qStC_1 c).1), iv ((qStC_1 c).2.1), iv ((qStC_1 c).2.2.1), iv ((qStC_1 c).2.2.2), iv c.modes, iv c.level, .bool c.eight, .bool c.stream, iv c.status, .bool c.below, iv c.page, iv c.pages] 33 (0, 0)), (g_4, .cells czD 33 (0, 0)), (g_7, .cells (qStC_2 c) 31 (0, 0)), (g_24, .cells #[iv ((qStC_0 c).1), iv ((qStC_0 c).2)] 37 (0, 0))]) hs_26 rfl rfl rfl (by kernel_rfl) (by kernel_rfl) rfl (by kernel_rfl) (by kernel_rfl) rfl (by kernel_rfl) rfl (fun w_27 hs_28 => ?_)
  refine SL.nil ?_
  refine CW.seq ?_
  refine CW.region ?_
  refine SL.v (pv g_24 0) ?_
  refine SL.load (g := g_24) (off := 0) (v := iv ((qStC_0 c).1)) rfl rfl rfl (by kernel_rfl) (hs_28.all 3 g_24 _ rfl) (by kernel_rfl) ?_
  refine SL.v (pv g_1 0) ?_
  refine SL.v (pv g_1 0) ?_
  refine SL.store (i := 0) (g := g_1) (off := 0) (v := iv ((qStC_0 c).1)) (L' := [(g_1, .cells #[iv ((qStC_0 c).1), iv c.col, .int .u8 c.rend, .bool c.kept, .bool c.wrap, .bool c.origin, iv c.g0, iv c.g1, iv c.g2, iv c.g3, iv c.gl, iv c.gr, iv c.sg, iv ((wholeZ c.pb c.pr).1), iv ((wholeZ c.pb c.pr).2.1), iv ((wholeZ c.pb c.pr).2.2.1), iv ((wholeZ c.pb c.pr).2.2.2), iv ((qStC_1 c).1), iv ((qStC_1 c).2.1), iv ((qStC_1 c).2.2.1), iv ((qStC_1 c).2.2.2), iv c.modes, iv c.level, .bool c.eight, .bool c.stream, iv c.status, .bool c.below, iv c.page, iv c.pages] 33 (0, 0)), (g_4, .cells czD 33 (0, 0)), (g_7, .cells (qStC_2 c) 31 (0, 0)), (g_24, .cells #[iv ((qStC_0 c).1), iv ((qStC_0 c).2)] 37 (0, 0))]) hs_28 rfl rfl rfl (by kernel_rfl) (by kernel_rfl) rfl (by kernel_rfl) (by kernel_rfl) rfl (by kernel_rfl) rfl (fun w_29 hs_30 => ?_)
  refine SL.nil ?_
  refine CW.seq ?_
  refine CW.region ?_
  refine SL.v (pv g_24 1) ?_
  refine SL.load (g := g_24) (off := 1) (v := iv ((qStC_0 c).2)) rfl rfl rfl (by kernel_rfl) (hs_30.all 3 g_24 _ rfl) (by kernel_rfl) ?_
  refine SL.v (pv g_1 0) ?_
  refine SL.v (pv g_1 1) ?_
  refine SL.store (i := 0) (g := g_1) (off := 1) (v := iv ((qStC_0 c).2)) (L' := [(g_1, .cells #[iv ((qStC_0 c).1), iv ((qStC_0 c).2), .int .u8 c.rend, .bool c.kept, .bool c.wrap, .bool c.origin, iv c.g0, iv c.g1, iv c.g2, iv c.g3, iv c.gl, iv c.gr, iv c.sg, iv ((wholeZ c.pb c.pr).1), iv ((wholeZ c.pb c.pr).2.1), iv ((wholeZ c.pb c.pr).2.2.1), iv ((wholeZ c.pb c.pr).2.2.2), iv ((qStC_1 c).1), iv ((qStC_1 c).2.1), iv ((qStC_1 c).2.2.1), iv ((qStC_1 c).2.2.2), iv c.modes, iv c.level, .bool c.eight, .bool c.stream, iv c.status, .bool c.below, iv c.page, iv c.pages] 33 (0, 0)), (g_4, .cells czD 33 (0, 0)), (g_7, .cells (qStC_2 c) 31 (0, 0)), (g_24, .cells #[iv ((qStC_0 c).1), iv ((qStC_0 c).2)] 37 (0, 0))]) hs_30 rfl rfl rfl (by kernel_rfl) (by kernel_rfl) rfl (by kernel_rfl) (by kernel_rfl) rfl (by kernel_rfl) rfl (fun w_31 hs_32 => ?_)
  refine SL.nil ?_
  refine CW.seq ?_
  refine CW.region ?_
  refine SL.v (pv g_1 0) ?_
  refine SL.v (pv g_1 2) ?_
  refine SL.load (g := g_1) (off := 2) (v := .int .u8 c.rend) rfl rfl rfl (by kernel_rfl) (hs_32.all 0 g_1 _ rfl) (by kernel_rfl) ?_
  refine SL.call (f := 43) (args := #[.int .u8 c.rend]) (w1 := w_31) rfl rfl (by kernel_rfl) (rof_any c.rend w_31 hrend) ?_
  rintro x w_33 ⟨rfl, hc_34⟩
  refine ⟨_, rfl, ?_⟩
  have hs_35 := hs_32.grow hc_34
  refine SL.call (f := 42) (args := #[.agg #[.bool (c.rend % 2 == 1), .bool (c.rend / 2 % 2 == 1), .bool (c.rend / 4 % 2 == 1), .bool (c.rend / 8 % 2 == 1), .bool (c.rend / 16 % 2 == 1)]]) (w1 := w_33) rfl rfl (by kernel_rfl) ((rend_of c.rend hrend.1 hrend.2 ▸ rrend_any (c.rend % 2 == 1) (c.rend / 2 % 2 == 1) (c.rend / 4 % 2 == 1) (c.rend / 8 % 2 == 1) (c.rend / 16 % 2 == 1) w_33)) ?_
  rintro x w_36 ⟨rfl, hc_37⟩
  refine ⟨_, rfl, ?_⟩
  have hs_38 := hs_35.grow hc_37
  refine SL.v (pv g_1 0) ?_
  refine SL.v (pv g_1 2) ?_
  refine SL.store (i := 0) (g := g_1) (off := 2) (v := .int .u8 (c.rend % 32)) (L' := [(g_1, .cells #[iv ((qStC_0 c).1), iv ((qStC_0 c).2), .int .u8 (c.rend % 32), .bool c.kept, .bool c.wrap, .bool c.origin, iv c.g0, iv c.g1, iv c.g2, iv c.g3, iv c.gl, iv c.gr, iv c.sg, iv ((wholeZ c.pb c.pr).1), iv ((wholeZ c.pb c.pr).2.1), iv ((wholeZ c.pb c.pr).2.2.1), iv ((wholeZ c.pb c.pr).2.2.2), iv ((qStC_1 c).1), iv ((qStC_1 c).2.1), iv ((qStC_1 c).2.2.1), iv ((qStC_1 c).2.2.2), iv c.modes, iv c.level, .bool c.eight, .bool c.stream, iv c.status, .bool c.below, iv c.page, iv c.pages] 33 (0, 0)), (g_4, .cells czD 33 (0, 0)), (g_7, .cells (qStC_2 c) 31 (0, 0)), (g_24, .cells #[iv ((qStC_0 c).1), iv ((qStC_0 c).2)] 37 (0, 0))]) hs_38 rfl rfl rfl (by kernel_rfl) (by kernel_rfl) rfl (by kernel_rfl) (by kernel_rfl) rfl (by kernel_rfl) rfl (fun w_39 hs_40 => ?_)
  refine SL.nil ?_
  refine CW.seq ?_
  refine CW.region ?_
  refine SL.v (pv g_1 0) ?_
  refine SL.v (pv g_1 6) ?_
  refine SL.load (g := g_1) (off := 6) (v := .agg #[iv c.g0, iv c.g1, iv c.g2, iv c.g3, iv c.gl, iv c.gr, iv c.sg]) rfl rfl rfl (by kernel_rfl) (hs_40.all 0 g_1 _ rfl) (by kernel_rfl) ?_
  refine SL.call (f := 44) (args := #[.agg #[iv c.g0, iv c.g1, iv c.g2, iv c.g3, iv c.gl, iv c.gr, iv c.sg]]) (w1 := w_39) rfl rfl (by kernel_rfl) (rused c.g0 c.g1 c.g2 c.g3 c.gl c.gr c.sg w_39) ?_
  rintro x w_41 ⟨rfl, hc_42⟩
  refine ⟨_, rfl, ?_⟩
  have hs_43 := hs_40.grow hc_42
  refine SL.v (.tuple #[iv (uL c.gl), iv (uR c.gr)]) ?_
  refine SL.v (iv (uL c.gl)) ?_
  refine SL.v (iv (uR c.gr)) ?_
  refine SL.v (iv (uL c.gl)) ?_
  refine SL.v (iv (uR c.gr)) ?_
  refine SL.nil ?_
  refine CW.seq ?_
  refine CW.region ?_
  refine SL.v (iv (uL c.gl)) ?_
  refine SL.v (pv g_1 0) ?_
  refine SL.v (pv g_1 6) ?_
  refine SL.v (pv g_1 10) ?_
  refine SL.store (i := 0) (g := g_1) (off := 10) (v := iv (uL c.gl)) (L' := [(g_1, .cells #[iv ((qStC_0 c).1), iv ((qStC_0 c).2), .int .u8 (c.rend % 32), .bool c.kept, .bool c.wrap, .bool c.origin, iv c.g0, iv c.g1, iv c.g2, iv c.g3, iv (uL c.gl), iv c.gr, iv c.sg, iv ((wholeZ c.pb c.pr).1), iv ((wholeZ c.pb c.pr).2.1), iv ((wholeZ c.pb c.pr).2.2.1), iv ((wholeZ c.pb c.pr).2.2.2), iv ((qStC_1 c).1), iv ((qStC_1 c).2.1), iv ((qStC_1 c).2.2.1), iv ((qStC_1 c).2.2.2), iv c.modes, iv c.level, .bool c.eight, .bool c.stream, iv c.status, .bool c.below, iv c.page, iv c.pages] 33 (0, 0)), (g_4, .cells czD 33 (0, 0)), (g_7, .cells (qStC_2 c) 31 (0, 0)), (g_24, .cells #[iv ((qStC_0 c).1), iv ((qStC_0 c).2)] 37 (0, 0))]) hs_43 rfl rfl rfl (by kernel_rfl) (by kernel_rfl) rfl (by kernel_rfl) (by kernel_rfl) rfl (by kernel_rfl) rfl (fun w_44 hs_45 => ?_)
  refine SL.nil ?_
  refine CW.seq ?_
  refine CW.region ?_
  refine SL.v (iv (uR c.gr)) ?_
  refine SL.v (pv g_1 0) ?_
  refine SL.v (pv g_1 6) ?_
  refine SL.v (pv g_1 11) ?_
  refine SL.store (i := 0) (g := g_1) (off := 11) (v := iv (uR c.gr)) (L' := [(g_1, .cells #[iv ((qStC_0 c).1), iv ((qStC_0 c).2), .int .u8 (c.rend % 32), .bool c.kept, .bool c.wrap, .bool c.origin, iv c.g0, iv c.g1, iv c.g2, iv c.g3, iv (uL c.gl), iv (uR c.gr), iv c.sg, iv ((wholeZ c.pb c.pr).1), iv ((wholeZ c.pb c.pr).2.1), iv ((wholeZ c.pb c.pr).2.2.1), iv ((wholeZ c.pb c.pr).2.2.2), iv ((qStC_1 c).1), iv ((qStC_1 c).2.1), iv ((qStC_1 c).2.2.1), iv ((qStC_1 c).2.2.2), iv c.modes, iv c.level, .bool c.eight, .bool c.stream, iv c.status, .bool c.below, iv c.page, iv c.pages] 33 (0, 0)), (g_4, .cells czD 33 (0, 0)), (g_7, .cells (qStC_2 c) 31 (0, 0)), (g_24, .cells #[iv ((qStC_0 c).1), iv ((qStC_0 c).2)] 37 (0, 0))]) hs_45 rfl rfl rfl (by kernel_rfl) (by kernel_rfl) rfl (by kernel_rfl) (by kernel_rfl) rfl (by kernel_rfl) rfl (fun w_46 hs_47 => ?_)
  refine SL.nil ?_
  refine CW.seq ?_
  refine CW.seq ?_
  refine CW.region ?_
  refine SL.v (pv g_1 0) ?_
  refine SL.v (pv g_1 6) ?_
  refine SL.v (pv g_1 12) ?_
  refine SL.load (g := g_1) (off := 12) (v := iv c.sg) rfl rfl rfl (by kernel_rfl) (hs_47.all 0 g_1 _ rfl) (by kernel_rfl) ?_
  refine SL.v (.bool (!(c.sg == 2))) ?_
  refine SL.v (.bool (!(c.sg == 2))) ?_
  rcases Bool.eq_false_or_eq_true (c.sg == 2) with hb_48 | hb_48
  ·try rw [hb_48]
   refine SL.no false ?_
   refine SL.no false ?_
   refine SL.no false ?_
   refine SL.no false ?_
   refine SL.no false ?_
   refine SL.v (.bool false) ?_
   refine SL.nil ?_
   refine CW.cond_false (by kernel_rfl) ?_
   refine CW.skip ?_
   refine CW.seq ?_
   refine CW.region ?_
   refine SL.v (pv g_1 21) ?_
   refine SL.load (g := g_1) (off := 21) (v := iv c.modes) rfl rfl rfl (by kernel_rfl) (hs_47.all 0 g_1 _ rfl) (by kernel_rfl) ?_
   refine SL.val (v := iv (c.modes % 131072)) (w' := w_46) rfl rfl (run_eqv (by kernel_rfl) (congrArg (Value.int .i64) (Int.tmod_eq_emod_of_nonneg (a := c.modes) (b := 131072) (by omega)))) ?_
   refine SL.v (pv g_1 21) ?_
   refine SL.store (i := 0) (g := g_1) (off := 21) (v := iv (c.modes % 131072)) (L' := [(g_1, .cells #[iv ((qStC_0 c).1), iv ((qStC_0 c).2), .int .u8 (c.rend % 32), .bool c.kept, .bool c.wrap, .bool c.origin, iv c.g0, iv c.g1, iv c.g2, iv c.g3, iv (uL c.gl), iv (uR c.gr), iv c.sg, iv ((wholeZ c.pb c.pr).1), iv ((wholeZ c.pb c.pr).2.1), iv ((wholeZ c.pb c.pr).2.2.1), iv ((wholeZ c.pb c.pr).2.2.2), iv ((qStC_1 c).1), iv ((qStC_1 c).2.1), iv ((qStC_1 c).2.2.1), iv ((qStC_1 c).2.2.2), iv (c.modes % 131072), iv c.level, .bool c.eight, .bool c.stream, iv c.status, .bool c.below, iv c.page, iv c.pages] 33 (0, 0)), (g_4, .cells czD 33 (0, 0)), (g_7, .cells (qStC_2 c) 31 (0, 0)), (g_24, .cells #[iv ((qStC_0 c).1), iv ((qStC_0 c).2)] 37 (0, 0))]) hs_47 rfl rfl rfl (by kernel_rfl) (by kernel_rfl) rfl (by kernel_rfl) (by kernel_rfl) rfl (by kernel_rfl) rfl (fun w_49 hs_50 => ?_)
   refine SL.nil ?_
   refine CW.seq ?_
   refine CW.region ?_
   refine SL.v (pv g_1 22) ?_
   refine SL.load (g := g_1) (off := 22) (v := iv c.level) rfl rfl rfl (by kernel_rfl) (hs_50.all 0 g_1 _ rfl) (by kernel_rfl) ?_
   refine SL.call (f := 45) (args := #[iv c.level, iv 1, iv 5]) (w1 := w_49) rfl rfl (by kernel_rfl) (rclip_any c.level 1 5 w_49 (by omega)) ?_
   rintro x w_51 ⟨rfl, hc_52⟩
   refine ⟨_, rfl, ?_⟩
   have hs_53 := hs_50.grow hc_52
   refine SL.v (pv g_1 22) ?_
   refine SL.store (i := 0) (g := g_1) (off := 22) (v := iv (clipZ c.level 1 5)) (L' := [(g_1, .cells #[iv ((qStC_0 c).1), iv ((qStC_0 c).2), .int .u8 (c.rend % 32), .bool c.kept, .bool c.wrap, .bool c.origin, iv c.g0, iv c.g1, iv c.g2, iv c.g3, iv (uL c.gl), iv (uR c.gr), iv c.sg, iv ((wholeZ c.pb c.pr).1), iv ((wholeZ c.pb c.pr).2.1), iv ((wholeZ c.pb c.pr).2.2.1), iv ((wholeZ c.pb c.pr).2.2.2), iv ((qStC_1 c).1), iv ((qStC_1 c).2.1), iv ((qStC_1 c).2.2.1), iv ((qStC_1 c).2.2.2), iv (c.modes % 131072), iv (clipZ c.level 1 5), .bool c.eight, .bool c.stream, iv c.status, .bool c.below, iv c.page, iv c.pages] 33 (0, 0)), (g_4, .cells czD 33 (0, 0)), (g_7, .cells (qStC_2 c) 31 (0, 0)), (g_24, .cells #[iv ((qStC_0 c).1), iv ((qStC_0 c).2)] 37 (0, 0))]) hs_53 rfl rfl rfl (by kernel_rfl) (by kernel_rfl) rfl (by kernel_rfl) (by kernel_rfl) rfl (by kernel_rfl) rfl (fun w_54 hs_55 => ?_)
   refine SL.nil ?_
   refine CW.seq ?_
   refine CW.region ?_
   refine SL.v (pv g_1 25) ?_
   refine SL.load (g := g_1) (off := 25) (v := iv c.status) rfl rfl rfl (by kernel_rfl) (hs_55.all 0 g_1 _ rfl) (by kernel_rfl) ?_
   refine SL.call (f := 45) (args := #[iv c.status, iv 0, iv 2]) (w1 := w_54) rfl rfl (by kernel_rfl) (rclip_any c.status 0 2 w_54 (by omega)) ?_
   rintro x w_56 ⟨rfl, hc_57⟩
   refine ⟨_, rfl, ?_⟩
   have hs_58 := hs_55.grow hc_57
   refine SL.v (pv g_1 25) ?_
   refine SL.store (i := 0) (g := g_1) (off := 25) (v := iv (clipZ c.status 0 2)) (L' := [(g_1, .cells #[iv ((qStC_0 c).1), iv ((qStC_0 c).2), .int .u8 (c.rend % 32), .bool c.kept, .bool c.wrap, .bool c.origin, iv c.g0, iv c.g1, iv c.g2, iv c.g3, iv (uL c.gl), iv (uR c.gr), iv c.sg, iv ((wholeZ c.pb c.pr).1), iv ((wholeZ c.pb c.pr).2.1), iv ((wholeZ c.pb c.pr).2.2.1), iv ((wholeZ c.pb c.pr).2.2.2), iv ((qStC_1 c).1), iv ((qStC_1 c).2.1), iv ((qStC_1 c).2.2.1), iv ((qStC_1 c).2.2.2), iv (c.modes % 131072), iv (clipZ c.level 1 5), .bool c.eight, .bool c.stream, iv (clipZ c.status 0 2), .bool c.below, iv c.page, iv c.pages] 33 (0, 0)), (g_4, .cells czD 33 (0, 0)), (g_7, .cells (qStC_2 c) 31 (0, 0)), (g_24, .cells #[iv ((qStC_0 c).1), iv ((qStC_0 c).2)] 37 (0, 0))]) hs_58 rfl rfl rfl (by kernel_rfl) (by kernel_rfl) rfl (by kernel_rfl) (by kernel_rfl) rfl (by kernel_rfl) rfl (fun w_59 hs_60 => ?_)
   refine SL.nil ?_
   refine CW.seq ?_
   refine CW.region ?_
   refine SL.v (pv g_1 28) ?_
   refine SL.load (g := g_1) (off := 28) (v := iv c.pages) rfl rfl rfl (by kernel_rfl) (hs_60.all 0 g_1 _ rfl) (by kernel_rfl) ?_
   refine SL.call (f := 45) (args := #[iv c.pages, iv 1, iv 16]) (w1 := w_59) rfl rfl (by kernel_rfl) (rclip_any c.pages 1 16 w_59 (by omega)) ?_
   rintro x w_61 ⟨rfl, hc_62⟩
   refine ⟨_, rfl, ?_⟩
   have hs_63 := hs_60.grow hc_62
   refine SL.v (pv g_1 28) ?_
   refine SL.store (i := 0) (g := g_1) (off := 28) (v := iv (clipZ c.pages 1 16)) (L' := [(g_1, .cells #[iv ((qStC_0 c).1), iv ((qStC_0 c).2), .int .u8 (c.rend % 32), .bool c.kept, .bool c.wrap, .bool c.origin, iv c.g0, iv c.g1, iv c.g2, iv c.g3, iv (uL c.gl), iv (uR c.gr), iv c.sg, iv ((wholeZ c.pb c.pr).1), iv ((wholeZ c.pb c.pr).2.1), iv ((wholeZ c.pb c.pr).2.2.1), iv ((wholeZ c.pb c.pr).2.2.2), iv ((qStC_1 c).1), iv ((qStC_1 c).2.1), iv ((qStC_1 c).2.2.1), iv ((qStC_1 c).2.2.2), iv (c.modes % 131072), iv (clipZ c.level 1 5), .bool c.eight, .bool c.stream, iv (clipZ c.status 0 2), .bool c.below, iv c.page, iv (clipZ c.pages 1 16)] 33 (0, 0)), (g_4, .cells czD 33 (0, 0)), (g_7, .cells (qStC_2 c) 31 (0, 0)), (g_24, .cells #[iv ((qStC_0 c).1), iv ((qStC_0 c).2)] 37 (0, 0))]) hs_63 rfl rfl rfl (by kernel_rfl) (by kernel_rfl) rfl (by kernel_rfl) (by kernel_rfl) rfl (by kernel_rfl) rfl (fun w_64 hs_65 => ?_)
   refine SL.nil ?_
   refine CW.seq ?_
   refine CW.region ?_
   refine SL.v (pv g_1 27) ?_
   refine SL.load (g := g_1) (off := 27) (v := iv c.page) rfl rfl rfl (by kernel_rfl) (hs_65.all 0 g_1 _ rfl) (by kernel_rfl) ?_
   refine SL.v (pv g_1 28) ?_
   refine SL.load (g := g_1) (off := 28) (v := iv (clipZ c.pages 1 16)) rfl rfl rfl (by kernel_rfl) (hs_65.all 0 g_1 _ rfl) (by kernel_rfl) ?_
   refine SL.val (v := iv ((clipZ c.pages 1 16) - 1)) (w' := w_64) rfl rfl (by have hw : IntKind.i64.wrap ((clipZ c.pages 1 16) - 1) = (clipZ c.pages 1 16) - 1 := IntWalk.i64_in _ (by omega); exact run_eqv (by kernel_rfl) (congrArg (fun z => Value.int .i64 z) hw)) ?_
   refine SL.call (f := 45) (args := #[iv c.page, iv 0, iv ((clipZ c.pages 1 16) - 1)]) (w1 := w_64) rfl rfl (by kernel_rfl) (rclip_any c.page 0 ((clipZ c.pages 1 16) - 1) w_64 (by omega)) ?_
   rintro x w_66 ⟨rfl, hc_67⟩
   refine ⟨_, rfl, ?_⟩
   have hs_68 := hs_65.grow hc_67
   refine SL.v (pv g_1 27) ?_
   refine SL.store (i := 0) (g := g_1) (off := 27) (v := iv (clipZ c.page 0 ((clipZ c.pages 1 16) - 1))) (L' := [(g_1, .cells #[iv ((qStC_0 c).1), iv ((qStC_0 c).2), .int .u8 (c.rend % 32), .bool c.kept, .bool c.wrap, .bool c.origin, iv c.g0, iv c.g1, iv c.g2, iv c.g3, iv (uL c.gl), iv (uR c.gr), iv c.sg, iv ((wholeZ c.pb c.pr).1), iv ((wholeZ c.pb c.pr).2.1), iv ((wholeZ c.pb c.pr).2.2.1), iv ((wholeZ c.pb c.pr).2.2.2), iv ((qStC_1 c).1), iv ((qStC_1 c).2.1), iv ((qStC_1 c).2.2.1), iv ((qStC_1 c).2.2.2), iv (c.modes % 131072), iv (clipZ c.level 1 5), .bool c.eight, .bool c.stream, iv (clipZ c.status 0 2), .bool c.below, iv (clipZ c.page 0 ((clipZ c.pages 1 16) - 1)), iv (clipZ c.pages 1 16)] 33 (0, 0)), (g_4, .cells czD 33 (0, 0)), (g_7, .cells (qStC_2 c) 31 (0, 0)), (g_24, .cells #[iv ((qStC_0 c).1), iv ((qStC_0 c).2)] 37 (0, 0))]) hs_68 rfl rfl rfl (by kernel_rfl) (by kernel_rfl) rfl (by kernel_rfl) (by kernel_rfl) rfl (by kernel_rfl) rfl (fun w_69 hs_70 => ?_)
   refine SL.nil ?_
   refine CW.seq ?_
   refine CW.region ?_
   refine SL.load (g := g_1) (off := 0) (v := .agg #[iv ((qStC_0 c).1), iv ((qStC_0 c).2), .int .u8 (c.rend % 32), .bool c.kept, .bool c.wrap, .bool c.origin, iv c.g0, iv c.g1, iv c.g2, iv c.g3, iv (uL c.gl), iv (uR c.gr), iv c.sg, iv ((wholeZ c.pb c.pr).1), iv ((wholeZ c.pb c.pr).2.1), iv ((wholeZ c.pb c.pr).2.2.1), iv ((wholeZ c.pb c.pr).2.2.2), iv ((qStC_1 c).1), iv ((qStC_1 c).2.1), iv ((qStC_1 c).2.2.1), iv ((qStC_1 c).2.2.2), iv (c.modes % 131072), iv (clipZ c.level 1 5), .bool c.eight, .bool c.stream, iv (clipZ c.status 0 2), .bool c.below, iv (clipZ c.page 0 ((clipZ c.pages 1 16) - 1)), iv (clipZ c.pages 1 16)]) rfl rfl rfl (by kernel_rfl) (hs_70.all 0 g_1 _ rfl) (by kernel_rfl) ?_
   refine SL.store (i := 1) (g := g_4) (off := 0) (v := .agg #[iv ((qStC_0 c).1), iv ((qStC_0 c).2), .int .u8 (c.rend % 32), .bool c.kept, .bool c.wrap, .bool c.origin, iv c.g0, iv c.g1, iv c.g2, iv c.g3, iv (uL c.gl), iv (uR c.gr), iv c.sg, iv ((wholeZ c.pb c.pr).1), iv ((wholeZ c.pb c.pr).2.1), iv ((wholeZ c.pb c.pr).2.2.1), iv ((wholeZ c.pb c.pr).2.2.2), iv ((qStC_1 c).1), iv ((qStC_1 c).2.1), iv ((qStC_1 c).2.2.1), iv ((qStC_1 c).2.2.2), iv (c.modes % 131072), iv (clipZ c.level 1 5), .bool c.eight, .bool c.stream, iv (clipZ c.status 0 2), .bool c.below, iv (clipZ c.page 0 ((clipZ c.pages 1 16) - 1)), iv (clipZ c.pages 1 16)]) (L' := [(g_1, .cells #[iv ((qStC_0 c).1), iv ((qStC_0 c).2), .int .u8 (c.rend % 32), .bool c.kept, .bool c.wrap, .bool c.origin, iv c.g0, iv c.g1, iv c.g2, iv c.g3, iv (uL c.gl), iv (uR c.gr), iv c.sg, iv ((wholeZ c.pb c.pr).1), iv ((wholeZ c.pb c.pr).2.1), iv ((wholeZ c.pb c.pr).2.2.1), iv ((wholeZ c.pb c.pr).2.2.2), iv ((qStC_1 c).1), iv ((qStC_1 c).2.1), iv ((qStC_1 c).2.2.1), iv ((qStC_1 c).2.2.2), iv (c.modes % 131072), iv (clipZ c.level 1 5), .bool c.eight, .bool c.stream, iv (clipZ c.status 0 2), .bool c.below, iv (clipZ c.page 0 ((clipZ c.pages 1 16) - 1)), iv (clipZ c.pages 1 16)] 33 (0, 0)), (g_4, .cells #[iv ((qStC_0 c).1), iv ((qStC_0 c).2), .int .u8 (c.rend % 32), .bool c.kept, .bool c.wrap, .bool c.origin, iv c.g0, iv c.g1, iv c.g2, iv c.g3, iv (uL c.gl), iv (uR c.gr), iv c.sg, iv ((wholeZ c.pb c.pr).1), iv ((wholeZ c.pb c.pr).2.1), iv ((wholeZ c.pb c.pr).2.2.1), iv ((wholeZ c.pb c.pr).2.2.2), iv ((qStC_1 c).1), iv ((qStC_1 c).2.1), iv ((qStC_1 c).2.2.1), iv ((qStC_1 c).2.2.2), iv (c.modes % 131072), iv (clipZ c.level 1 5), .bool c.eight, .bool c.stream, iv (clipZ c.status 0 2), .bool c.below, iv (clipZ c.page 0 ((clipZ c.pages 1 16) - 1)), iv (clipZ c.pages 1 16)] 33 (0, 0)), (g_7, .cells (qStC_2 c) 31 (0, 0)), (g_24, .cells #[iv ((qStC_0 c).1), iv ((qStC_0 c).2)] 37 (0, 0))]) hs_70 rfl rfl rfl (by kernel_rfl) (by kernel_rfl) rfl (by kernel_rfl) (by kernel_rfl) rfl (by kernel_rfl) rfl (fun w_71 hs_72 => ?_)
   refine SL.nil ?_
   refine CW.ret ?_
   repeat with_reducible first | refine PThen.ret ?_ | refine PBlock.ret ?_
   refine PRet.cell (t := 2) (ty := 33) (g := g_4) (v := .agg #[iv ((qStC_0 c).1), iv ((qStC_0 c).2), .int .u8 (c.rend % 32), .bool c.kept, .bool c.wrap, .bool c.origin, iv c.g0, iv c.g1, iv c.g2, iv c.g3, iv (uL c.gl), iv (uR c.gr), iv c.sg, iv ((wholeZ c.pb c.pr).1), iv ((wholeZ c.pb c.pr).2.1), iv ((wholeZ c.pb c.pr).2.2.1), iv ((wholeZ c.pb c.pr).2.2.2), iv ((qStC_1 c).1), iv ((qStC_1 c).2.1), iv ((qStC_1 c).2.2.1), iv ((qStC_1 c).2.2.2), iv (c.modes % 131072), iv (clipZ c.level 1 5), .bool c.eight, .bool c.stream, iv (clipZ c.status 0 2), .bool c.below, iv (clipZ c.page 0 ((clipZ c.pages 1 16) - 1)), iv (clipZ c.pages 1 16)]) rfl rfl (by kernel_rfl) (hs_72.all 1 g_4 _ rfl) (by kernel_rfl) ?_
   exact ⟨by simp only [Cor.d, Cor.clean, hb_48, Bool.or_true, Bool.or_false]; rfl, hs_72.gr⟩
  ·try rw [hb_48]
   refine SL.go ?_
   refine SL.v (pv g_1 0) ?_
   refine SL.go ?_
   refine SL.v (pv g_1 6) ?_
   refine SL.go ?_
   refine SL.v (pv g_1 12) ?_
   refine SL.go ?_
   refine SL.load (g := g_1) (off := 12) (v := iv c.sg) rfl rfl rfl (by kernel_rfl) (hs_47.all 0 g_1 _ rfl) (by kernel_rfl) ?_
   refine SL.go ?_
   refine SL.v (.bool (!(c.sg == 3))) ?_
   refine SL.v (.bool (!(c.sg == 3))) ?_
   refine SL.nil ?_
   refine CW.mid (fun e9 w9 => Bk w w9 [(g_1, .cells #[iv ((qStC_0 c).1), iv ((qStC_0 c).2), .int .u8 (c.rend % 32), .bool c.kept, .bool c.wrap, .bool c.origin, iv c.g0, iv c.g1, iv c.g2, iv c.g3, iv (uL c.gl), iv (uR c.gr), iv (bif (c.sg == 3) then c.sg else 0), iv ((wholeZ c.pb c.pr).1), iv ((wholeZ c.pb c.pr).2.1), iv ((wholeZ c.pb c.pr).2.2.1), iv ((wholeZ c.pb c.pr).2.2.2), iv ((qStC_1 c).1), iv ((qStC_1 c).2.1), iv ((qStC_1 c).2.2.1), iv ((qStC_1 c).2.2.2), iv c.modes, iv c.level, .bool c.eight, .bool c.stream, iv c.status, .bool c.below, iv c.page, iv c.pages] 33 (0, 0)), (g_4, .cells czD 33 (0, 0)), (g_7, .cells (qStC_2 c) 31 (0, 0)), (g_24, .cells #[iv ((qStC_0 c).1), iv ((qStC_0 c).2)] 37 (0, 0))] ∧ e9 1 = pv g_1 0 ∧ e9 2 = pv g_4 0) ?_ ?_
   ·skip
    rcases Bool.eq_false_or_eq_true (c.sg == 3) with hb_74 | hb_74
    ·try rw [hb_74]
     refine CW.cond_false (by kernel_rfl) ?_
     refine CW.skip ?_
     exact ⟨hs_47, (by kernel_rfl), (by kernel_rfl)⟩
    ·try rw [hb_74]
     refine CW.cond_true (by kernel_rfl) ?_
     refine CW.region ?_
     refine SL.v (pv g_1 0) ?_
     refine SL.v (pv g_1 6) ?_
     refine SL.v (pv g_1 12) ?_
     refine SL.store (i := 0) (g := g_1) (off := 12) (v := iv 0) (L' := [(g_1, .cells #[iv ((qStC_0 c).1), iv ((qStC_0 c).2), .int .u8 (c.rend % 32), .bool c.kept, .bool c.wrap, .bool c.origin, iv c.g0, iv c.g1, iv c.g2, iv c.g3, iv (uL c.gl), iv (uR c.gr), iv 0, iv ((wholeZ c.pb c.pr).1), iv ((wholeZ c.pb c.pr).2.1), iv ((wholeZ c.pb c.pr).2.2.1), iv ((wholeZ c.pb c.pr).2.2.2), iv ((qStC_1 c).1), iv ((qStC_1 c).2.1), iv ((qStC_1 c).2.2.1), iv ((qStC_1 c).2.2.2), iv c.modes, iv c.level, .bool c.eight, .bool c.stream, iv c.status, .bool c.below, iv c.page, iv c.pages] 33 (0, 0)), (g_4, .cells czD 33 (0, 0)), (g_7, .cells (qStC_2 c) 31 (0, 0)), (g_24, .cells #[iv ((qStC_0 c).1), iv ((qStC_0 c).2)] 37 (0, 0))]) hs_47 rfl rfl rfl (by kernel_rfl) (by kernel_rfl) rfl (by kernel_rfl) (by kernel_rfl) rfl (by kernel_rfl) rfl (fun w_75 hs_76 => ?_)
     refine SL.nil ?_
     exact ⟨hs_76, (by kernel_rfl), (by kernel_rfl)⟩
   ·rintro e_77 w_78 ⟨hs_79, hv_81, hv_82⟩
    obtain ⟨e_80, rfl⟩ : ∃ e_80, e_77 = put1 (put1 e_80 1 (pv g_1 0)) 2 (pv g_4 0) := ⟨e_77, (put_self hv_82).trans (congrArg (fun z => put1 z 2 (pv g_4 0)) (put_self hv_81))⟩
    clear hv_81 hv_82
    refine CW.seq ?_
    refine CW.region ?_
    refine SL.v (pv g_1 21) ?_
    refine SL.load (g := g_1) (off := 21) (v := iv c.modes) rfl rfl rfl (by kernel_rfl) (hs_79.all 0 g_1 _ rfl) (by kernel_rfl) ?_
    refine SL.val (v := iv (c.modes % 131072)) (w' := w_78) rfl rfl (run_eqv (by kernel_rfl) (congrArg (Value.int .i64) (Int.tmod_eq_emod_of_nonneg (a := c.modes) (b := 131072) (by omega)))) ?_
    refine SL.v (pv g_1 21) ?_
    refine SL.store (i := 0) (g := g_1) (off := 21) (v := iv (c.modes % 131072)) (L' := [(g_1, .cells #[iv ((qStC_0 c).1), iv ((qStC_0 c).2), .int .u8 (c.rend % 32), .bool c.kept, .bool c.wrap, .bool c.origin, iv c.g0, iv c.g1, iv c.g2, iv c.g3, iv (uL c.gl), iv (uR c.gr), iv (bif (c.sg == 3) then c.sg else 0), iv ((wholeZ c.pb c.pr).1), iv ((wholeZ c.pb c.pr).2.1), iv ((wholeZ c.pb c.pr).2.2.1), iv ((wholeZ c.pb c.pr).2.2.2), iv ((qStC_1 c).1), iv ((qStC_1 c).2.1), iv ((qStC_1 c).2.2.1), iv ((qStC_1 c).2.2.2), iv (c.modes % 131072), iv c.level, .bool c.eight, .bool c.stream, iv c.status, .bool c.below, iv c.page, iv c.pages] 33 (0, 0)), (g_4, .cells czD 33 (0, 0)), (g_7, .cells (qStC_2 c) 31 (0, 0)), (g_24, .cells #[iv ((qStC_0 c).1), iv ((qStC_0 c).2)] 37 (0, 0))]) hs_79 rfl rfl rfl (by kernel_rfl) (by kernel_rfl) rfl (by kernel_rfl) (by kernel_rfl) rfl (by kernel_rfl) rfl (fun w_83 hs_84 => ?_)
    refine SL.nil ?_
    refine CW.seq ?_
    refine CW.region ?_
    refine SL.v (pv g_1 22) ?_
    refine SL.load (g := g_1) (off := 22) (v := iv c.level) rfl rfl rfl (by kernel_rfl) (hs_84.all 0 g_1 _ rfl) (by kernel_rfl) ?_
    refine SL.call (f := 45) (args := #[iv c.level, iv 1, iv 5]) (w1 := w_83) rfl rfl (by kernel_rfl) (rclip_any c.level 1 5 w_83 (by omega)) ?_
    rintro x w_85 ⟨rfl, hc_86⟩
    refine ⟨_, rfl, ?_⟩
    have hs_87 := hs_84.grow hc_86
    refine SL.v (pv g_1 22) ?_
    refine SL.store (i := 0) (g := g_1) (off := 22) (v := iv (clipZ c.level 1 5)) (L' := [(g_1, .cells #[iv ((qStC_0 c).1), iv ((qStC_0 c).2), .int .u8 (c.rend % 32), .bool c.kept, .bool c.wrap, .bool c.origin, iv c.g0, iv c.g1, iv c.g2, iv c.g3, iv (uL c.gl), iv (uR c.gr), iv (bif (c.sg == 3) then c.sg else 0), iv ((wholeZ c.pb c.pr).1), iv ((wholeZ c.pb c.pr).2.1), iv ((wholeZ c.pb c.pr).2.2.1), iv ((wholeZ c.pb c.pr).2.2.2), iv ((qStC_1 c).1), iv ((qStC_1 c).2.1), iv ((qStC_1 c).2.2.1), iv ((qStC_1 c).2.2.2), iv (c.modes % 131072), iv (clipZ c.level 1 5), .bool c.eight, .bool c.stream, iv c.status, .bool c.below, iv c.page, iv c.pages] 33 (0, 0)), (g_4, .cells czD 33 (0, 0)), (g_7, .cells (qStC_2 c) 31 (0, 0)), (g_24, .cells #[iv ((qStC_0 c).1), iv ((qStC_0 c).2)] 37 (0, 0))]) hs_87 rfl rfl rfl (by kernel_rfl) (by kernel_rfl) rfl (by kernel_rfl) (by kernel_rfl) rfl (by kernel_rfl) rfl (fun w_88 hs_89 => ?_)
    refine SL.nil ?_
    refine CW.seq ?_
    refine CW.region ?_
    refine SL.v (pv g_1 25) ?_
    refine SL.load (g := g_1) (off := 25) (v := iv c.status) rfl rfl rfl (by kernel_rfl) (hs_89.all 0 g_1 _ rfl) (by kernel_rfl) ?_
    refine SL.call (f := 45) (args := #[iv c.status, iv 0, iv 2]) (w1 := w_88) rfl rfl (by kernel_rfl) (rclip_any c.status 0 2 w_88 (by omega)) ?_
    rintro x w_90 ⟨rfl, hc_91⟩
    refine ⟨_, rfl, ?_⟩
    have hs_92 := hs_89.grow hc_91
    refine SL.v (pv g_1 25) ?_
    refine SL.store (i := 0) (g := g_1) (off := 25) (v := iv (clipZ c.status 0 2)) (L' := [(g_1, .cells #[iv ((qStC_0 c).1), iv ((qStC_0 c).2), .int .u8 (c.rend % 32), .bool c.kept, .bool c.wrap, .bool c.origin, iv c.g0, iv c.g1, iv c.g2, iv c.g3, iv (uL c.gl), iv (uR c.gr), iv (bif (c.sg == 3) then c.sg else 0), iv ((wholeZ c.pb c.pr).1), iv ((wholeZ c.pb c.pr).2.1), iv ((wholeZ c.pb c.pr).2.2.1), iv ((wholeZ c.pb c.pr).2.2.2), iv ((qStC_1 c).1), iv ((qStC_1 c).2.1), iv ((qStC_1 c).2.2.1), iv ((qStC_1 c).2.2.2), iv (c.modes % 131072), iv (clipZ c.level 1 5), .bool c.eight, .bool c.stream, iv (clipZ c.status 0 2), .bool c.below, iv c.page, iv c.pages] 33 (0, 0)), (g_4, .cells czD 33 (0, 0)), (g_7, .cells (qStC_2 c) 31 (0, 0)), (g_24, .cells #[iv ((qStC_0 c).1), iv ((qStC_0 c).2)] 37 (0, 0))]) hs_92 rfl rfl rfl (by kernel_rfl) (by kernel_rfl) rfl (by kernel_rfl) (by kernel_rfl) rfl (by kernel_rfl) rfl (fun w_93 hs_94 => ?_)
    refine SL.nil ?_
    refine CW.seq ?_
    refine CW.region ?_
    refine SL.v (pv g_1 28) ?_
    refine SL.load (g := g_1) (off := 28) (v := iv c.pages) rfl rfl rfl (by kernel_rfl) (hs_94.all 0 g_1 _ rfl) (by kernel_rfl) ?_
    refine SL.call (f := 45) (args := #[iv c.pages, iv 1, iv 16]) (w1 := w_93) rfl rfl (by kernel_rfl) (rclip_any c.pages 1 16 w_93 (by omega)) ?_
    rintro x w_95 ⟨rfl, hc_96⟩
    refine ⟨_, rfl, ?_⟩
    have hs_97 := hs_94.grow hc_96
    refine SL.v (pv g_1 28) ?_
    refine SL.store (i := 0) (g := g_1) (off := 28) (v := iv (clipZ c.pages 1 16)) (L' := [(g_1, .cells #[iv ((qStC_0 c).1), iv ((qStC_0 c).2), .int .u8 (c.rend % 32), .bool c.kept, .bool c.wrap, .bool c.origin, iv c.g0, iv c.g1, iv c.g2, iv c.g3, iv (uL c.gl), iv (uR c.gr), iv (bif (c.sg == 3) then c.sg else 0), iv ((wholeZ c.pb c.pr).1), iv ((wholeZ c.pb c.pr).2.1), iv ((wholeZ c.pb c.pr).2.2.1), iv ((wholeZ c.pb c.pr).2.2.2), iv ((qStC_1 c).1), iv ((qStC_1 c).2.1), iv ((qStC_1 c).2.2.1), iv ((qStC_1 c).2.2.2), iv (c.modes % 131072), iv (clipZ c.level 1 5), .bool c.eight, .bool c.stream, iv (clipZ c.status 0 2), .bool c.below, iv c.page, iv (clipZ c.pages 1 16)] 33 (0, 0)), (g_4, .cells czD 33 (0, 0)), (g_7, .cells (qStC_2 c) 31 (0, 0)), (g_24, .cells #[iv ((qStC_0 c).1), iv ((qStC_0 c).2)] 37 (0, 0))]) hs_97 rfl rfl rfl (by kernel_rfl) (by kernel_rfl) rfl (by kernel_rfl) (by kernel_rfl) rfl (by kernel_rfl) rfl (fun w_98 hs_99 => ?_)
    refine SL.nil ?_
    refine CW.seq ?_
    refine CW.region ?_
    refine SL.v (pv g_1 27) ?_
    refine SL.load (g := g_1) (off := 27) (v := iv c.page) rfl rfl rfl (by kernel_rfl) (hs_99.all 0 g_1 _ rfl) (by kernel_rfl) ?_
    refine SL.v (pv g_1 28) ?_
    refine SL.load (g := g_1) (off := 28) (v := iv (clipZ c.pages 1 16)) rfl rfl rfl (by kernel_rfl) (hs_99.all 0 g_1 _ rfl) (by kernel_rfl) ?_
    refine SL.val (v := iv ((clipZ c.pages 1 16) - 1)) (w' := w_98) rfl rfl (by have hw : IntKind.i64.wrap ((clipZ c.pages 1 16) - 1) = (clipZ c.pages 1 16) - 1 := IntWalk.i64_in _ (by omega); exact run_eqv (by kernel_rfl) (congrArg (fun z => Value.int .i64 z) hw)) ?_
    refine SL.call (f := 45) (args := #[iv c.page, iv 0, iv ((clipZ c.pages 1 16) - 1)]) (w1 := w_98) rfl rfl (by kernel_rfl) (rclip_any c.page 0 ((clipZ c.pages 1 16) - 1) w_98 (by omega)) ?_
    rintro x w_100 ⟨rfl, hc_101⟩
    refine ⟨_, rfl, ?_⟩
    have hs_102 := hs_99.grow hc_101
    refine SL.v (pv g_1 27) ?_
    refine SL.store (i := 0) (g := g_1) (off := 27) (v := iv (clipZ c.page 0 ((clipZ c.pages 1 16) - 1))) (L' := [(g_1, .cells #[iv ((qStC_0 c).1), iv ((qStC_0 c).2), .int .u8 (c.rend % 32), .bool c.kept, .bool c.wrap, .bool c.origin, iv c.g0, iv c.g1, iv c.g2, iv c.g3, iv (uL c.gl), iv (uR c.gr), iv (bif (c.sg == 3) then c.sg else 0), iv ((wholeZ c.pb c.pr).1), iv ((wholeZ c.pb c.pr).2.1), iv ((wholeZ c.pb c.pr).2.2.1), iv ((wholeZ c.pb c.pr).2.2.2), iv ((qStC_1 c).1), iv ((qStC_1 c).2.1), iv ((qStC_1 c).2.2.1), iv ((qStC_1 c).2.2.2), iv (c.modes % 131072), iv (clipZ c.level 1 5), .bool c.eight, .bool c.stream, iv (clipZ c.status 0 2), .bool c.below, iv (clipZ c.page 0 ((clipZ c.pages 1 16) - 1)), iv (clipZ c.pages 1 16)] 33 (0, 0)), (g_4, .cells czD 33 (0, 0)), (g_7, .cells (qStC_2 c) 31 (0, 0)), (g_24, .cells #[iv ((qStC_0 c).1), iv ((qStC_0 c).2)] 37 (0, 0))]) hs_102 rfl rfl rfl (by kernel_rfl) (by kernel_rfl) rfl (by kernel_rfl) (by kernel_rfl) rfl (by kernel_rfl) rfl (fun w_103 hs_104 => ?_)
    refine SL.nil ?_
    refine CW.seq ?_
    refine CW.region ?_
    refine SL.load (g := g_1) (off := 0) (v := .agg #[iv ((qStC_0 c).1), iv ((qStC_0 c).2), .int .u8 (c.rend % 32), .bool c.kept, .bool c.wrap, .bool c.origin, iv c.g0, iv c.g1, iv c.g2, iv c.g3, iv (uL c.gl), iv (uR c.gr), iv (bif (c.sg == 3) then c.sg else 0), iv ((wholeZ c.pb c.pr).1), iv ((wholeZ c.pb c.pr).2.1), iv ((wholeZ c.pb c.pr).2.2.1), iv ((wholeZ c.pb c.pr).2.2.2), iv ((qStC_1 c).1), iv ((qStC_1 c).2.1), iv ((qStC_1 c).2.2.1), iv ((qStC_1 c).2.2.2), iv (c.modes % 131072), iv (clipZ c.level 1 5), .bool c.eight, .bool c.stream, iv (clipZ c.status 0 2), .bool c.below, iv (clipZ c.page 0 ((clipZ c.pages 1 16) - 1)), iv (clipZ c.pages 1 16)]) rfl rfl rfl (by kernel_rfl) (hs_104.all 0 g_1 _ rfl) (by kernel_rfl) ?_
    refine SL.store (i := 1) (g := g_4) (off := 0) (v := .agg #[iv ((qStC_0 c).1), iv ((qStC_0 c).2), .int .u8 (c.rend % 32), .bool c.kept, .bool c.wrap, .bool c.origin, iv c.g0, iv c.g1, iv c.g2, iv c.g3, iv (uL c.gl), iv (uR c.gr), iv (bif (c.sg == 3) then c.sg else 0), iv ((wholeZ c.pb c.pr).1), iv ((wholeZ c.pb c.pr).2.1), iv ((wholeZ c.pb c.pr).2.2.1), iv ((wholeZ c.pb c.pr).2.2.2), iv ((qStC_1 c).1), iv ((qStC_1 c).2.1), iv ((qStC_1 c).2.2.1), iv ((qStC_1 c).2.2.2), iv (c.modes % 131072), iv (clipZ c.level 1 5), .bool c.eight, .bool c.stream, iv (clipZ c.status 0 2), .bool c.below, iv (clipZ c.page 0 ((clipZ c.pages 1 16) - 1)), iv (clipZ c.pages 1 16)]) (L' := [(g_1, .cells #[iv ((qStC_0 c).1), iv ((qStC_0 c).2), .int .u8 (c.rend % 32), .bool c.kept, .bool c.wrap, .bool c.origin, iv c.g0, iv c.g1, iv c.g2, iv c.g3, iv (uL c.gl), iv (uR c.gr), iv (bif (c.sg == 3) then c.sg else 0), iv ((wholeZ c.pb c.pr).1), iv ((wholeZ c.pb c.pr).2.1), iv ((wholeZ c.pb c.pr).2.2.1), iv ((wholeZ c.pb c.pr).2.2.2), iv ((qStC_1 c).1), iv ((qStC_1 c).2.1), iv ((qStC_1 c).2.2.1), iv ((qStC_1 c).2.2.2), iv (c.modes % 131072), iv (clipZ c.level 1 5), .bool c.eight, .bool c.stream, iv (clipZ c.status 0 2), .bool c.below, iv (clipZ c.page 0 ((clipZ c.pages 1 16) - 1)), iv (clipZ c.pages 1 16)] 33 (0, 0)), (g_4, .cells #[iv ((qStC_0 c).1), iv ((qStC_0 c).2), .int .u8 (c.rend % 32), .bool c.kept, .bool c.wrap, .bool c.origin, iv c.g0, iv c.g1, iv c.g2, iv c.g3, iv (uL c.gl), iv (uR c.gr), iv (bif (c.sg == 3) then c.sg else 0), iv ((wholeZ c.pb c.pr).1), iv ((wholeZ c.pb c.pr).2.1), iv ((wholeZ c.pb c.pr).2.2.1), iv ((wholeZ c.pb c.pr).2.2.2), iv ((qStC_1 c).1), iv ((qStC_1 c).2.1), iv ((qStC_1 c).2.2.1), iv ((qStC_1 c).2.2.2), iv (c.modes % 131072), iv (clipZ c.level 1 5), .bool c.eight, .bool c.stream, iv (clipZ c.status 0 2), .bool c.below, iv (clipZ c.page 0 ((clipZ c.pages 1 16) - 1)), iv (clipZ c.pages 1 16)] 33 (0, 0)), (g_7, .cells (qStC_2 c) 31 (0, 0)), (g_24, .cells #[iv ((qStC_0 c).1), iv ((qStC_0 c).2)] 37 (0, 0))]) hs_104 rfl rfl rfl (by kernel_rfl) (by kernel_rfl) rfl (by kernel_rfl) (by kernel_rfl) rfl (by kernel_rfl) rfl (fun w_105 hs_106 => ?_)
    refine SL.nil ?_
    refine CW.ret ?_
    repeat with_reducible first | refine PThen.ret ?_ | refine PBlock.ret ?_
    refine PRet.cell (t := 2) (ty := 33) (g := g_4) (v := .agg #[iv ((qStC_0 c).1), iv ((qStC_0 c).2), .int .u8 (c.rend % 32), .bool c.kept, .bool c.wrap, .bool c.origin, iv c.g0, iv c.g1, iv c.g2, iv c.g3, iv (uL c.gl), iv (uR c.gr), iv (bif (c.sg == 3) then c.sg else 0), iv ((wholeZ c.pb c.pr).1), iv ((wholeZ c.pb c.pr).2.1), iv ((wholeZ c.pb c.pr).2.2.1), iv ((wholeZ c.pb c.pr).2.2.2), iv ((qStC_1 c).1), iv ((qStC_1 c).2.1), iv ((qStC_1 c).2.2.1), iv ((qStC_1 c).2.2.2), iv (c.modes % 131072), iv (clipZ c.level 1 5), .bool c.eight, .bool c.stream, iv (clipZ c.status 0 2), .bool c.below, iv (clipZ c.page 0 ((clipZ c.pages 1 16) - 1)), iv (clipZ c.pages 1 16)]) rfl rfl (by kernel_rfl) (hs_106.all 1 g_4 _ rfl) (by kernel_rfl) ?_
    exact ⟨by simp only [Cor.d, Cor.clean, hb_48, Bool.or_true, Bool.or_false]; rfl, hs_106.gr⟩
end Go.Proofs.YtfkecgkfcldffaaGreatDoor
