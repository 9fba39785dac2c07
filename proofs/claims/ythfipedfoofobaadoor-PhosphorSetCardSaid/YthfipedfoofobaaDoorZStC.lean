/-
  What a state counts as, in both texts, walked (gen_stc.py).
-/
import Derived.Test.YthfipedfoofobaaDoorZIsD
import Derived.Test.YthfipedfoofobaaDoorZStB
namespace Go.Proofs.YthfipedfoofobaaDoor
set_option linter.unusedSimpArgs false
set_option linter.unusedVariables false
open Go.RowKit
set_option linter.unusedVariables false

/-- What a state counts as. -/
def Cor.clean (c : Cor) : Cor :=
  { c with
    pt := (wholeZ c.pb c.pr).1, pl := (wholeZ c.pb c.pr).2.1, pb := (wholeZ c.pb c.pr).2.2.1, pr := (wholeZ c.pb c.pr).2.2.2
    mt := (innerZ c.pb c.pr c.mt c.ml c.mb c.mr).1, ml := (innerZ c.pb c.pr c.mt c.ml c.mb c.mr).2.1, mb := (innerZ c.pb c.pr c.mt c.ml c.mb c.mr).2.2.1, mr := (innerZ c.pb c.pr c.mt c.ml c.mb c.mr).2.2.2
    row := (clampZ 0 0 (wholeZ c.pb c.pr).2.2.1 (wholeZ c.pb c.pr).2.2.2 c.row c.col).1, col := (clampZ 0 0 (wholeZ c.pb c.pr).2.2.1 (wholeZ c.pb c.pr).2.2.2 c.row c.col).2
    rend := c.rend % 32, gl := uL c.gl, gr := uR c.gr, sg := bif (c.sg == 3 || c.sg == 2) then c.sg else 0
    modes := c.modes % 131072, level := clipZ c.level 1 5, status := clipZ c.status 0 2, pages := clipZ c.pages 1 16, page := clipZ c.page 0 (clipZ c.pages 1 16 - 1) }
theorem apply32 (r : Int) (g : Nat) (w : World) (hb : w.heap[g]? = some (.cells #[.int .i64 (-1)] 3 (0, 0))) (hr : 0 ≤ r ∧ r < 256) : Calls Tryd.prog 22 #[.int .u8 r, .slice (some ⟨g, 0, none⟩) 1 1] w fun e w' => e = .returned (.int .u8 (r % 32)) ∧ Gr w w' := by
  have := apply_m1 r g w hb
  rw [rend_m1 hr.1 hr.2] at this
  exact this
theorem clear17 (m : Int) (w : World) (hm : 0 ≤ m ∧ m < 4294967296) : Calls Tryd.prog 24 #[.int .u32 m] w fun e w' => e = .returned (.int .u32 (m % 131072)) ∧ Gr w w' := by
  have := mclear_any m w
  rw [mclear m hm.1 hm.2] at this
  exact this
theorem whole_in {b r : Int} (hb : I6 b) (hr : I6 r) : I6 (wholeZ b r).1 ∧ I6 (wholeZ b r).2.1 ∧ I6 (wholeZ b r).2.2.1 ∧ I6 (wholeZ b r).2.2.2 := by
  unfold wholeZ I6 at *
  simp only
  omega
abbrev qStC_0 (c : Cor) : Int × Int := (clampZ ((wholeZ c.pb c.pr).1) ((wholeZ c.pb c.pr).2.1) ((wholeZ c.pb c.pr).2.2.1) ((wholeZ c.pb c.pr).2.2.2) c.row c.col)
abbrev qStC_1 (c : Cor) : Int × Int × Int × Int := (innerZ c.pb c.pr c.mt c.ml c.mb c.mr)
abbrev qStC_2 (c : Cor) : Array Value := #[.int .i64 c.pt, .int .i64 c.pl, .int .i64 c.pb, .int .i64 c.pr, .int .i64 c.mt, .int .i64 c.ml, .int .i64 c.mb, .int .i64 c.mr]
abbrev qStC_3 (c : Cor) : Array Value := #[.int .i64 ((wholeZ c.pb c.pr).1), .int .i64 ((wholeZ c.pb c.pr).2.1), .int .i64 ((wholeZ c.pb c.pr).2.2.1), .int .i64 ((wholeZ c.pb c.pr).2.2.2)]
set_option maxRecDepth 100000 in
set_option maxHeartbeats 4000000 in
theorem clean_any (c : Cor) (w : World) (hc : c.Ok) : Calls Tryd.prog 11 #[.agg (cvA c)] w fun e w' => e = .returned (c.clean.v) ∧ Gr w w' := by
  have hwh := whole_in hc.p.2.2.1 hc.p.2.2.2
  have hrend := hc.rend
  have hmodes := hc.modes
  have hpg : 1 ≤ clipZ c.pages 1 16 ∧ clipZ c.pages 1 16 ≤ 16 := by unfold clipZ; omega
  refine calls_sx (n := 84) (args := [.agg (cvA c)]) Tryd.func11 rfl rfl rfl ?_
  have hs0 := Bk.init w
  refine CW.seq ?_
  refine CW.region ?_
  refine SL.new (mk := fun g => .pointer (some ⟨g, 0, none⟩)) (C := (cvA c)) (T := 43) hs0 rfl rfl (by kernel_rfl) (fun g_1 w_2 hs_3 => ?_)
  have hs_3 : Bk w w_2 [(g_1, .cells (cvA c) 43 (0, 0))] := hs_3
  refine SL.new (mk := fun g => .pointer (some ⟨g, 0, none⟩)) (C := czA) (T := 43) hs_3 rfl rfl (by kernel_rfl) (fun g_4 w_5 hs_6 => ?_)
  have hs_6 : Bk w w_5 [(g_1, .cells (cvA c) 43 (0, 0)), (g_4, .cells czA 43 (0, 0))] := hs_6
  refine SL.nil ?_
  refine CW.seq ?_
  have HGR : GrL [fun v _ => v = .pointer (some ⟨g_1, 13, none⟩), fun v _ => v = .agg (qStC_2 c), fun v _ => v = .agg (qStC_3 c), fun v _ => v = .pointer (some ⟨g_1, 13, none⟩), fun v _ => v = .agg (qStC_2 c)] := ⟨fun _ _ _ _ h => h, ⟨fun _ _ _ _ h => h, ⟨fun _ _ _ _ h => h, ⟨fun _ _ _ _ h => h, ⟨fun _ _ _ _ h => h, trivial⟩⟩⟩⟩⟩
  refine CW.draw 5 (FW [fun v _ => v = .pointer (some ⟨g_1, 13, none⟩), fun v _ => v = .agg (qStC_2 c), fun v _ => v = .agg (qStC_3 c), fun v _ => v = .pointer (some ⟨g_1, 13, none⟩), fun v _ => v = .agg (qStC_2 c)]) (fun W => Bk w W [(g_1, .cells (cvA c) 43 (0, 0)), (g_4, .cells czA 43 (0, 0))] ∧ Gr w_5 W) (by kernel_rfl) (by kernel_rfl) (by kernel_rfl) (by kernel_rfl) (by kernel_rfl) ⟨hs_6.drew, (Gr.refl _).drew⟩ ?_ ?_
  · refine ⟨?_, ⟨?_, ⟨?_, ⟨?_, ⟨?_, trivial⟩⟩⟩⟩⟩
    · intro L ys W hB hF hP K hK
      show OpE _ _ _ W K
      exact OpE.val (.pointer (some ⟨g_1, 13, none⟩)) W (by kernel_rfl) (hK _ W hB rfl (fun _ _ h => h))
    · intro L ys W hB hF hP K hK
      show OpE _ _ _ W K
      exact OpE.known (j := 0) (v := .pointer (some ⟨g_1, 13, none⟩)) (hF 0 (hP.1 rfl)) (OpE.load (g := g_1) (off := 13) (v := .agg (qStC_2 c)) rfl (by kernel_rfl) (hB.1.all 0 g_1 _ rfl) (by kernel_rfl) (hK _ W hB rfl (fun _ _ h => h)))
    · intro L ys W hB hF hP K hK
      show OpE _ _ _ W K
      exact OpE.known (j := 1) (v := .agg (qStC_2 c)) (hF 1 (hP.1 rfl)) (OpE.call 19 #[.agg (qStC_2 c)] W _ (by kernel_rfl) (fwhole_any c.pt c.pl c.pb c.pr c.mt c.ml c.mb c.mr W) (fun x w' hx => by obtain ⟨rfl, hg⟩ := hx; exact ⟨_, rfl, hK _ w' ⟨hB.1.grow hg, hB.2.trans hg⟩ rfl (fun _ _ h => FW.gr HGR hg h)⟩))
    · intro L ys W hB hF hP K hK
      show OpE _ _ _ W K
      exact OpE.val (.pointer (some ⟨g_1, 13, none⟩)) W (by kernel_rfl) (hK _ W hB rfl (fun _ _ h => h))
    · intro L ys W hB hF hP K hK
      show OpE _ _ _ W K
      exact OpE.known (j := 3) (v := .pointer (some ⟨g_1, 13, none⟩)) (hF 3 (hP.1 rfl)) (OpE.load (g := g_1) (off := 13) (v := .agg (qStC_2 c)) rfl (by kernel_rfl) (hB.1.all 0 g_1 _ rfl) (by kernel_rfl) (hK _ W hB rfl (fun _ _ h => h)))
  · intro ys_10 w_7 hs_8 hF_9
    have hs_8 : Bk w w_7 [(g_1, .cells (cvA c) 43 (0, 0)), (g_4, .cells czA 43 (0, 0))] := hs_8.1
    refine SL.knownY (j := 2) (v := .agg (qStC_3 c)) (show ys_10 2 = .agg (qStC_3 c) from hF_9 2 (by decide)) (SL.knownY (j := 4) (v := .agg (qStC_2 c)) (show ys_10 4 = .agg (qStC_2 c) from hF_9 4 (by decide)) (?_))
    clear hF_9 HGR
    refine SL.call (f := 20) (args := #[.agg (qStC_2 c)]) (w1 := w_7) rfl rfl (by kernel_rfl) (finner_any c.pt c.pl c.pb c.pr c.mt c.ml c.mb c.mr w_7) ?_
    rintro x w_11 ⟨rfl, hc_12⟩
    refine ⟨.agg #[.int .i64 ((qStC_1 c).1), .int .i64 ((qStC_1 c).2.1), .int .i64 ((qStC_1 c).2.2.1), .int .i64 ((qStC_1 c).2.2.2)], rfl, ?_⟩
    have hs_13 := hs_8.grow hc_12
    refine SL.v (.agg #[.int .i64 ((wholeZ c.pb c.pr).1), .int .i64 ((wholeZ c.pb c.pr).2.1), .int .i64 ((wholeZ c.pb c.pr).2.2.1), .int .i64 ((wholeZ c.pb c.pr).2.2.2), .int .i64 ((qStC_1 c).1), .int .i64 ((qStC_1 c).2.1), .int .i64 ((qStC_1 c).2.2.1), .int .i64 ((qStC_1 c).2.2.2)]) ?_
    refine SL.v (.pointer (some ⟨g_1, 13, none⟩)) ?_
    refine SL.store (i := 0) (g := g_1) (off := 13) (v := .agg #[.int .i64 ((wholeZ c.pb c.pr).1), .int .i64 ((wholeZ c.pb c.pr).2.1), .int .i64 ((wholeZ c.pb c.pr).2.2.1), .int .i64 ((wholeZ c.pb c.pr).2.2.2), .int .i64 ((qStC_1 c).1), .int .i64 ((qStC_1 c).2.1), .int .i64 ((qStC_1 c).2.2.1), .int .i64 ((qStC_1 c).2.2.2)]) (L' := [(g_1, .cells #[.int .i64 c.row, .int .i64 c.col, .int .u8 c.rend, .bool c.kept, .bool c.wrap, .bool c.origin, .int .i64 c.g0, .int .i64 c.g1, .int .i64 c.g2, .int .i64 c.g3, .int .i64 c.gl, .int .i64 c.gr, .int .i64 c.sg, .int .i64 ((wholeZ c.pb c.pr).1), .int .i64 ((wholeZ c.pb c.pr).2.1), .int .i64 ((wholeZ c.pb c.pr).2.2.1), .int .i64 ((wholeZ c.pb c.pr).2.2.2), .int .i64 ((qStC_1 c).1), .int .i64 ((qStC_1 c).2.1), .int .i64 ((qStC_1 c).2.2.1), .int .i64 ((qStC_1 c).2.2.2), .int .u32 c.modes, .int .i64 c.level, .bool c.eight, .bool c.stream, .int .i64 c.status, .bool c.below, .int .i64 c.page, .int .i64 c.pages] 43 (0, 0)), (g_4, .cells czA 43 (0, 0))]) hs_13 rfl rfl rfl (by kernel_rfl) (by kernel_rfl) rfl (by kernel_rfl) (by kernel_rfl) rfl (by kernel_rfl) rfl (fun w_14 hs_15 => ?_)
    refine SL.nil ?_
    refine CW.seq ?_
    refine CW.region ?_
    refine SL.v (.pointer (some ⟨g_1, 13, none⟩)) ?_
    refine SL.v (.pointer (some ⟨g_1, 13, none⟩)) ?_
    refine SL.load (g := g_1) (off := 13) (v := .agg (qStC_3 c)) rfl rfl rfl (by kernel_rfl) (hs_15.all 0 g_1 _ rfl) (by kernel_rfl) ?_
    refine SL.v (.pointer (some ⟨g_1, 0, none⟩)) ?_
    refine SL.v (.pointer (some ⟨g_1, 0, none⟩)) ?_
    refine SL.load (g := g_1) (off := 0) (v := .agg #[.int .i64 c.row, .int .i64 c.col]) rfl rfl rfl (by kernel_rfl) (hs_15.all 0 g_1 _ rfl) (by kernel_rfl) ?_
    refine SL.call (f := 21) (args := #[.agg (qStC_3 c), .agg #[.int .i64 c.row, .int .i64 c.col]]) (w1 := w_14) rfl rfl (by kernel_rfl) (clamp_any ((wholeZ c.pb c.pr).1) ((wholeZ c.pb c.pr).2.1) ((wholeZ c.pb c.pr).2.2.1) ((wholeZ c.pb c.pr).2.2.2) c.row c.col w_14 hwh) ?_
    rintro x w_16 ⟨rfl, hc_17⟩
    refine ⟨.agg #[.int .i64 ((qStC_0 c).1), .int .i64 ((qStC_0 c).2)], rfl, ?_⟩
    have hs_18 := hs_15.grow hc_17
    refine SL.v (.pointer (some ⟨g_1, 0, none⟩)) ?_
    refine SL.v (.pointer (some ⟨g_1, 0, none⟩)) ?_
    refine SL.store (i := 0) (g := g_1) (off := 0) (v := .agg #[.int .i64 ((qStC_0 c).1), .int .i64 ((qStC_0 c).2)]) (L' := [(g_1, .cells #[.int .i64 ((qStC_0 c).1), .int .i64 ((qStC_0 c).2), .int .u8 c.rend, .bool c.kept, .bool c.wrap, .bool c.origin, .int .i64 c.g0, .int .i64 c.g1, .int .i64 c.g2, .int .i64 c.g3, .int .i64 c.gl, .int .i64 c.gr, .int .i64 c.sg, .int .i64 ((wholeZ c.pb c.pr).1), .int .i64 ((wholeZ c.pb c.pr).2.1), .int .i64 ((wholeZ c.pb c.pr).2.2.1), .int .i64 ((wholeZ c.pb c.pr).2.2.2), .int .i64 ((qStC_1 c).1), .int .i64 ((qStC_1 c).2.1), .int .i64 ((qStC_1 c).2.2.1), .int .i64 ((qStC_1 c).2.2.2), .int .u32 c.modes, .int .i64 c.level, .bool c.eight, .bool c.stream, .int .i64 c.status, .bool c.below, .int .i64 c.page, .int .i64 c.pages] 43 (0, 0)), (g_4, .cells czA 43 (0, 0))]) hs_18 rfl rfl rfl (by kernel_rfl) (by kernel_rfl) rfl (by kernel_rfl) (by kernel_rfl) rfl (by kernel_rfl) rfl (fun w_19 hs_20 => ?_)
    refine SL.nil ?_
    refine CW.seq ?_
    refine CW.region ?_
    refine SL.v (.pointer (some ⟨g_1, 0, none⟩)) ?_
    refine SL.v (.pointer (some ⟨g_1, 2, none⟩)) ?_
    refine SL.load (g := g_1) (off := 2) (v := .int .u8 c.rend) rfl rfl rfl (by kernel_rfl) (hs_20.all 0 g_1 _ rfl) (by kernel_rfl) ?_
    refine SL.new (mk := fun g => .slice (some ⟨g, 0, none⟩) 1 1) (C := #[.int .i64 (-1)]) (T := 3) hs_20 rfl rfl (by kernel_rfl) (fun g_21 w_22 hs_23 => ?_)
    have hs_23 : Bk w w_22 [(g_1, .cells #[.int .i64 ((qStC_0 c).1), .int .i64 ((qStC_0 c).2), .int .u8 c.rend, .bool c.kept, .bool c.wrap, .bool c.origin, .int .i64 c.g0, .int .i64 c.g1, .int .i64 c.g2, .int .i64 c.g3, .int .i64 c.gl, .int .i64 c.gr, .int .i64 c.sg, .int .i64 ((wholeZ c.pb c.pr).1), .int .i64 ((wholeZ c.pb c.pr).2.1), .int .i64 ((wholeZ c.pb c.pr).2.2.1), .int .i64 ((wholeZ c.pb c.pr).2.2.2), .int .i64 ((qStC_1 c).1), .int .i64 ((qStC_1 c).2.1), .int .i64 ((qStC_1 c).2.2.1), .int .i64 ((qStC_1 c).2.2.2), .int .u32 c.modes, .int .i64 c.level, .bool c.eight, .bool c.stream, .int .i64 c.status, .bool c.below, .int .i64 c.page, .int .i64 c.pages] 43 (0, 0)), (g_4, .cells czA 43 (0, 0)), (g_21, .cells #[.int .i64 (-1)] 3 (0, 0))] := hs_23
    refine SL.call (f := 22) (args := #[.int .u8 c.rend, .slice (some ⟨g_21, 0, none⟩) 1 1]) (w1 := w_22) rfl rfl (by kernel_rfl) ((apply32 c.rend _ w_22 (hs_23.all 2 g_21 _ rfl) hrend)) ?_
    rintro x w_24 ⟨rfl, hc_25⟩
    refine ⟨.int .u8 (c.rend % 32), rfl, ?_⟩
    have hs_26 := hs_23.grow hc_25
    refine SL.v (.pointer (some ⟨g_1, 0, none⟩)) ?_
    refine SL.v (.pointer (some ⟨g_1, 2, none⟩)) ?_
    refine SL.store (i := 0) (g := g_1) (off := 2) (v := .int .u8 (c.rend % 32)) (L' := [(g_1, .cells #[.int .i64 ((qStC_0 c).1), .int .i64 ((qStC_0 c).2), .int .u8 (c.rend % 32), .bool c.kept, .bool c.wrap, .bool c.origin, .int .i64 c.g0, .int .i64 c.g1, .int .i64 c.g2, .int .i64 c.g3, .int .i64 c.gl, .int .i64 c.gr, .int .i64 c.sg, .int .i64 ((wholeZ c.pb c.pr).1), .int .i64 ((wholeZ c.pb c.pr).2.1), .int .i64 ((wholeZ c.pb c.pr).2.2.1), .int .i64 ((wholeZ c.pb c.pr).2.2.2), .int .i64 ((qStC_1 c).1), .int .i64 ((qStC_1 c).2.1), .int .i64 ((qStC_1 c).2.2.1), .int .i64 ((qStC_1 c).2.2.2), .int .u32 c.modes, .int .i64 c.level, .bool c.eight, .bool c.stream, .int .i64 c.status, .bool c.below, .int .i64 c.page, .int .i64 c.pages] 43 (0, 0)), (g_4, .cells czA 43 (0, 0)), (g_21, .cells #[.int .i64 (-1)] 3 (0, 0))]) hs_26 rfl rfl rfl (by kernel_rfl) (by kernel_rfl) rfl (by kernel_rfl) (by kernel_rfl) rfl (by kernel_rfl) rfl (fun w_27 hs_28 => ?_)
    refine SL.nil ?_
    refine CW.seq ?_
    refine CW.region ?_
    refine SL.v (.pointer (some ⟨g_1, 0, none⟩)) ?_
    refine SL.v (.pointer (some ⟨g_1, 6, none⟩)) ?_
    refine SL.v (.pointer (some ⟨g_1, 6, none⟩)) ?_
    refine SL.nil ?_
    refine CW.seq ?_
    refine CW.region ?_
    refine SL.v (.pointer (some ⟨g_1, 6, none⟩)) ?_
    refine SL.v (.pointer (some ⟨g_1, 6, none⟩)) ?_
    refine SL.v (.pointer (some ⟨g_1, 6, none⟩)) ?_
    refine SL.v (.pointer (some ⟨g_1, 6, none⟩)) ?_
    refine SL.load (g := g_1) (off := 6) (v := .agg #[.int .i64 c.g0, .int .i64 c.g1, .int .i64 c.g2, .int .i64 c.g3, .int .i64 c.gl, .int .i64 c.gr, .int .i64 c.sg]) rfl rfl rfl (by kernel_rfl) (hs_28.all 0 g_1 _ rfl) (by kernel_rfl) ?_
    refine SL.call (f := 23) (args := #[.agg #[.int .i64 c.g0, .int .i64 c.g1, .int .i64 c.g2, .int .i64 c.g3, .int .i64 c.gl, .int .i64 c.gr, .int .i64 c.sg]]) (w1 := w_27) rfl rfl (by kernel_rfl) (report_any c.g0 c.g1 c.g2 c.g3 c.gl c.gr c.sg w_27) ?_
    rintro x w_29 ⟨rfl, hc_30⟩
    refine ⟨.tuple #[.int .i64 (uL c.gl), .int .i64 (uR c.gr), .int .u8 (repSize (gNo c.g0 c.g1 c.g2 c.g3) 4), .string ⟨(repIds (gNo c.g0 c.g1 c.g2 c.g3) 4).toArray⟩], rfl, ?_⟩
    have hs_31 := hs_28.grow hc_30
    refine SL.v (.tuple #[.int .i64 (uL c.gl), .int .i64 (uR c.gr), .int .u8 (repSize (gNo c.g0 c.g1 c.g2 c.g3) 4), .string ⟨(repIds (gNo c.g0 c.g1 c.g2 c.g3) 4).toArray⟩]) ?_
    refine SL.v (.int .i64 (uL c.gl)) ?_
    refine SL.v (.int .i64 (uR c.gr)) ?_
    refine SL.v (.int .u8 (repSize (gNo c.g0 c.g1 c.g2 c.g3) 4)) ?_
    refine SL.v (.string ⟨(repIds (gNo c.g0 c.g1 c.g2 c.g3) 4).toArray⟩) ?_
    refine SL.v (.pointer (some ⟨g_1, 6, none⟩)) ?_
    refine SL.v (.pointer (some ⟨g_1, 10, none⟩)) ?_
    refine SL.store (i := 0) (g := g_1) (off := 10) (v := .int .i64 (uL c.gl)) (L' := [(g_1, .cells #[.int .i64 ((qStC_0 c).1), .int .i64 ((qStC_0 c).2), .int .u8 (c.rend % 32), .bool c.kept, .bool c.wrap, .bool c.origin, .int .i64 c.g0, .int .i64 c.g1, .int .i64 c.g2, .int .i64 c.g3, .int .i64 (uL c.gl), .int .i64 c.gr, .int .i64 c.sg, .int .i64 ((wholeZ c.pb c.pr).1), .int .i64 ((wholeZ c.pb c.pr).2.1), .int .i64 ((wholeZ c.pb c.pr).2.2.1), .int .i64 ((wholeZ c.pb c.pr).2.2.2), .int .i64 ((qStC_1 c).1), .int .i64 ((qStC_1 c).2.1), .int .i64 ((qStC_1 c).2.2.1), .int .i64 ((qStC_1 c).2.2.2), .int .u32 c.modes, .int .i64 c.level, .bool c.eight, .bool c.stream, .int .i64 c.status, .bool c.below, .int .i64 c.page, .int .i64 c.pages] 43 (0, 0)), (g_4, .cells czA 43 (0, 0)), (g_21, .cells #[.int .i64 (-1)] 3 (0, 0))]) hs_31 rfl rfl rfl (by kernel_rfl) (by kernel_rfl) rfl (by kernel_rfl) (by kernel_rfl) rfl (by kernel_rfl) rfl (fun w_32 hs_33 => ?_)
    refine SL.v (.pointer (some ⟨g_1, 6, none⟩)) ?_
    refine SL.v (.pointer (some ⟨g_1, 11, none⟩)) ?_
    refine SL.store (i := 0) (g := g_1) (off := 11) (v := .int .i64 (uR c.gr)) (L' := [(g_1, .cells #[.int .i64 ((qStC_0 c).1), .int .i64 ((qStC_0 c).2), .int .u8 (c.rend % 32), .bool c.kept, .bool c.wrap, .bool c.origin, .int .i64 c.g0, .int .i64 c.g1, .int .i64 c.g2, .int .i64 c.g3, .int .i64 (uL c.gl), .int .i64 (uR c.gr), .int .i64 c.sg, .int .i64 ((wholeZ c.pb c.pr).1), .int .i64 ((wholeZ c.pb c.pr).2.1), .int .i64 ((wholeZ c.pb c.pr).2.2.1), .int .i64 ((wholeZ c.pb c.pr).2.2.2), .int .i64 ((qStC_1 c).1), .int .i64 ((qStC_1 c).2.1), .int .i64 ((qStC_1 c).2.2.1), .int .i64 ((qStC_1 c).2.2.2), .int .u32 c.modes, .int .i64 c.level, .bool c.eight, .bool c.stream, .int .i64 c.status, .bool c.below, .int .i64 c.page, .int .i64 c.pages] 43 (0, 0)), (g_4, .cells czA 43 (0, 0)), (g_21, .cells #[.int .i64 (-1)] 3 (0, 0))]) hs_33 rfl rfl rfl (by kernel_rfl) (by kernel_rfl) rfl (by kernel_rfl) (by kernel_rfl) rfl (by kernel_rfl) rfl (fun w_34 hs_35 => ?_)
    refine SL.nil ?_
    refine CW.seq ?_
    refine CW.seq ?_
    refine CW.region ?_
    refine SL.v (.pointer (some ⟨g_1, 6, none⟩)) ?_
    refine SL.v (.pointer (some ⟨g_1, 6, none⟩)) ?_
    refine SL.v (.pointer (some ⟨g_1, 12, none⟩)) ?_
    refine SL.load (g := g_1) (off := 12) (v := .int .i64 c.sg) rfl rfl rfl (by kernel_rfl) (hs_35.all 0 g_1 _ rfl) (by kernel_rfl) ?_
    refine SL.v (.bool (!(c.sg == 3))) ?_
    refine SL.v (.bool (!(c.sg == 3))) ?_
    rcases Bool.eq_false_or_eq_true (c.sg == 3) with hb_36 | hb_36
    · try rw [hb_36]
      refine SL.no false ?_
      refine SL.no false ?_
      refine SL.no false ?_
      refine SL.no false ?_
      refine SL.no false ?_
      refine SL.v (.bool false) ?_
      refine SL.nil ?_
      refine CW.cond_false (by kernel_rfl) ?_
      refine CW.skip ?_
      refine CW.seq ?_
      refine CW.region ?_
      refine SL.v (.pointer (some ⟨g_1, 21, none⟩)) ?_
      refine SL.load (g := g_1) (off := 21) (v := .int .u32 c.modes) rfl rfl rfl (by kernel_rfl) (hs_35.all 0 g_1 _ rfl) (by kernel_rfl) ?_
      refine SL.call (f := 24) (args := #[.int .u32 c.modes]) (w1 := w_34) rfl rfl (by kernel_rfl) ((clear17 c.modes w_34 hmodes)) ?_
      rintro x w_37 ⟨rfl, hc_38⟩
      refine ⟨.int .u32 (c.modes % 131072), rfl, ?_⟩
      have hs_39 := hs_35.grow hc_38
      refine SL.v (.pointer (some ⟨g_1, 21, none⟩)) ?_
      refine SL.store (i := 0) (g := g_1) (off := 21) (v := .int .u32 (c.modes % 131072)) (L' := [(g_1, .cells #[.int .i64 ((qStC_0 c).1), .int .i64 ((qStC_0 c).2), .int .u8 (c.rend % 32), .bool c.kept, .bool c.wrap, .bool c.origin, .int .i64 c.g0, .int .i64 c.g1, .int .i64 c.g2, .int .i64 c.g3, .int .i64 (uL c.gl), .int .i64 (uR c.gr), .int .i64 c.sg, .int .i64 ((wholeZ c.pb c.pr).1), .int .i64 ((wholeZ c.pb c.pr).2.1), .int .i64 ((wholeZ c.pb c.pr).2.2.1), .int .i64 ((wholeZ c.pb c.pr).2.2.2), .int .i64 ((qStC_1 c).1), .int .i64 ((qStC_1 c).2.1), .int .i64 ((qStC_1 c).2.2.1), .int .i64 ((qStC_1 c).2.2.2), .int .u32 (c.modes % 131072), .int .i64 c.level, .bool c.eight, .bool c.stream, .int .i64 c.status, .bool c.below, .int .i64 c.page, .int .i64 c.pages] 43 (0, 0)), (g_4, .cells czA 43 (0, 0)), (g_21, .cells #[.int .i64 (-1)] 3 (0, 0))]) hs_39 rfl rfl rfl (by kernel_rfl) (by kernel_rfl) rfl (by kernel_rfl) (by kernel_rfl) rfl (by kernel_rfl) rfl (fun w_40 hs_41 => ?_)
      refine SL.nil ?_
      refine CW.seq ?_
      have HGR : GrL [fun v _ => v = .pointer (some ⟨g_1, 22, none⟩), fun v _ => v = .int .i64 c.level, fun v _ => v = .int .i64 (clipZ c.level 1 5), fun v _ => v = .pointer (some ⟨g_1, 25, none⟩), fun v _ => v = .int .i64 c.status] := ⟨fun _ _ _ _ h => h, ⟨fun _ _ _ _ h => h, ⟨fun _ _ _ _ h => h, ⟨fun _ _ _ _ h => h, ⟨fun _ _ _ _ h => h, trivial⟩⟩⟩⟩⟩
      refine CW.draw 5 (FW [fun v _ => v = .pointer (some ⟨g_1, 22, none⟩), fun v _ => v = .int .i64 c.level, fun v _ => v = .int .i64 (clipZ c.level 1 5), fun v _ => v = .pointer (some ⟨g_1, 25, none⟩), fun v _ => v = .int .i64 c.status]) (fun W => Bk w W [(g_1, .cells #[.int .i64 ((qStC_0 c).1), .int .i64 ((qStC_0 c).2), .int .u8 (c.rend % 32), .bool c.kept, .bool c.wrap, .bool c.origin, .int .i64 c.g0, .int .i64 c.g1, .int .i64 c.g2, .int .i64 c.g3, .int .i64 (uL c.gl), .int .i64 (uR c.gr), .int .i64 c.sg, .int .i64 ((wholeZ c.pb c.pr).1), .int .i64 ((wholeZ c.pb c.pr).2.1), .int .i64 ((wholeZ c.pb c.pr).2.2.1), .int .i64 ((wholeZ c.pb c.pr).2.2.2), .int .i64 ((qStC_1 c).1), .int .i64 ((qStC_1 c).2.1), .int .i64 ((qStC_1 c).2.2.1), .int .i64 ((qStC_1 c).2.2.2), .int .u32 (c.modes % 131072), .int .i64 c.level, .bool c.eight, .bool c.stream, .int .i64 c.status, .bool c.below, .int .i64 c.page, .int .i64 c.pages] 43 (0, 0)), (g_4, .cells czA 43 (0, 0)), (g_21, .cells #[.int .i64 (-1)] 3 (0, 0))] ∧ Gr w_40 W) (by kernel_rfl) (by kernel_rfl) (by kernel_rfl) (by kernel_rfl) (by kernel_rfl) ⟨hs_41.drew, (Gr.refl _).drew⟩ ?_ ?_
      · refine ⟨?_, ⟨?_, ⟨?_, ⟨?_, ⟨?_, trivial⟩⟩⟩⟩⟩
        · intro L ys W hB hF hP K hK
          show OpE _ _ _ W K
          exact OpE.val (.pointer (some ⟨g_1, 22, none⟩)) W (by kernel_rfl) (hK _ W hB rfl (fun _ _ h => h))
        · intro L ys W hB hF hP K hK
          show OpE _ _ _ W K
          exact OpE.known (j := 0) (v := .pointer (some ⟨g_1, 22, none⟩)) (hF 0 (hP.1 rfl)) (OpE.load (g := g_1) (off := 22) (v := .int .i64 c.level) rfl (by kernel_rfl) (hB.1.all 0 g_1 _ rfl) (by kernel_rfl) (hK _ W hB rfl (fun _ _ h => h)))
        · intro L ys W hB hF hP K hK
          show OpE _ _ _ W K
          exact OpE.known (j := 1) (v := .int .i64 c.level) (hF 1 (hP.1 rfl)) (OpE.call 25 #[.int .i64 c.level, .int .i64 1, .int .i64 5] W _ (by kernel_rfl) (clipz_any c.level 1 5 W) (fun x w' hx => by obtain ⟨rfl, hg⟩ := hx; exact ⟨_, rfl, hK _ w' ⟨hB.1.grow hg, hB.2.trans hg⟩ rfl (fun _ _ h => FW.gr HGR hg h)⟩))
        · intro L ys W hB hF hP K hK
          show OpE _ _ _ W K
          exact OpE.val (.pointer (some ⟨g_1, 25, none⟩)) W (by kernel_rfl) (hK _ W hB rfl (fun _ _ h => h))
        · intro L ys W hB hF hP K hK
          show OpE _ _ _ W K
          exact OpE.known (j := 3) (v := .pointer (some ⟨g_1, 25, none⟩)) (hF 3 (hP.1 rfl)) (OpE.load (g := g_1) (off := 25) (v := .int .i64 c.status) rfl (by kernel_rfl) (hB.1.all 0 g_1 _ rfl) (by kernel_rfl) (hK _ W hB rfl (fun _ _ h => h)))
      · intro ys_45 w_42 hs_43 hF_44
        have hs_43 : Bk w w_42 [(g_1, .cells #[.int .i64 ((qStC_0 c).1), .int .i64 ((qStC_0 c).2), .int .u8 (c.rend % 32), .bool c.kept, .bool c.wrap, .bool c.origin, .int .i64 c.g0, .int .i64 c.g1, .int .i64 c.g2, .int .i64 c.g3, .int .i64 (uL c.gl), .int .i64 (uR c.gr), .int .i64 c.sg, .int .i64 ((wholeZ c.pb c.pr).1), .int .i64 ((wholeZ c.pb c.pr).2.1), .int .i64 ((wholeZ c.pb c.pr).2.2.1), .int .i64 ((wholeZ c.pb c.pr).2.2.2), .int .i64 ((qStC_1 c).1), .int .i64 ((qStC_1 c).2.1), .int .i64 ((qStC_1 c).2.2.1), .int .i64 ((qStC_1 c).2.2.2), .int .u32 (c.modes % 131072), .int .i64 c.level, .bool c.eight, .bool c.stream, .int .i64 c.status, .bool c.below, .int .i64 c.page, .int .i64 c.pages] 43 (0, 0)), (g_4, .cells czA 43 (0, 0)), (g_21, .cells #[.int .i64 (-1)] 3 (0, 0))] := hs_43.1
        refine SL.knownY (j := 2) (v := .int .i64 (clipZ c.level 1 5)) (show ys_45 2 = .int .i64 (clipZ c.level 1 5) from hF_44 2 (by decide)) (SL.knownY (j := 4) (v := .int .i64 c.status) (show ys_45 4 = .int .i64 c.status from hF_44 4 (by decide)) (?_))
        clear hF_44 HGR
        refine SL.call (f := 25) (args := #[.int .i64 c.status, .int .i64 0, .int .i64 2]) (w1 := w_42) rfl rfl (by kernel_rfl) (clipz_any c.status 0 2 w_42) ?_
        rintro x w_46 ⟨rfl, hc_47⟩
        refine ⟨.int .i64 (clipZ c.status 0 2), rfl, ?_⟩
        have hs_48 := hs_43.grow hc_47
        refine SL.v (.pointer (some ⟨g_1, 22, none⟩)) ?_
        refine SL.store (i := 0) (g := g_1) (off := 22) (v := .int .i64 (clipZ c.level 1 5)) (L' := [(g_1, .cells #[.int .i64 ((qStC_0 c).1), .int .i64 ((qStC_0 c).2), .int .u8 (c.rend % 32), .bool c.kept, .bool c.wrap, .bool c.origin, .int .i64 c.g0, .int .i64 c.g1, .int .i64 c.g2, .int .i64 c.g3, .int .i64 (uL c.gl), .int .i64 (uR c.gr), .int .i64 c.sg, .int .i64 ((wholeZ c.pb c.pr).1), .int .i64 ((wholeZ c.pb c.pr).2.1), .int .i64 ((wholeZ c.pb c.pr).2.2.1), .int .i64 ((wholeZ c.pb c.pr).2.2.2), .int .i64 ((qStC_1 c).1), .int .i64 ((qStC_1 c).2.1), .int .i64 ((qStC_1 c).2.2.1), .int .i64 ((qStC_1 c).2.2.2), .int .u32 (c.modes % 131072), .int .i64 (clipZ c.level 1 5), .bool c.eight, .bool c.stream, .int .i64 c.status, .bool c.below, .int .i64 c.page, .int .i64 c.pages] 43 (0, 0)), (g_4, .cells czA 43 (0, 0)), (g_21, .cells #[.int .i64 (-1)] 3 (0, 0))]) hs_48 rfl rfl rfl (by kernel_rfl) (by kernel_rfl) rfl (by kernel_rfl) (by kernel_rfl) rfl (by kernel_rfl) rfl (fun w_49 hs_50 => ?_)
        refine SL.v (.pointer (some ⟨g_1, 25, none⟩)) ?_
        refine SL.store (i := 0) (g := g_1) (off := 25) (v := .int .i64 (clipZ c.status 0 2)) (L' := [(g_1, .cells #[.int .i64 ((qStC_0 c).1), .int .i64 ((qStC_0 c).2), .int .u8 (c.rend % 32), .bool c.kept, .bool c.wrap, .bool c.origin, .int .i64 c.g0, .int .i64 c.g1, .int .i64 c.g2, .int .i64 c.g3, .int .i64 (uL c.gl), .int .i64 (uR c.gr), .int .i64 c.sg, .int .i64 ((wholeZ c.pb c.pr).1), .int .i64 ((wholeZ c.pb c.pr).2.1), .int .i64 ((wholeZ c.pb c.pr).2.2.1), .int .i64 ((wholeZ c.pb c.pr).2.2.2), .int .i64 ((qStC_1 c).1), .int .i64 ((qStC_1 c).2.1), .int .i64 ((qStC_1 c).2.2.1), .int .i64 ((qStC_1 c).2.2.2), .int .u32 (c.modes % 131072), .int .i64 (clipZ c.level 1 5), .bool c.eight, .bool c.stream, .int .i64 (clipZ c.status 0 2), .bool c.below, .int .i64 c.page, .int .i64 c.pages] 43 (0, 0)), (g_4, .cells czA 43 (0, 0)), (g_21, .cells #[.int .i64 (-1)] 3 (0, 0))]) hs_50 rfl rfl rfl (by kernel_rfl) (by kernel_rfl) rfl (by kernel_rfl) (by kernel_rfl) rfl (by kernel_rfl) rfl (fun w_51 hs_52 => ?_)
        refine SL.nil ?_
        refine CW.seq ?_
        refine CW.region ?_
        refine SL.v (.pointer (some ⟨g_1, 28, none⟩)) ?_
        refine SL.load (g := g_1) (off := 28) (v := .int .i64 c.pages) rfl rfl rfl (by kernel_rfl) (hs_52.all 0 g_1 _ rfl) (by kernel_rfl) ?_
        refine SL.call (f := 25) (args := #[.int .i64 c.pages, .int .i64 1, .int .i64 16]) (w1 := w_51) rfl rfl (by kernel_rfl) (clipz_any c.pages 1 16 w_51) ?_
        rintro x w_53 ⟨rfl, hc_54⟩
        refine ⟨.int .i64 (clipZ c.pages 1 16), rfl, ?_⟩
        have hs_55 := hs_52.grow hc_54
        refine SL.v (.pointer (some ⟨g_1, 28, none⟩)) ?_
        refine SL.store (i := 0) (g := g_1) (off := 28) (v := .int .i64 (clipZ c.pages 1 16)) (L' := [(g_1, .cells #[.int .i64 ((qStC_0 c).1), .int .i64 ((qStC_0 c).2), .int .u8 (c.rend % 32), .bool c.kept, .bool c.wrap, .bool c.origin, .int .i64 c.g0, .int .i64 c.g1, .int .i64 c.g2, .int .i64 c.g3, .int .i64 (uL c.gl), .int .i64 (uR c.gr), .int .i64 c.sg, .int .i64 ((wholeZ c.pb c.pr).1), .int .i64 ((wholeZ c.pb c.pr).2.1), .int .i64 ((wholeZ c.pb c.pr).2.2.1), .int .i64 ((wholeZ c.pb c.pr).2.2.2), .int .i64 ((qStC_1 c).1), .int .i64 ((qStC_1 c).2.1), .int .i64 ((qStC_1 c).2.2.1), .int .i64 ((qStC_1 c).2.2.2), .int .u32 (c.modes % 131072), .int .i64 (clipZ c.level 1 5), .bool c.eight, .bool c.stream, .int .i64 (clipZ c.status 0 2), .bool c.below, .int .i64 c.page, .int .i64 (clipZ c.pages 1 16)] 43 (0, 0)), (g_4, .cells czA 43 (0, 0)), (g_21, .cells #[.int .i64 (-1)] 3 (0, 0))]) hs_55 rfl rfl rfl (by kernel_rfl) (by kernel_rfl) rfl (by kernel_rfl) (by kernel_rfl) rfl (by kernel_rfl) rfl (fun w_56 hs_57 => ?_)
        refine SL.nil ?_
        refine CW.seq ?_
        refine CW.region ?_
        refine SL.v (.pointer (some ⟨g_1, 27, none⟩)) ?_
        refine SL.load (g := g_1) (off := 27) (v := .int .i64 c.page) rfl rfl rfl (by kernel_rfl) (hs_57.all 0 g_1 _ rfl) (by kernel_rfl) ?_
        refine SL.v (.pointer (some ⟨g_1, 28, none⟩)) ?_
        refine SL.load (g := g_1) (off := 28) (v := .int .i64 (clipZ c.pages 1 16)) rfl rfl rfl (by kernel_rfl) (hs_57.all 0 g_1 _ rfl) (by kernel_rfl) ?_
        refine SL.val (v := .int .i64 ((clipZ c.pages 1 16) - 1)) (w' := w_56) rfl rfl (by have hw : IntKind.i64.wrap ((clipZ c.pages 1 16) - 1) = (clipZ c.pages 1 16) - 1 := IntWalk.i64_in _ (by omega); exact run_eqv (by kernel_rfl) (congrArg (fun z => Value.int .i64 z) hw)) ?_
        refine SL.call (f := 25) (args := #[.int .i64 c.page, .int .i64 0, .int .i64 ((clipZ c.pages 1 16) - 1)]) (w1 := w_56) rfl rfl (by kernel_rfl) (clipz_any c.page 0 ((clipZ c.pages 1 16) - 1) w_56) ?_
        rintro x w_58 ⟨rfl, hc_59⟩
        refine ⟨.int .i64 (clipZ c.page 0 ((clipZ c.pages 1 16) - 1)), rfl, ?_⟩
        have hs_60 := hs_57.grow hc_59
        refine SL.v (.pointer (some ⟨g_1, 27, none⟩)) ?_
        refine SL.store (i := 0) (g := g_1) (off := 27) (v := .int .i64 (clipZ c.page 0 ((clipZ c.pages 1 16) - 1))) (L' := [(g_1, .cells #[.int .i64 ((qStC_0 c).1), .int .i64 ((qStC_0 c).2), .int .u8 (c.rend % 32), .bool c.kept, .bool c.wrap, .bool c.origin, .int .i64 c.g0, .int .i64 c.g1, .int .i64 c.g2, .int .i64 c.g3, .int .i64 (uL c.gl), .int .i64 (uR c.gr), .int .i64 c.sg, .int .i64 ((wholeZ c.pb c.pr).1), .int .i64 ((wholeZ c.pb c.pr).2.1), .int .i64 ((wholeZ c.pb c.pr).2.2.1), .int .i64 ((wholeZ c.pb c.pr).2.2.2), .int .i64 ((qStC_1 c).1), .int .i64 ((qStC_1 c).2.1), .int .i64 ((qStC_1 c).2.2.1), .int .i64 ((qStC_1 c).2.2.2), .int .u32 (c.modes % 131072), .int .i64 (clipZ c.level 1 5), .bool c.eight, .bool c.stream, .int .i64 (clipZ c.status 0 2), .bool c.below, .int .i64 (clipZ c.page 0 ((clipZ c.pages 1 16) - 1)), .int .i64 (clipZ c.pages 1 16)] 43 (0, 0)), (g_4, .cells czA 43 (0, 0)), (g_21, .cells #[.int .i64 (-1)] 3 (0, 0))]) hs_60 rfl rfl rfl (by kernel_rfl) (by kernel_rfl) rfl (by kernel_rfl) (by kernel_rfl) rfl (by kernel_rfl) rfl (fun w_61 hs_62 => ?_)
        refine SL.nil ?_
        refine CW.seq ?_
        refine CW.region ?_
        refine SL.load (g := g_1) (off := 0) (v := .agg #[.int .i64 ((qStC_0 c).1), .int .i64 ((qStC_0 c).2), .int .u8 (c.rend % 32), .bool c.kept, .bool c.wrap, .bool c.origin, .int .i64 c.g0, .int .i64 c.g1, .int .i64 c.g2, .int .i64 c.g3, .int .i64 (uL c.gl), .int .i64 (uR c.gr), .int .i64 c.sg, .int .i64 ((wholeZ c.pb c.pr).1), .int .i64 ((wholeZ c.pb c.pr).2.1), .int .i64 ((wholeZ c.pb c.pr).2.2.1), .int .i64 ((wholeZ c.pb c.pr).2.2.2), .int .i64 ((qStC_1 c).1), .int .i64 ((qStC_1 c).2.1), .int .i64 ((qStC_1 c).2.2.1), .int .i64 ((qStC_1 c).2.2.2), .int .u32 (c.modes % 131072), .int .i64 (clipZ c.level 1 5), .bool c.eight, .bool c.stream, .int .i64 (clipZ c.status 0 2), .bool c.below, .int .i64 (clipZ c.page 0 ((clipZ c.pages 1 16) - 1)), .int .i64 (clipZ c.pages 1 16)]) rfl rfl rfl (by kernel_rfl) (hs_62.all 0 g_1 _ rfl) (by kernel_rfl) ?_
        refine SL.store (i := 1) (g := g_4) (off := 0) (v := .agg #[.int .i64 ((qStC_0 c).1), .int .i64 ((qStC_0 c).2), .int .u8 (c.rend % 32), .bool c.kept, .bool c.wrap, .bool c.origin, .int .i64 c.g0, .int .i64 c.g1, .int .i64 c.g2, .int .i64 c.g3, .int .i64 (uL c.gl), .int .i64 (uR c.gr), .int .i64 c.sg, .int .i64 ((wholeZ c.pb c.pr).1), .int .i64 ((wholeZ c.pb c.pr).2.1), .int .i64 ((wholeZ c.pb c.pr).2.2.1), .int .i64 ((wholeZ c.pb c.pr).2.2.2), .int .i64 ((qStC_1 c).1), .int .i64 ((qStC_1 c).2.1), .int .i64 ((qStC_1 c).2.2.1), .int .i64 ((qStC_1 c).2.2.2), .int .u32 (c.modes % 131072), .int .i64 (clipZ c.level 1 5), .bool c.eight, .bool c.stream, .int .i64 (clipZ c.status 0 2), .bool c.below, .int .i64 (clipZ c.page 0 ((clipZ c.pages 1 16) - 1)), .int .i64 (clipZ c.pages 1 16)]) (L' := [(g_1, .cells #[.int .i64 ((qStC_0 c).1), .int .i64 ((qStC_0 c).2), .int .u8 (c.rend % 32), .bool c.kept, .bool c.wrap, .bool c.origin, .int .i64 c.g0, .int .i64 c.g1, .int .i64 c.g2, .int .i64 c.g3, .int .i64 (uL c.gl), .int .i64 (uR c.gr), .int .i64 c.sg, .int .i64 ((wholeZ c.pb c.pr).1), .int .i64 ((wholeZ c.pb c.pr).2.1), .int .i64 ((wholeZ c.pb c.pr).2.2.1), .int .i64 ((wholeZ c.pb c.pr).2.2.2), .int .i64 ((qStC_1 c).1), .int .i64 ((qStC_1 c).2.1), .int .i64 ((qStC_1 c).2.2.1), .int .i64 ((qStC_1 c).2.2.2), .int .u32 (c.modes % 131072), .int .i64 (clipZ c.level 1 5), .bool c.eight, .bool c.stream, .int .i64 (clipZ c.status 0 2), .bool c.below, .int .i64 (clipZ c.page 0 ((clipZ c.pages 1 16) - 1)), .int .i64 (clipZ c.pages 1 16)] 43 (0, 0)), (g_4, .cells #[.int .i64 ((qStC_0 c).1), .int .i64 ((qStC_0 c).2), .int .u8 (c.rend % 32), .bool c.kept, .bool c.wrap, .bool c.origin, .int .i64 c.g0, .int .i64 c.g1, .int .i64 c.g2, .int .i64 c.g3, .int .i64 (uL c.gl), .int .i64 (uR c.gr), .int .i64 c.sg, .int .i64 ((wholeZ c.pb c.pr).1), .int .i64 ((wholeZ c.pb c.pr).2.1), .int .i64 ((wholeZ c.pb c.pr).2.2.1), .int .i64 ((wholeZ c.pb c.pr).2.2.2), .int .i64 ((qStC_1 c).1), .int .i64 ((qStC_1 c).2.1), .int .i64 ((qStC_1 c).2.2.1), .int .i64 ((qStC_1 c).2.2.2), .int .u32 (c.modes % 131072), .int .i64 (clipZ c.level 1 5), .bool c.eight, .bool c.stream, .int .i64 (clipZ c.status 0 2), .bool c.below, .int .i64 (clipZ c.page 0 ((clipZ c.pages 1 16) - 1)), .int .i64 (clipZ c.pages 1 16)] 43 (0, 0)), (g_21, .cells #[.int .i64 (-1)] 3 (0, 0))]) hs_62 rfl rfl rfl (by kernel_rfl) (by kernel_rfl) rfl (by kernel_rfl) (by kernel_rfl) rfl (by kernel_rfl) rfl (fun w_63 hs_64 => ?_)
        refine SL.nil ?_
        refine CW.ret ?_
        repeat with_reducible first | refine PThen.ret ?_ | refine PBlock.ret ?_
        refine PRet.cell (t := 2) (ty := 43) (g := g_4) (v := .agg #[.int .i64 ((qStC_0 c).1), .int .i64 ((qStC_0 c).2), .int .u8 (c.rend % 32), .bool c.kept, .bool c.wrap, .bool c.origin, .int .i64 c.g0, .int .i64 c.g1, .int .i64 c.g2, .int .i64 c.g3, .int .i64 (uL c.gl), .int .i64 (uR c.gr), .int .i64 c.sg, .int .i64 ((wholeZ c.pb c.pr).1), .int .i64 ((wholeZ c.pb c.pr).2.1), .int .i64 ((wholeZ c.pb c.pr).2.2.1), .int .i64 ((wholeZ c.pb c.pr).2.2.2), .int .i64 ((qStC_1 c).1), .int .i64 ((qStC_1 c).2.1), .int .i64 ((qStC_1 c).2.2.1), .int .i64 ((qStC_1 c).2.2.2), .int .u32 (c.modes % 131072), .int .i64 (clipZ c.level 1 5), .bool c.eight, .bool c.stream, .int .i64 (clipZ c.status 0 2), .bool c.below, .int .i64 (clipZ c.page 0 ((clipZ c.pages 1 16) - 1)), .int .i64 (clipZ c.pages 1 16)]) rfl rfl (by kernel_rfl) (hs_64.all 1 g_4 _ rfl) (by kernel_rfl) ?_
        exact ⟨by simp only [Cor.v, Cor.clean, hb_36, Bool.or_true, Bool.or_false]; rfl, hs_64.gr⟩
    · try rw [hb_36]
      refine SL.go ?_
      refine SL.v (.pointer (some ⟨g_1, 6, none⟩)) ?_
      refine SL.go ?_
      refine SL.v (.pointer (some ⟨g_1, 6, none⟩)) ?_
      refine SL.go ?_
      refine SL.v (.pointer (some ⟨g_1, 12, none⟩)) ?_
      refine SL.go ?_
      refine SL.load (g := g_1) (off := 12) (v := .int .i64 c.sg) rfl rfl rfl (by kernel_rfl) (hs_35.all 0 g_1 _ rfl) (by kernel_rfl) ?_
      refine SL.go ?_
      refine SL.v (.bool (!(c.sg == 2))) ?_
      refine SL.v (.bool (!(c.sg == 2))) ?_
      refine SL.nil ?_
      refine CW.mid (fun e9 w9 => Bk w w9 [(g_1, .cells #[.int .i64 ((qStC_0 c).1), .int .i64 ((qStC_0 c).2), .int .u8 (c.rend % 32), .bool c.kept, .bool c.wrap, .bool c.origin, .int .i64 c.g0, .int .i64 c.g1, .int .i64 c.g2, .int .i64 c.g3, .int .i64 (uL c.gl), .int .i64 (uR c.gr), .int .i64 (bif (c.sg == 2) then c.sg else 0), .int .i64 ((wholeZ c.pb c.pr).1), .int .i64 ((wholeZ c.pb c.pr).2.1), .int .i64 ((wholeZ c.pb c.pr).2.2.1), .int .i64 ((wholeZ c.pb c.pr).2.2.2), .int .i64 ((qStC_1 c).1), .int .i64 ((qStC_1 c).2.1), .int .i64 ((qStC_1 c).2.2.1), .int .i64 ((qStC_1 c).2.2.2), .int .u32 c.modes, .int .i64 c.level, .bool c.eight, .bool c.stream, .int .i64 c.status, .bool c.below, .int .i64 c.page, .int .i64 c.pages] 43 (0, 0)), (g_4, .cells czA 43 (0, 0)), (g_21, .cells #[.int .i64 (-1)] 3 (0, 0))] ∧ e9 1 = .pointer (some ⟨g_1, 0, none⟩) ∧ e9 2 = .pointer (some ⟨g_4, 0, none⟩)) ?_ ?_
      · skip
        rcases Bool.eq_false_or_eq_true (c.sg == 2) with hb_66 | hb_66
        · try rw [hb_66]
          refine CW.cond_false (by kernel_rfl) ?_
          refine CW.skip ?_
          exact ⟨hs_35, (by kernel_rfl), (by kernel_rfl)⟩
        · try rw [hb_66]
          refine CW.cond_true (by kernel_rfl) ?_
          refine CW.region ?_
          refine SL.v (.pointer (some ⟨g_1, 6, none⟩)) ?_
          refine SL.v (.pointer (some ⟨g_1, 6, none⟩)) ?_
          refine SL.v (.pointer (some ⟨g_1, 12, none⟩)) ?_
          refine SL.store (i := 0) (g := g_1) (off := 12) (v := .int .i64 0) (L' := [(g_1, .cells #[.int .i64 ((qStC_0 c).1), .int .i64 ((qStC_0 c).2), .int .u8 (c.rend % 32), .bool c.kept, .bool c.wrap, .bool c.origin, .int .i64 c.g0, .int .i64 c.g1, .int .i64 c.g2, .int .i64 c.g3, .int .i64 (uL c.gl), .int .i64 (uR c.gr), .int .i64 0, .int .i64 ((wholeZ c.pb c.pr).1), .int .i64 ((wholeZ c.pb c.pr).2.1), .int .i64 ((wholeZ c.pb c.pr).2.2.1), .int .i64 ((wholeZ c.pb c.pr).2.2.2), .int .i64 ((qStC_1 c).1), .int .i64 ((qStC_1 c).2.1), .int .i64 ((qStC_1 c).2.2.1), .int .i64 ((qStC_1 c).2.2.2), .int .u32 c.modes, .int .i64 c.level, .bool c.eight, .bool c.stream, .int .i64 c.status, .bool c.below, .int .i64 c.page, .int .i64 c.pages] 43 (0, 0)), (g_4, .cells czA 43 (0, 0)), (g_21, .cells #[.int .i64 (-1)] 3 (0, 0))]) hs_35 rfl rfl rfl (by kernel_rfl) (by kernel_rfl) rfl (by kernel_rfl) (by kernel_rfl) rfl (by kernel_rfl) rfl (fun w_67 hs_68 => ?_)
          refine SL.nil ?_
          exact ⟨hs_68, (by kernel_rfl), (by kernel_rfl)⟩
      · rintro e_69 w_70 ⟨hs_71, hv_73, hv_74⟩
        obtain ⟨e_72, rfl⟩ : ∃ e_72, e_69 = put1 (put1 e_72 1 (.pointer (some ⟨g_1, 0, none⟩))) 2 (.pointer (some ⟨g_4, 0, none⟩)) := ⟨e_69, (put_self hv_74).trans (congrArg (fun z => put1 z 2 (.pointer (some ⟨g_4, 0, none⟩))) (put_self hv_73))⟩
        clear hv_73 hv_74
        refine CW.seq ?_
        refine CW.region ?_
        refine SL.v (.pointer (some ⟨g_1, 21, none⟩)) ?_
        refine SL.load (g := g_1) (off := 21) (v := .int .u32 c.modes) rfl rfl rfl (by kernel_rfl) (hs_71.all 0 g_1 _ rfl) (by kernel_rfl) ?_
        refine SL.call (f := 24) (args := #[.int .u32 c.modes]) (w1 := w_70) rfl rfl (by kernel_rfl) ((clear17 c.modes w_70 hmodes)) ?_
        rintro x w_75 ⟨rfl, hc_76⟩
        refine ⟨.int .u32 (c.modes % 131072), rfl, ?_⟩
        have hs_77 := hs_71.grow hc_76
        refine SL.v (.pointer (some ⟨g_1, 21, none⟩)) ?_
        refine SL.store (i := 0) (g := g_1) (off := 21) (v := .int .u32 (c.modes % 131072)) (L' := [(g_1, .cells #[.int .i64 ((qStC_0 c).1), .int .i64 ((qStC_0 c).2), .int .u8 (c.rend % 32), .bool c.kept, .bool c.wrap, .bool c.origin, .int .i64 c.g0, .int .i64 c.g1, .int .i64 c.g2, .int .i64 c.g3, .int .i64 (uL c.gl), .int .i64 (uR c.gr), .int .i64 (bif (c.sg == 2) then c.sg else 0), .int .i64 ((wholeZ c.pb c.pr).1), .int .i64 ((wholeZ c.pb c.pr).2.1), .int .i64 ((wholeZ c.pb c.pr).2.2.1), .int .i64 ((wholeZ c.pb c.pr).2.2.2), .int .i64 ((qStC_1 c).1), .int .i64 ((qStC_1 c).2.1), .int .i64 ((qStC_1 c).2.2.1), .int .i64 ((qStC_1 c).2.2.2), .int .u32 (c.modes % 131072), .int .i64 c.level, .bool c.eight, .bool c.stream, .int .i64 c.status, .bool c.below, .int .i64 c.page, .int .i64 c.pages] 43 (0, 0)), (g_4, .cells czA 43 (0, 0)), (g_21, .cells #[.int .i64 (-1)] 3 (0, 0))]) hs_77 rfl rfl rfl (by kernel_rfl) (by kernel_rfl) rfl (by kernel_rfl) (by kernel_rfl) rfl (by kernel_rfl) rfl (fun w_78 hs_79 => ?_)
        refine SL.nil ?_
        refine CW.seq ?_
        have HGR : GrL [fun v _ => v = .pointer (some ⟨g_1, 22, none⟩), fun v _ => v = .int .i64 c.level, fun v _ => v = .int .i64 (clipZ c.level 1 5), fun v _ => v = .pointer (some ⟨g_1, 25, none⟩), fun v _ => v = .int .i64 c.status] := ⟨fun _ _ _ _ h => h, ⟨fun _ _ _ _ h => h, ⟨fun _ _ _ _ h => h, ⟨fun _ _ _ _ h => h, ⟨fun _ _ _ _ h => h, trivial⟩⟩⟩⟩⟩
        refine CW.draw 5 (FW [fun v _ => v = .pointer (some ⟨g_1, 22, none⟩), fun v _ => v = .int .i64 c.level, fun v _ => v = .int .i64 (clipZ c.level 1 5), fun v _ => v = .pointer (some ⟨g_1, 25, none⟩), fun v _ => v = .int .i64 c.status]) (fun W => Bk w W [(g_1, .cells #[.int .i64 ((qStC_0 c).1), .int .i64 ((qStC_0 c).2), .int .u8 (c.rend % 32), .bool c.kept, .bool c.wrap, .bool c.origin, .int .i64 c.g0, .int .i64 c.g1, .int .i64 c.g2, .int .i64 c.g3, .int .i64 (uL c.gl), .int .i64 (uR c.gr), .int .i64 (bif (c.sg == 2) then c.sg else 0), .int .i64 ((wholeZ c.pb c.pr).1), .int .i64 ((wholeZ c.pb c.pr).2.1), .int .i64 ((wholeZ c.pb c.pr).2.2.1), .int .i64 ((wholeZ c.pb c.pr).2.2.2), .int .i64 ((qStC_1 c).1), .int .i64 ((qStC_1 c).2.1), .int .i64 ((qStC_1 c).2.2.1), .int .i64 ((qStC_1 c).2.2.2), .int .u32 (c.modes % 131072), .int .i64 c.level, .bool c.eight, .bool c.stream, .int .i64 c.status, .bool c.below, .int .i64 c.page, .int .i64 c.pages] 43 (0, 0)), (g_4, .cells czA 43 (0, 0)), (g_21, .cells #[.int .i64 (-1)] 3 (0, 0))] ∧ Gr w_78 W) (by kernel_rfl) (by kernel_rfl) (by kernel_rfl) (by kernel_rfl) (by kernel_rfl) ⟨hs_79.drew, (Gr.refl _).drew⟩ ?_ ?_
        · refine ⟨?_, ⟨?_, ⟨?_, ⟨?_, ⟨?_, trivial⟩⟩⟩⟩⟩
          · intro L ys W hB hF hP K hK
            show OpE _ _ _ W K
            exact OpE.val (.pointer (some ⟨g_1, 22, none⟩)) W (by kernel_rfl) (hK _ W hB rfl (fun _ _ h => h))
          · intro L ys W hB hF hP K hK
            show OpE _ _ _ W K
            exact OpE.known (j := 0) (v := .pointer (some ⟨g_1, 22, none⟩)) (hF 0 (hP.1 rfl)) (OpE.load (g := g_1) (off := 22) (v := .int .i64 c.level) rfl (by kernel_rfl) (hB.1.all 0 g_1 _ rfl) (by kernel_rfl) (hK _ W hB rfl (fun _ _ h => h)))
          · intro L ys W hB hF hP K hK
            show OpE _ _ _ W K
            exact OpE.known (j := 1) (v := .int .i64 c.level) (hF 1 (hP.1 rfl)) (OpE.call 25 #[.int .i64 c.level, .int .i64 1, .int .i64 5] W _ (by kernel_rfl) (clipz_any c.level 1 5 W) (fun x w' hx => by obtain ⟨rfl, hg⟩ := hx; exact ⟨_, rfl, hK _ w' ⟨hB.1.grow hg, hB.2.trans hg⟩ rfl (fun _ _ h => FW.gr HGR hg h)⟩))
          · intro L ys W hB hF hP K hK
            show OpE _ _ _ W K
            exact OpE.val (.pointer (some ⟨g_1, 25, none⟩)) W (by kernel_rfl) (hK _ W hB rfl (fun _ _ h => h))
          · intro L ys W hB hF hP K hK
            show OpE _ _ _ W K
            exact OpE.known (j := 3) (v := .pointer (some ⟨g_1, 25, none⟩)) (hF 3 (hP.1 rfl)) (OpE.load (g := g_1) (off := 25) (v := .int .i64 c.status) rfl (by kernel_rfl) (hB.1.all 0 g_1 _ rfl) (by kernel_rfl) (hK _ W hB rfl (fun _ _ h => h)))
        · intro ys_83 w_80 hs_81 hF_82
          have hs_81 : Bk w w_80 [(g_1, .cells #[.int .i64 ((qStC_0 c).1), .int .i64 ((qStC_0 c).2), .int .u8 (c.rend % 32), .bool c.kept, .bool c.wrap, .bool c.origin, .int .i64 c.g0, .int .i64 c.g1, .int .i64 c.g2, .int .i64 c.g3, .int .i64 (uL c.gl), .int .i64 (uR c.gr), .int .i64 (bif (c.sg == 2) then c.sg else 0), .int .i64 ((wholeZ c.pb c.pr).1), .int .i64 ((wholeZ c.pb c.pr).2.1), .int .i64 ((wholeZ c.pb c.pr).2.2.1), .int .i64 ((wholeZ c.pb c.pr).2.2.2), .int .i64 ((qStC_1 c).1), .int .i64 ((qStC_1 c).2.1), .int .i64 ((qStC_1 c).2.2.1), .int .i64 ((qStC_1 c).2.2.2), .int .u32 (c.modes % 131072), .int .i64 c.level, .bool c.eight, .bool c.stream, .int .i64 c.status, .bool c.below, .int .i64 c.page, .int .i64 c.pages] 43 (0, 0)), (g_4, .cells czA 43 (0, 0)), (g_21, .cells #[.int .i64 (-1)] 3 (0, 0))] := hs_81.1
          refine SL.knownY (j := 2) (v := .int .i64 (clipZ c.level 1 5)) (show ys_83 2 = .int .i64 (clipZ c.level 1 5) from hF_82 2 (by decide)) (SL.knownY (j := 4) (v := .int .i64 c.status) (show ys_83 4 = .int .i64 c.status from hF_82 4 (by decide)) (?_))
          clear hF_82 HGR
          refine SL.call (f := 25) (args := #[.int .i64 c.status, .int .i64 0, .int .i64 2]) (w1 := w_80) rfl rfl (by kernel_rfl) (clipz_any c.status 0 2 w_80) ?_
          rintro x w_84 ⟨rfl, hc_85⟩
          refine ⟨.int .i64 (clipZ c.status 0 2), rfl, ?_⟩
          have hs_86 := hs_81.grow hc_85
          refine SL.v (.pointer (some ⟨g_1, 22, none⟩)) ?_
          refine SL.store (i := 0) (g := g_1) (off := 22) (v := .int .i64 (clipZ c.level 1 5)) (L' := [(g_1, .cells #[.int .i64 ((qStC_0 c).1), .int .i64 ((qStC_0 c).2), .int .u8 (c.rend % 32), .bool c.kept, .bool c.wrap, .bool c.origin, .int .i64 c.g0, .int .i64 c.g1, .int .i64 c.g2, .int .i64 c.g3, .int .i64 (uL c.gl), .int .i64 (uR c.gr), .int .i64 (bif (c.sg == 2) then c.sg else 0), .int .i64 ((wholeZ c.pb c.pr).1), .int .i64 ((wholeZ c.pb c.pr).2.1), .int .i64 ((wholeZ c.pb c.pr).2.2.1), .int .i64 ((wholeZ c.pb c.pr).2.2.2), .int .i64 ((qStC_1 c).1), .int .i64 ((qStC_1 c).2.1), .int .i64 ((qStC_1 c).2.2.1), .int .i64 ((qStC_1 c).2.2.2), .int .u32 (c.modes % 131072), .int .i64 (clipZ c.level 1 5), .bool c.eight, .bool c.stream, .int .i64 c.status, .bool c.below, .int .i64 c.page, .int .i64 c.pages] 43 (0, 0)), (g_4, .cells czA 43 (0, 0)), (g_21, .cells #[.int .i64 (-1)] 3 (0, 0))]) hs_86 rfl rfl rfl (by kernel_rfl) (by kernel_rfl) rfl (by kernel_rfl) (by kernel_rfl) rfl (by kernel_rfl) rfl (fun w_87 hs_88 => ?_)
          refine SL.v (.pointer (some ⟨g_1, 25, none⟩)) ?_
          refine SL.store (i := 0) (g := g_1) (off := 25) (v := .int .i64 (clipZ c.status 0 2)) (L' := [(g_1, .cells #[.int .i64 ((qStC_0 c).1), .int .i64 ((qStC_0 c).2), .int .u8 (c.rend % 32), .bool c.kept, .bool c.wrap, .bool c.origin, .int .i64 c.g0, .int .i64 c.g1, .int .i64 c.g2, .int .i64 c.g3, .int .i64 (uL c.gl), .int .i64 (uR c.gr), .int .i64 (bif (c.sg == 2) then c.sg else 0), .int .i64 ((wholeZ c.pb c.pr).1), .int .i64 ((wholeZ c.pb c.pr).2.1), .int .i64 ((wholeZ c.pb c.pr).2.2.1), .int .i64 ((wholeZ c.pb c.pr).2.2.2), .int .i64 ((qStC_1 c).1), .int .i64 ((qStC_1 c).2.1), .int .i64 ((qStC_1 c).2.2.1), .int .i64 ((qStC_1 c).2.2.2), .int .u32 (c.modes % 131072), .int .i64 (clipZ c.level 1 5), .bool c.eight, .bool c.stream, .int .i64 (clipZ c.status 0 2), .bool c.below, .int .i64 c.page, .int .i64 c.pages] 43 (0, 0)), (g_4, .cells czA 43 (0, 0)), (g_21, .cells #[.int .i64 (-1)] 3 (0, 0))]) hs_88 rfl rfl rfl (by kernel_rfl) (by kernel_rfl) rfl (by kernel_rfl) (by kernel_rfl) rfl (by kernel_rfl) rfl (fun w_89 hs_90 => ?_)
          refine SL.nil ?_
          refine CW.seq ?_
          refine CW.region ?_
          refine SL.v (.pointer (some ⟨g_1, 28, none⟩)) ?_
          refine SL.load (g := g_1) (off := 28) (v := .int .i64 c.pages) rfl rfl rfl (by kernel_rfl) (hs_90.all 0 g_1 _ rfl) (by kernel_rfl) ?_
          refine SL.call (f := 25) (args := #[.int .i64 c.pages, .int .i64 1, .int .i64 16]) (w1 := w_89) rfl rfl (by kernel_rfl) (clipz_any c.pages 1 16 w_89) ?_
          rintro x w_91 ⟨rfl, hc_92⟩
          refine ⟨.int .i64 (clipZ c.pages 1 16), rfl, ?_⟩
          have hs_93 := hs_90.grow hc_92
          refine SL.v (.pointer (some ⟨g_1, 28, none⟩)) ?_
          refine SL.store (i := 0) (g := g_1) (off := 28) (v := .int .i64 (clipZ c.pages 1 16)) (L' := [(g_1, .cells #[.int .i64 ((qStC_0 c).1), .int .i64 ((qStC_0 c).2), .int .u8 (c.rend % 32), .bool c.kept, .bool c.wrap, .bool c.origin, .int .i64 c.g0, .int .i64 c.g1, .int .i64 c.g2, .int .i64 c.g3, .int .i64 (uL c.gl), .int .i64 (uR c.gr), .int .i64 (bif (c.sg == 2) then c.sg else 0), .int .i64 ((wholeZ c.pb c.pr).1), .int .i64 ((wholeZ c.pb c.pr).2.1), .int .i64 ((wholeZ c.pb c.pr).2.2.1), .int .i64 ((wholeZ c.pb c.pr).2.2.2), .int .i64 ((qStC_1 c).1), .int .i64 ((qStC_1 c).2.1), .int .i64 ((qStC_1 c).2.2.1), .int .i64 ((qStC_1 c).2.2.2), .int .u32 (c.modes % 131072), .int .i64 (clipZ c.level 1 5), .bool c.eight, .bool c.stream, .int .i64 (clipZ c.status 0 2), .bool c.below, .int .i64 c.page, .int .i64 (clipZ c.pages 1 16)] 43 (0, 0)), (g_4, .cells czA 43 (0, 0)), (g_21, .cells #[.int .i64 (-1)] 3 (0, 0))]) hs_93 rfl rfl rfl (by kernel_rfl) (by kernel_rfl) rfl (by kernel_rfl) (by kernel_rfl) rfl (by kernel_rfl) rfl (fun w_94 hs_95 => ?_)
          refine SL.nil ?_
          refine CW.seq ?_
          refine CW.region ?_
          refine SL.v (.pointer (some ⟨g_1, 27, none⟩)) ?_
          refine SL.load (g := g_1) (off := 27) (v := .int .i64 c.page) rfl rfl rfl (by kernel_rfl) (hs_95.all 0 g_1 _ rfl) (by kernel_rfl) ?_
          refine SL.v (.pointer (some ⟨g_1, 28, none⟩)) ?_
          refine SL.load (g := g_1) (off := 28) (v := .int .i64 (clipZ c.pages 1 16)) rfl rfl rfl (by kernel_rfl) (hs_95.all 0 g_1 _ rfl) (by kernel_rfl) ?_
          refine SL.val (v := .int .i64 ((clipZ c.pages 1 16) - 1)) (w' := w_94) rfl rfl (by have hw : IntKind.i64.wrap ((clipZ c.pages 1 16) - 1) = (clipZ c.pages 1 16) - 1 := IntWalk.i64_in _ (by omega); exact run_eqv (by kernel_rfl) (congrArg (fun z => Value.int .i64 z) hw)) ?_
          refine SL.call (f := 25) (args := #[.int .i64 c.page, .int .i64 0, .int .i64 ((clipZ c.pages 1 16) - 1)]) (w1 := w_94) rfl rfl (by kernel_rfl) (clipz_any c.page 0 ((clipZ c.pages 1 16) - 1) w_94) ?_
          rintro x w_96 ⟨rfl, hc_97⟩
          refine ⟨.int .i64 (clipZ c.page 0 ((clipZ c.pages 1 16) - 1)), rfl, ?_⟩
          have hs_98 := hs_95.grow hc_97
          refine SL.v (.pointer (some ⟨g_1, 27, none⟩)) ?_
          refine SL.store (i := 0) (g := g_1) (off := 27) (v := .int .i64 (clipZ c.page 0 ((clipZ c.pages 1 16) - 1))) (L' := [(g_1, .cells #[.int .i64 ((qStC_0 c).1), .int .i64 ((qStC_0 c).2), .int .u8 (c.rend % 32), .bool c.kept, .bool c.wrap, .bool c.origin, .int .i64 c.g0, .int .i64 c.g1, .int .i64 c.g2, .int .i64 c.g3, .int .i64 (uL c.gl), .int .i64 (uR c.gr), .int .i64 (bif (c.sg == 2) then c.sg else 0), .int .i64 ((wholeZ c.pb c.pr).1), .int .i64 ((wholeZ c.pb c.pr).2.1), .int .i64 ((wholeZ c.pb c.pr).2.2.1), .int .i64 ((wholeZ c.pb c.pr).2.2.2), .int .i64 ((qStC_1 c).1), .int .i64 ((qStC_1 c).2.1), .int .i64 ((qStC_1 c).2.2.1), .int .i64 ((qStC_1 c).2.2.2), .int .u32 (c.modes % 131072), .int .i64 (clipZ c.level 1 5), .bool c.eight, .bool c.stream, .int .i64 (clipZ c.status 0 2), .bool c.below, .int .i64 (clipZ c.page 0 ((clipZ c.pages 1 16) - 1)), .int .i64 (clipZ c.pages 1 16)] 43 (0, 0)), (g_4, .cells czA 43 (0, 0)), (g_21, .cells #[.int .i64 (-1)] 3 (0, 0))]) hs_98 rfl rfl rfl (by kernel_rfl) (by kernel_rfl) rfl (by kernel_rfl) (by kernel_rfl) rfl (by kernel_rfl) rfl (fun w_99 hs_100 => ?_)
          refine SL.nil ?_
          refine CW.seq ?_
          refine CW.region ?_
          refine SL.load (g := g_1) (off := 0) (v := .agg #[.int .i64 ((qStC_0 c).1), .int .i64 ((qStC_0 c).2), .int .u8 (c.rend % 32), .bool c.kept, .bool c.wrap, .bool c.origin, .int .i64 c.g0, .int .i64 c.g1, .int .i64 c.g2, .int .i64 c.g3, .int .i64 (uL c.gl), .int .i64 (uR c.gr), .int .i64 (bif (c.sg == 2) then c.sg else 0), .int .i64 ((wholeZ c.pb c.pr).1), .int .i64 ((wholeZ c.pb c.pr).2.1), .int .i64 ((wholeZ c.pb c.pr).2.2.1), .int .i64 ((wholeZ c.pb c.pr).2.2.2), .int .i64 ((qStC_1 c).1), .int .i64 ((qStC_1 c).2.1), .int .i64 ((qStC_1 c).2.2.1), .int .i64 ((qStC_1 c).2.2.2), .int .u32 (c.modes % 131072), .int .i64 (clipZ c.level 1 5), .bool c.eight, .bool c.stream, .int .i64 (clipZ c.status 0 2), .bool c.below, .int .i64 (clipZ c.page 0 ((clipZ c.pages 1 16) - 1)), .int .i64 (clipZ c.pages 1 16)]) rfl rfl rfl (by kernel_rfl) (hs_100.all 0 g_1 _ rfl) (by kernel_rfl) ?_
          refine SL.store (i := 1) (g := g_4) (off := 0) (v := .agg #[.int .i64 ((qStC_0 c).1), .int .i64 ((qStC_0 c).2), .int .u8 (c.rend % 32), .bool c.kept, .bool c.wrap, .bool c.origin, .int .i64 c.g0, .int .i64 c.g1, .int .i64 c.g2, .int .i64 c.g3, .int .i64 (uL c.gl), .int .i64 (uR c.gr), .int .i64 (bif (c.sg == 2) then c.sg else 0), .int .i64 ((wholeZ c.pb c.pr).1), .int .i64 ((wholeZ c.pb c.pr).2.1), .int .i64 ((wholeZ c.pb c.pr).2.2.1), .int .i64 ((wholeZ c.pb c.pr).2.2.2), .int .i64 ((qStC_1 c).1), .int .i64 ((qStC_1 c).2.1), .int .i64 ((qStC_1 c).2.2.1), .int .i64 ((qStC_1 c).2.2.2), .int .u32 (c.modes % 131072), .int .i64 (clipZ c.level 1 5), .bool c.eight, .bool c.stream, .int .i64 (clipZ c.status 0 2), .bool c.below, .int .i64 (clipZ c.page 0 ((clipZ c.pages 1 16) - 1)), .int .i64 (clipZ c.pages 1 16)]) (L' := [(g_1, .cells #[.int .i64 ((qStC_0 c).1), .int .i64 ((qStC_0 c).2), .int .u8 (c.rend % 32), .bool c.kept, .bool c.wrap, .bool c.origin, .int .i64 c.g0, .int .i64 c.g1, .int .i64 c.g2, .int .i64 c.g3, .int .i64 (uL c.gl), .int .i64 (uR c.gr), .int .i64 (bif (c.sg == 2) then c.sg else 0), .int .i64 ((wholeZ c.pb c.pr).1), .int .i64 ((wholeZ c.pb c.pr).2.1), .int .i64 ((wholeZ c.pb c.pr).2.2.1), .int .i64 ((wholeZ c.pb c.pr).2.2.2), .int .i64 ((qStC_1 c).1), .int .i64 ((qStC_1 c).2.1), .int .i64 ((qStC_1 c).2.2.1), .int .i64 ((qStC_1 c).2.2.2), .int .u32 (c.modes % 131072), .int .i64 (clipZ c.level 1 5), .bool c.eight, .bool c.stream, .int .i64 (clipZ c.status 0 2), .bool c.below, .int .i64 (clipZ c.page 0 ((clipZ c.pages 1 16) - 1)), .int .i64 (clipZ c.pages 1 16)] 43 (0, 0)), (g_4, .cells #[.int .i64 ((qStC_0 c).1), .int .i64 ((qStC_0 c).2), .int .u8 (c.rend % 32), .bool c.kept, .bool c.wrap, .bool c.origin, .int .i64 c.g0, .int .i64 c.g1, .int .i64 c.g2, .int .i64 c.g3, .int .i64 (uL c.gl), .int .i64 (uR c.gr), .int .i64 (bif (c.sg == 2) then c.sg else 0), .int .i64 ((wholeZ c.pb c.pr).1), .int .i64 ((wholeZ c.pb c.pr).2.1), .int .i64 ((wholeZ c.pb c.pr).2.2.1), .int .i64 ((wholeZ c.pb c.pr).2.2.2), .int .i64 ((qStC_1 c).1), .int .i64 ((qStC_1 c).2.1), .int .i64 ((qStC_1 c).2.2.1), .int .i64 ((qStC_1 c).2.2.2), .int .u32 (c.modes % 131072), .int .i64 (clipZ c.level 1 5), .bool c.eight, .bool c.stream, .int .i64 (clipZ c.status 0 2), .bool c.below, .int .i64 (clipZ c.page 0 ((clipZ c.pages 1 16) - 1)), .int .i64 (clipZ c.pages 1 16)] 43 (0, 0)), (g_21, .cells #[.int .i64 (-1)] 3 (0, 0))]) hs_100 rfl rfl rfl (by kernel_rfl) (by kernel_rfl) rfl (by kernel_rfl) (by kernel_rfl) rfl (by kernel_rfl) rfl (fun w_101 hs_102 => ?_)
          refine SL.nil ?_
          refine CW.ret ?_
          repeat with_reducible first | refine PThen.ret ?_ | refine PBlock.ret ?_
          refine PRet.cell (t := 2) (ty := 43) (g := g_4) (v := .agg #[.int .i64 ((qStC_0 c).1), .int .i64 ((qStC_0 c).2), .int .u8 (c.rend % 32), .bool c.kept, .bool c.wrap, .bool c.origin, .int .i64 c.g0, .int .i64 c.g1, .int .i64 c.g2, .int .i64 c.g3, .int .i64 (uL c.gl), .int .i64 (uR c.gr), .int .i64 (bif (c.sg == 2) then c.sg else 0), .int .i64 ((wholeZ c.pb c.pr).1), .int .i64 ((wholeZ c.pb c.pr).2.1), .int .i64 ((wholeZ c.pb c.pr).2.2.1), .int .i64 ((wholeZ c.pb c.pr).2.2.2), .int .i64 ((qStC_1 c).1), .int .i64 ((qStC_1 c).2.1), .int .i64 ((qStC_1 c).2.2.1), .int .i64 ((qStC_1 c).2.2.2), .int .u32 (c.modes % 131072), .int .i64 (clipZ c.level 1 5), .bool c.eight, .bool c.stream, .int .i64 (clipZ c.status 0 2), .bool c.below, .int .i64 (clipZ c.page 0 ((clipZ c.pages 1 16) - 1)), .int .i64 (clipZ c.pages 1 16)]) rfl rfl (by kernel_rfl) (hs_102.all 1 g_4 _ rfl) (by kernel_rfl) ?_
          exact ⟨by simp only [Cor.v, Cor.clean, hb_36, Bool.or_true, Bool.or_false]; rfl, hs_102.gr⟩
end Go.Proofs.YthfipedfoofobaaDoor
