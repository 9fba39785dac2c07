/-
  Frames, modes and renditions, walked (gen_sta.py).
-/
import Derived.Test.YthfipedfoofobaaDoorZSbt
import Derived.Test.YthfipedfoofobaaDoorZIsC
namespace Go.Proofs.YthfipedfoofobaaDoor
set_option linter.unusedSimpArgs false
set_option linter.unusedVariables false
open Go.RowKit
set_option linter.unusedVariables false

/-- The page, and the margins. -/
def wholeZ (pb pr : Int) : Int × Int × Int × Int := (0, 0, max 0 (max 1 pb), max 0 (max 1 pr))
def innerZ (pb pr mt ml mb mr : Int) : Int × Int × Int × Int :=
  if emptyZ (meetZ 0 0 (max 0 (max 1 pb)) (max 0 (max 1 pr)) mt ml mb mr).1 (meetZ 0 0 (max 0 (max 1 pb)) (max 0 (max 1 pr)) mt ml mb mr).2.1 (meetZ 0 0 (max 0 (max 1 pb)) (max 0 (max 1 pr)) mt ml mb mr).2.2.1 (meetZ 0 0 (max 0 (max 1 pb)) (max 0 (max 1 pr)) mt ml mb mr).2.2.2 = true then wholeZ pb pr
  else meetZ 0 0 (max 0 (max 1 pb)) (max 0 (max 1 pr)) mt ml mb mr
abbrev qStA_0 (pb : Int) (pr : Int) : Array Value := #[.int .i64 0, .int .i64 0, .int .i64 (max 0 (max 1 pb)), .int .i64 (max 0 (max 1 pr))]
abbrev qStA_1  : Array Value := #[.int .i64 0, .int .i64 0, .int .i64 0, .int .i64 0]
set_option maxRecDepth 100000 in
set_option maxHeartbeats 4000000 in
theorem fwhole_any (pt pl pb pr mt ml mb mr : Int) (w : World) : Calls Tryd.prog 19 #[.agg #[.int .i64 pt, .int .i64 pl, .int .i64 pb, .int .i64 pr, .int .i64 mt, .int .i64 ml, .int .i64 mb, .int .i64 mr]] w fun e w' => e = .returned (b4 (wholeZ pb pr)) ∧ Gr w w' := by
  refine calls_sx (n := 12) (args := [.agg #[.int .i64 pt, .int .i64 pl, .int .i64 pb, .int .i64 pr, .int .i64 mt, .int .i64 ml, .int .i64 mb, .int .i64 mr]]) Tryd.func19 rfl rfl rfl ?_
  have hs0 := Bk.init w
  refine CW.seq ?_
  refine CW.region ?_
  refine SL.new (mk := fun g => .pointer (some ⟨g, 0, none⟩)) (C := #[.int .i64 pt, .int .i64 pl, .int .i64 pb, .int .i64 pr, .int .i64 mt, .int .i64 ml, .int .i64 mb, .int .i64 mr]) (T := 39) hs0 rfl rfl (by kernel_rfl) (fun g_1 w_2 hs_3 => ?_)
  have hs_3 : Bk w w_2 [(g_1, .cells #[.int .i64 pt, .int .i64 pl, .int .i64 pb, .int .i64 pr, .int .i64 mt, .int .i64 ml, .int .i64 mb, .int .i64 mr] 39 (0, 0))] := hs_3
  refine SL.new (mk := fun g => .pointer (some ⟨g, 0, none⟩)) (C := (qStA_1)) (T := 29) hs_3 rfl rfl (by kernel_rfl) (fun g_4 w_5 hs_6 => ?_)
  have hs_6 : Bk w w_5 [(g_1, .cells #[.int .i64 pt, .int .i64 pl, .int .i64 pb, .int .i64 pr, .int .i64 mt, .int .i64 ml, .int .i64 mb, .int .i64 mr] 39 (0, 0)), (g_4, .cells (qStA_1) 29 (0, 0))] := hs_6
  refine SL.nil ?_
  refine CW.seq ?_
  refine CW.region ?_
  refine SL.v (.pointer (some ⟨g_1, 0, none⟩)) ?_
  refine SL.v (.pointer (some ⟨g_1, 2, none⟩)) ?_
  refine SL.load (g := g_1) (off := 2) (v := .int .i64 pb) rfl rfl rfl (by kernel_rfl) (hs_6.all 0 g_1 _ rfl) (by kernel_rfl) ?_
  refine SL.val (v := .int .i64 (max 1 pb)) (w' := w_5) rfl rfl (run_eqv (by kernel_rfl) (congrArg (Value.int .i64) (imax 1 pb))) ?_
  refine SL.v (.pointer (some ⟨g_1, 0, none⟩)) ?_
  refine SL.v (.pointer (some ⟨g_1, 3, none⟩)) ?_
  refine SL.load (g := g_1) (off := 3) (v := .int .i64 pr) rfl rfl rfl (by kernel_rfl) (hs_6.all 0 g_1 _ rfl) (by kernel_rfl) ?_
  refine SL.val (v := .int .i64 (max 1 pr)) (w' := w_5) rfl rfl (run_eqv (by kernel_rfl) (congrArg (Value.int .i64) (imax 1 pr))) ?_
  refine SL.call (f := 35) (args := #[.int .i64 (max 1 pb), .int .i64 (max 1 pr)]) (w1 := w_5) rfl rfl (by kernel_rfl) (whole_any (max 1 pb) (max 1 pr) w_5) ?_
  rintro x w_7 ⟨rfl, hc_8⟩
  refine ⟨.agg (qStA_0 pb pr), rfl, ?_⟩
  have hs_9 := hs_6.grow hc_8
  refine SL.store (i := 1) (g := g_4) (off := 0) (v := .agg (qStA_0 pb pr)) (L' := [(g_1, .cells #[.int .i64 pt, .int .i64 pl, .int .i64 pb, .int .i64 pr, .int .i64 mt, .int .i64 ml, .int .i64 mb, .int .i64 mr] 39 (0, 0)), (g_4, .cells (qStA_0 pb pr) 29 (0, 0))]) hs_9 rfl rfl rfl (by kernel_rfl) (by kernel_rfl) rfl (by kernel_rfl) (by kernel_rfl) rfl (by kernel_rfl) rfl (fun w_10 hs_11 => ?_)
  refine SL.nil ?_
  refine CW.ret ?_
  repeat with_reducible first | refine PThen.ret ?_ | refine PBlock.ret ?_
  refine PRet.cell (t := 2) (ty := 29) (g := g_4) (v := .agg (qStA_0 pb pr)) rfl rfl (by kernel_rfl) (hs_11.all 1 g_4 _ rfl) (by kernel_rfl) ?_
  exact ⟨rfl, hs_11.gr⟩
set_option maxRecDepth 100000 in
set_option maxHeartbeats 4000000 in
theorem finner_any (pt pl pb pr mt ml mb mr : Int) (w : World) : Calls Tryd.prog 20 #[.agg #[.int .i64 pt, .int .i64 pl, .int .i64 pb, .int .i64 pr, .int .i64 mt, .int .i64 ml, .int .i64 mb, .int .i64 mr]] w fun e w' => e = .returned (b4 (innerZ pb pr mt ml mb mr)) ∧ Gr w w' := by
  refine calls_sx (n := 15) (args := [.agg #[.int .i64 pt, .int .i64 pl, .int .i64 pb, .int .i64 pr, .int .i64 mt, .int .i64 ml, .int .i64 mb, .int .i64 mr]]) Tryd.func20 rfl rfl rfl ?_
  have hs0 := Bk.init w
  refine CW.seq ?_
  refine CW.region ?_
  refine SL.new (mk := fun g => .pointer (some ⟨g, 0, none⟩)) (C := #[.int .i64 pt, .int .i64 pl, .int .i64 pb, .int .i64 pr, .int .i64 mt, .int .i64 ml, .int .i64 mb, .int .i64 mr]) (T := 39) hs0 rfl rfl (by kernel_rfl) (fun g_1 w_2 hs_3 => ?_)
  have hs_3 : Bk w w_2 [(g_1, .cells #[.int .i64 pt, .int .i64 pl, .int .i64 pb, .int .i64 pr, .int .i64 mt, .int .i64 ml, .int .i64 mb, .int .i64 mr] 39 (0, 0))] := hs_3
  refine SL.new (mk := fun g => .pointer (some ⟨g, 0, none⟩)) (C := (qStA_1)) (T := 29) hs_3 rfl rfl (by kernel_rfl) (fun g_4 w_5 hs_6 => ?_)
  have hs_6 : Bk w w_5 [(g_1, .cells #[.int .i64 pt, .int .i64 pl, .int .i64 pb, .int .i64 pr, .int .i64 mt, .int .i64 ml, .int .i64 mb, .int .i64 mr] 39 (0, 0)), (g_4, .cells (qStA_1) 29 (0, 0))] := hs_6
  refine SL.nil ?_
  refine CW.seq ?_
  refine CW.seq ?_
  have HGR : GrL [fun v _ => v = .agg #[.int .i64 pt, .int .i64 pl, .int .i64 pb, .int .i64 pr, .int .i64 mt, .int .i64 ml, .int .i64 mb, .int .i64 mr], fun v _ => v = .agg (qStA_0 pb pr), fun v _ => v = .pointer (some ⟨g_1, 4, none⟩), fun v _ => v = .agg #[.int .i64 mt, .int .i64 ml, .int .i64 mb, .int .i64 mr], fun v _ => v = .agg #[.int .i64 ((meetZ 0 0 (max 0 (max 1 pb)) (max 0 (max 1 pr)) mt ml mb mr).1), .int .i64 ((meetZ 0 0 (max 0 (max 1 pb)) (max 0 (max 1 pr)) mt ml mb mr).2.1), .int .i64 ((meetZ 0 0 (max 0 (max 1 pb)) (max 0 (max 1 pr)) mt ml mb mr).2.2.1), .int .i64 ((meetZ 0 0 (max 0 (max 1 pb)) (max 0 (max 1 pr)) mt ml mb mr).2.2.2)], NewB w_5 (fun g => .pointer (some ⟨g, 0, none⟩)) (.cells (qStA_1) 29 (0, 0))] := ⟨fun _ _ _ _ h => h, ⟨fun _ _ _ _ h => h, ⟨fun _ _ _ _ h => h, ⟨fun _ _ _ _ h => h, ⟨fun _ _ _ _ h => h, ⟨fun _ _ _ hg h => NewB.gr hg h, trivial⟩⟩⟩⟩⟩⟩
  refine CW.draw 6 (FW [fun v _ => v = .agg #[.int .i64 pt, .int .i64 pl, .int .i64 pb, .int .i64 pr, .int .i64 mt, .int .i64 ml, .int .i64 mb, .int .i64 mr], fun v _ => v = .agg (qStA_0 pb pr), fun v _ => v = .pointer (some ⟨g_1, 4, none⟩), fun v _ => v = .agg #[.int .i64 mt, .int .i64 ml, .int .i64 mb, .int .i64 mr], fun v _ => v = .agg #[.int .i64 ((meetZ 0 0 (max 0 (max 1 pb)) (max 0 (max 1 pr)) mt ml mb mr).1), .int .i64 ((meetZ 0 0 (max 0 (max 1 pb)) (max 0 (max 1 pr)) mt ml mb mr).2.1), .int .i64 ((meetZ 0 0 (max 0 (max 1 pb)) (max 0 (max 1 pr)) mt ml mb mr).2.2.1), .int .i64 ((meetZ 0 0 (max 0 (max 1 pb)) (max 0 (max 1 pr)) mt ml mb mr).2.2.2)], NewB w_5 (fun g => .pointer (some ⟨g, 0, none⟩)) (.cells (qStA_1) 29 (0, 0))]) (fun W => Bk w W [(g_1, .cells #[.int .i64 pt, .int .i64 pl, .int .i64 pb, .int .i64 pr, .int .i64 mt, .int .i64 ml, .int .i64 mb, .int .i64 mr] 39 (0, 0)), (g_4, .cells (qStA_1) 29 (0, 0))] ∧ Gr w_5 W) (by kernel_rfl) (by kernel_rfl) (by kernel_rfl) (by kernel_rfl) (by kernel_rfl) ⟨hs_6.drew, (Gr.refl _).drew⟩ ?_ ?_
  · refine ⟨?_, ⟨?_, ⟨?_, ⟨?_, ⟨?_, ⟨?_, trivial⟩⟩⟩⟩⟩⟩
    · intro L ys W hB hF hP K hK
      show OpE _ _ _ W K
      exact OpE.load (g := g_1) (off := 0) (v := .agg #[.int .i64 pt, .int .i64 pl, .int .i64 pb, .int .i64 pr, .int .i64 mt, .int .i64 ml, .int .i64 mb, .int .i64 mr]) rfl (by kernel_rfl) (hB.1.all 0 g_1 _ rfl) (by kernel_rfl) (hK _ W hB rfl (fun _ _ h => h))
    · intro L ys W hB hF hP K hK
      show OpE _ _ _ W K
      exact OpE.known (j := 0) (v := .agg #[.int .i64 pt, .int .i64 pl, .int .i64 pb, .int .i64 pr, .int .i64 mt, .int .i64 ml, .int .i64 mb, .int .i64 mr]) (hF 0 (hP.1 rfl)) (OpE.call 19 #[.agg #[.int .i64 pt, .int .i64 pl, .int .i64 pb, .int .i64 pr, .int .i64 mt, .int .i64 ml, .int .i64 mb, .int .i64 mr]] W _ (by kernel_rfl) (fwhole_any pt pl pb pr mt ml mb mr W) (fun x w' hx => by obtain ⟨rfl, hg⟩ := hx; exact ⟨_, rfl, hK _ w' ⟨hB.1.grow hg, hB.2.trans hg⟩ rfl (fun _ _ h => FW.gr HGR hg h)⟩))
    · intro L ys W hB hF hP K hK
      show OpE _ _ _ W K
      exact OpE.val (.pointer (some ⟨g_1, 4, none⟩)) W (by kernel_rfl) (hK _ W hB rfl (fun _ _ h => h))
    · intro L ys W hB hF hP K hK
      show OpE _ _ _ W K
      exact OpE.known (j := 2) (v := .pointer (some ⟨g_1, 4, none⟩)) (hF 2 (hP.1 rfl)) (OpE.load (g := g_1) (off := 4) (v := .agg #[.int .i64 mt, .int .i64 ml, .int .i64 mb, .int .i64 mr]) rfl (by kernel_rfl) (hB.1.all 0 g_1 _ rfl) (by kernel_rfl) (hK _ W hB rfl (fun _ _ h => h)))
    · intro L ys W hB hF hP K hK
      show OpE _ _ _ W K
      exact OpE.known (j := 1) (v := .agg (qStA_0 pb pr)) (hF 1 (hP.2.2.1 rfl)) (OpE.known (j := 3) (v := .agg #[.int .i64 mt, .int .i64 ml, .int .i64 mb, .int .i64 mr]) (hF 3 (hP.2.1 rfl)) (OpE.call 36 #[.agg (qStA_0 pb pr), .agg #[.int .i64 mt, .int .i64 ml, .int .i64 mb, .int .i64 mr]] W _ (by kernel_rfl) (meet_any 0 0 (max 0 (max 1 pb)) (max 0 (max 1 pr)) mt ml mb mr W) (fun x w' hx => by obtain ⟨rfl, hg⟩ := hx; exact ⟨_, rfl, hK _ w' ⟨hB.1.grow hg, hB.2.trans hg⟩ rfl (fun _ _ h => FW.gr HGR hg h)⟩)))
    · intro L ys W hB hF hP K hK
      show OpE _ _ _ W K
      exact OpE.new (mk := fun g => .pointer (some ⟨g, 0, none⟩)) (C := (qStA_1)) (T := 29) (by kernel_rfl) (hK _ _ ⟨hB.1.grow ((Gr.refl W).alloc _), hB.2.alloc _⟩ ⟨W.heap.size, rfl, heap_alloc_new _ _, hB.2.size⟩ (fun _ _ h => FW.gr HGR ((Gr.refl W).alloc _) h))
  · intro ys_10 w_7 hs_8 hF_9
    have hs_8 : Bk w w_7 [(g_1, .cells #[.int .i64 pt, .int .i64 pl, .int .i64 pb, .int .i64 pr, .int .i64 mt, .int .i64 ml, .int .i64 mb, .int .i64 mr] 39 (0, 0)), (g_4, .cells (qStA_1) 29 (0, 0))] := hs_8.1
    obtain ⟨g_11, hvq5, hbq5, hgq5⟩ := hF_9 5 (by decide)
    have hs_12 := hs_8.add hbq5 (Nat.le_trans hs_6.gr.size hgq5) (Bk.new_ne hs_6 hgq5)
    have hs_12 : Bk w w_7 [(g_1, .cells #[.int .i64 pt, .int .i64 pl, .int .i64 pb, .int .i64 pr, .int .i64 mt, .int .i64 ml, .int .i64 mb, .int .i64 mr] 39 (0, 0)), (g_4, .cells (qStA_1) 29 (0, 0)), (g_11, .cells (qStA_1) 29 (0, 0))] := hs_12
    refine SL.knownY (j := 4) (v := .agg #[.int .i64 ((meetZ 0 0 (max 0 (max 1 pb)) (max 0 (max 1 pr)) mt ml mb mr).1), .int .i64 ((meetZ 0 0 (max 0 (max 1 pb)) (max 0 (max 1 pr)) mt ml mb mr).2.1), .int .i64 ((meetZ 0 0 (max 0 (max 1 pb)) (max 0 (max 1 pr)) mt ml mb mr).2.2.1), .int .i64 ((meetZ 0 0 (max 0 (max 1 pb)) (max 0 (max 1 pr)) mt ml mb mr).2.2.2)]) (show ys_10 4 = .agg #[.int .i64 ((meetZ 0 0 (max 0 (max 1 pb)) (max 0 (max 1 pr)) mt ml mb mr).1), .int .i64 ((meetZ 0 0 (max 0 (max 1 pb)) (max 0 (max 1 pr)) mt ml mb mr).2.1), .int .i64 ((meetZ 0 0 (max 0 (max 1 pb)) (max 0 (max 1 pr)) mt ml mb mr).2.2.1), .int .i64 ((meetZ 0 0 (max 0 (max 1 pb)) (max 0 (max 1 pr)) mt ml mb mr).2.2.2)] from hF_9 4 (by decide)) (SL.knownY (j := 5) (v := .pointer (some ⟨g_11, 0, none⟩)) hvq5 (?_))
    clear hF_9 HGR
    refine SL.store (i := 2) (g := g_11) (off := 0) (v := .agg #[.int .i64 ((meetZ 0 0 (max 0 (max 1 pb)) (max 0 (max 1 pr)) mt ml mb mr).1), .int .i64 ((meetZ 0 0 (max 0 (max 1 pb)) (max 0 (max 1 pr)) mt ml mb mr).2.1), .int .i64 ((meetZ 0 0 (max 0 (max 1 pb)) (max 0 (max 1 pr)) mt ml mb mr).2.2.1), .int .i64 ((meetZ 0 0 (max 0 (max 1 pb)) (max 0 (max 1 pr)) mt ml mb mr).2.2.2)]) (L' := [(g_1, .cells #[.int .i64 pt, .int .i64 pl, .int .i64 pb, .int .i64 pr, .int .i64 mt, .int .i64 ml, .int .i64 mb, .int .i64 mr] 39 (0, 0)), (g_4, .cells (qStA_1) 29 (0, 0)), (g_11, .cells #[.int .i64 ((meetZ 0 0 (max 0 (max 1 pb)) (max 0 (max 1 pr)) mt ml mb mr).1), .int .i64 ((meetZ 0 0 (max 0 (max 1 pb)) (max 0 (max 1 pr)) mt ml mb mr).2.1), .int .i64 ((meetZ 0 0 (max 0 (max 1 pb)) (max 0 (max 1 pr)) mt ml mb mr).2.2.1), .int .i64 ((meetZ 0 0 (max 0 (max 1 pb)) (max 0 (max 1 pr)) mt ml mb mr).2.2.2)] 29 (0, 0))]) hs_12 rfl rfl rfl (by kernel_rfl) (by kernel_rfl) rfl (by kernel_rfl) (by kernel_rfl) rfl (by kernel_rfl) rfl (fun w_13 hs_14 => ?_)
    refine SL.nil ?_
    refine CW.seq ?_
    refine CW.region ?_
    refine SL.load (g := g_11) (off := 0) (v := .agg #[.int .i64 ((meetZ 0 0 (max 0 (max 1 pb)) (max 0 (max 1 pr)) mt ml mb mr).1), .int .i64 ((meetZ 0 0 (max 0 (max 1 pb)) (max 0 (max 1 pr)) mt ml mb mr).2.1), .int .i64 ((meetZ 0 0 (max 0 (max 1 pb)) (max 0 (max 1 pr)) mt ml mb mr).2.2.1), .int .i64 ((meetZ 0 0 (max 0 (max 1 pb)) (max 0 (max 1 pr)) mt ml mb mr).2.2.2)]) rfl rfl rfl (by kernel_rfl) (hs_14.all 2 g_11 _ rfl) (by kernel_rfl) ?_
    refine SL.call (f := 37) (args := #[.agg #[.int .i64 ((meetZ 0 0 (max 0 (max 1 pb)) (max 0 (max 1 pr)) mt ml mb mr).1), .int .i64 ((meetZ 0 0 (max 0 (max 1 pb)) (max 0 (max 1 pr)) mt ml mb mr).2.1), .int .i64 ((meetZ 0 0 (max 0 (max 1 pb)) (max 0 (max 1 pr)) mt ml mb mr).2.2.1), .int .i64 ((meetZ 0 0 (max 0 (max 1 pb)) (max 0 (max 1 pr)) mt ml mb mr).2.2.2)]]) (w1 := w_13) rfl rfl (by kernel_rfl) (empty_any ((meetZ 0 0 (max 0 (max 1 pb)) (max 0 (max 1 pr)) mt ml mb mr).1) ((meetZ 0 0 (max 0 (max 1 pb)) (max 0 (max 1 pr)) mt ml mb mr).2.1) ((meetZ 0 0 (max 0 (max 1 pb)) (max 0 (max 1 pr)) mt ml mb mr).2.2.1) ((meetZ 0 0 (max 0 (max 1 pb)) (max 0 (max 1 pr)) mt ml mb mr).2.2.2) w_13) ?_
    rintro x w_15 ⟨rfl, hc_16⟩
    refine ⟨.bool (emptyZ ((meetZ 0 0 (max 0 (max 1 pb)) (max 0 (max 1 pr)) mt ml mb mr).1) ((meetZ 0 0 (max 0 (max 1 pb)) (max 0 (max 1 pr)) mt ml mb mr).2.1) ((meetZ 0 0 (max 0 (max 1 pb)) (max 0 (max 1 pr)) mt ml mb mr).2.2.1) ((meetZ 0 0 (max 0 (max 1 pb)) (max 0 (max 1 pr)) mt ml mb mr).2.2.2)), rfl, ?_⟩
    have hs_17 := hs_14.grow hc_16
    refine SL.v (.bool (!(emptyZ ((meetZ 0 0 (max 0 (max 1 pb)) (max 0 (max 1 pr)) mt ml mb mr).1) ((meetZ 0 0 (max 0 (max 1 pb)) (max 0 (max 1 pr)) mt ml mb mr).2.1) ((meetZ 0 0 (max 0 (max 1 pb)) (max 0 (max 1 pr)) mt ml mb mr).2.2.1) ((meetZ 0 0 (max 0 (max 1 pb)) (max 0 (max 1 pr)) mt ml mb mr).2.2.2)))) ?_
    refine SL.nil ?_
    rcases Bool.eq_false_or_eq_true (emptyZ ((meetZ 0 0 (max 0 (max 1 pb)) (max 0 (max 1 pr)) mt ml mb mr).1) ((meetZ 0 0 (max 0 (max 1 pb)) (max 0 (max 1 pr)) mt ml mb mr).2.1) ((meetZ 0 0 (max 0 (max 1 pb)) (max 0 (max 1 pr)) mt ml mb mr).2.2.1) ((meetZ 0 0 (max 0 (max 1 pb)) (max 0 (max 1 pr)) mt ml mb mr).2.2.2)) with hb_18 | hb_18
    · try rw [hb_18]
      have hqhb_18 := empty_t hb_18
      refine CW.cond_false (by kernel_rfl) ?_
      refine CW.skip ?_
      refine CW.seq ?_
      refine CW.region ?_
      refine SL.load (g := g_1) (off := 0) (v := .agg #[.int .i64 pt, .int .i64 pl, .int .i64 pb, .int .i64 pr, .int .i64 mt, .int .i64 ml, .int .i64 mb, .int .i64 mr]) rfl rfl rfl (by kernel_rfl) (hs_17.all 0 g_1 _ rfl) (by kernel_rfl) ?_
      refine SL.call (f := 19) (args := #[.agg #[.int .i64 pt, .int .i64 pl, .int .i64 pb, .int .i64 pr, .int .i64 mt, .int .i64 ml, .int .i64 mb, .int .i64 mr]]) (w1 := w_15) rfl rfl (by kernel_rfl) (fwhole_any pt pl pb pr mt ml mb mr w_15) ?_
      rintro x w_19 ⟨rfl, hc_20⟩
      refine ⟨.agg (qStA_0 pb pr), rfl, ?_⟩
      have hs_21 := hs_17.grow hc_20
      refine SL.store (i := 1) (g := g_4) (off := 0) (v := .agg (qStA_0 pb pr)) (L' := [(g_1, .cells #[.int .i64 pt, .int .i64 pl, .int .i64 pb, .int .i64 pr, .int .i64 mt, .int .i64 ml, .int .i64 mb, .int .i64 mr] 39 (0, 0)), (g_4, .cells (qStA_0 pb pr) 29 (0, 0)), (g_11, .cells #[.int .i64 ((meetZ 0 0 (max 0 (max 1 pb)) (max 0 (max 1 pr)) mt ml mb mr).1), .int .i64 ((meetZ 0 0 (max 0 (max 1 pb)) (max 0 (max 1 pr)) mt ml mb mr).2.1), .int .i64 ((meetZ 0 0 (max 0 (max 1 pb)) (max 0 (max 1 pr)) mt ml mb mr).2.2.1), .int .i64 ((meetZ 0 0 (max 0 (max 1 pb)) (max 0 (max 1 pr)) mt ml mb mr).2.2.2)] 29 (0, 0))]) hs_21 rfl rfl rfl (by kernel_rfl) (by kernel_rfl) rfl (by kernel_rfl) (by kernel_rfl) rfl (by kernel_rfl) rfl (fun w_22 hs_23 => ?_)
      refine SL.nil ?_
      refine CW.ret ?_
      repeat with_reducible first | refine PThen.ret ?_ | refine PBlock.ret ?_
      refine PRet.cell (t := 2) (ty := 29) (g := g_4) (v := .agg (qStA_0 pb pr)) rfl rfl (by kernel_rfl) (hs_23.all 1 g_4 _ rfl) (by kernel_rfl) ?_
      exact ⟨by unfold b4 innerZ wholeZ; simp [hb_18], hs_23.gr⟩
    · try rw [hb_18]
      have hqhb_18 := empty_f hb_18
      refine CW.cond_true (by kernel_rfl) ?_
      refine CW.seq ?_
      refine CW.region ?_
      refine SL.load (g := g_11) (off := 0) (v := .agg #[.int .i64 ((meetZ 0 0 (max 0 (max 1 pb)) (max 0 (max 1 pr)) mt ml mb mr).1), .int .i64 ((meetZ 0 0 (max 0 (max 1 pb)) (max 0 (max 1 pr)) mt ml mb mr).2.1), .int .i64 ((meetZ 0 0 (max 0 (max 1 pb)) (max 0 (max 1 pr)) mt ml mb mr).2.2.1), .int .i64 ((meetZ 0 0 (max 0 (max 1 pb)) (max 0 (max 1 pr)) mt ml mb mr).2.2.2)]) rfl rfl rfl (by kernel_rfl) (hs_17.all 2 g_11 _ rfl) (by kernel_rfl) ?_
      refine SL.store (i := 1) (g := g_4) (off := 0) (v := .agg #[.int .i64 ((meetZ 0 0 (max 0 (max 1 pb)) (max 0 (max 1 pr)) mt ml mb mr).1), .int .i64 ((meetZ 0 0 (max 0 (max 1 pb)) (max 0 (max 1 pr)) mt ml mb mr).2.1), .int .i64 ((meetZ 0 0 (max 0 (max 1 pb)) (max 0 (max 1 pr)) mt ml mb mr).2.2.1), .int .i64 ((meetZ 0 0 (max 0 (max 1 pb)) (max 0 (max 1 pr)) mt ml mb mr).2.2.2)]) (L' := [(g_1, .cells #[.int .i64 pt, .int .i64 pl, .int .i64 pb, .int .i64 pr, .int .i64 mt, .int .i64 ml, .int .i64 mb, .int .i64 mr] 39 (0, 0)), (g_4, .cells #[.int .i64 ((meetZ 0 0 (max 0 (max 1 pb)) (max 0 (max 1 pr)) mt ml mb mr).1), .int .i64 ((meetZ 0 0 (max 0 (max 1 pb)) (max 0 (max 1 pr)) mt ml mb mr).2.1), .int .i64 ((meetZ 0 0 (max 0 (max 1 pb)) (max 0 (max 1 pr)) mt ml mb mr).2.2.1), .int .i64 ((meetZ 0 0 (max 0 (max 1 pb)) (max 0 (max 1 pr)) mt ml mb mr).2.2.2)] 29 (0, 0)), (g_11, .cells #[.int .i64 ((meetZ 0 0 (max 0 (max 1 pb)) (max 0 (max 1 pr)) mt ml mb mr).1), .int .i64 ((meetZ 0 0 (max 0 (max 1 pb)) (max 0 (max 1 pr)) mt ml mb mr).2.1), .int .i64 ((meetZ 0 0 (max 0 (max 1 pb)) (max 0 (max 1 pr)) mt ml mb mr).2.2.1), .int .i64 ((meetZ 0 0 (max 0 (max 1 pb)) (max 0 (max 1 pr)) mt ml mb mr).2.2.2)] 29 (0, 0))]) hs_17 rfl rfl rfl (by kernel_rfl) (by kernel_rfl) rfl (by kernel_rfl) (by kernel_rfl) rfl (by kernel_rfl) rfl (fun w_24 hs_25 => ?_)
      refine SL.nil ?_
      refine CW.ret ?_
      repeat with_reducible first | refine PThen.ret ?_ | refine PBlock.ret ?_
      refine PRet.cell (t := 2) (ty := 29) (g := g_4) (v := .agg #[.int .i64 ((meetZ 0 0 (max 0 (max 1 pb)) (max 0 (max 1 pr)) mt ml mb mr).1), .int .i64 ((meetZ 0 0 (max 0 (max 1 pb)) (max 0 (max 1 pr)) mt ml mb mr).2.1), .int .i64 ((meetZ 0 0 (max 0 (max 1 pb)) (max 0 (max 1 pr)) mt ml mb mr).2.2.1), .int .i64 ((meetZ 0 0 (max 0 (max 1 pb)) (max 0 (max 1 pr)) mt ml mb mr).2.2.2)]) rfl rfl (by kernel_rfl) (hs_25.all 1 g_4 _ rfl) (by kernel_rfl) ?_
      exact ⟨by unfold b4 innerZ wholeZ; simp [hb_18], hs_25.gr⟩
theorem blt (a b : Int) : (bif decide (b < a) then b else a) = min a b := by
  by_cases h : b < a
  · rw [decide_eq_true h, cond_true]; omega
  · rw [decide_eq_false h, cond_false]; omega
end Go.Proofs.YthfipedfoofobaaDoor
