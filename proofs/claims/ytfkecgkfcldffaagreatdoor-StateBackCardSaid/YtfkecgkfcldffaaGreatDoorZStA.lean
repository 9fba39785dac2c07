/-
 Frames, modes and renditions, walked (gen_sta.py).
-/
import Derived.Test.YtfkecgkfcldffaaGreatDoorZSbt
import Derived.Test.YtfkecgkfcldffaaGreatDoorZIsC
namespace Go.Proofs.YtfkecgkfcldffaaGreatDoor
set_option linter.unusedSimpArgs false
set_option linter.unusedVariables false
open Go.RowKit
set_option linter.unusedVariables false

/-- The page, and the margins. -/
def wholeZ (pb pr : Int) : Int × Int × Int × Int := (0, 0, max 0 (max 1 pb), max 0 (max 1 pr))
def innerZ (pb pr mt ml mb mr : Int) : Int × Int × Int × Int :=
 if emptyZ (meetZ 0 0 (max 0 (max 1 pb)) (max 0 (max 1 pr)) mt ml mb mr).1 (meetZ 0 0 (max 0 (max 1 pb)) (max 0 (max 1 pr)) mt ml mb mr).2.1 (meetZ 0 0 (max 0 (max 1 pb)) (max 0 (max 1 pr)) mt ml mb mr).2.2.1 (meetZ 0 0 (max 0 (max 1 pb)) (max 0 (max 1 pr)) mt ml mb mr).2.2.2 = true then wholeZ pb pr
 else meetZ 0 0 (max 0 (max 1 pb)) (max 0 (max 1 pr)) mt ml mb mr
abbrev qStA_0  : Array Value := #[iv 0, iv 0, iv 0, iv 0]
abbrev qStA_1 (pb : Int) (pr : Int) : Array Value := #[iv 0, iv 0, iv (max 0 (max 1 pb)), iv (max 0 (max 1 pr))]
set_option maxRecDepth 100000 in
set_option maxHeartbeats 4000000 in
theorem fwhole_any (pt pl pb pr mt ml mb mr : Int) (w : World) : Calls Tryz.prog 56 #[.agg #[iv pt, iv pl, iv pb, iv pr, iv mt, iv ml, iv mb, iv mr]] w fun e w' => e = .returned (b4 (wholeZ pb pr)) ∧ Gr w w' := by
 refine calls_sx (n := 12) (args := [.agg #[iv pt, iv pl, iv pb, iv pr, iv mt, iv ml, iv mb, iv mr]]) Tryz.func56 rfl rfl rfl ?_
 have hs0 := Bk.init w
 refine CW.seq ?_
 refine CW.region ?_
 refine SL.new (mk := fun g => pv g 0) (C := #[iv pt, iv pl, iv pb, iv pr, iv mt, iv ml, iv mb, iv mr]) (T := 41) hs0 rfl rfl (by kernel_rfl) (fun g_1 w_2 hs_3 => ?_)
 have hs_3 : Bk w w_2 [(g_1, .cells #[iv pt, iv pl, iv pb, iv pr, iv mt, iv ml, iv mb, iv mr] 41 (0, 0))] := hs_3
 refine SL.new (mk := fun g => pv g 0) (C := (qStA_0)) (T := 29) hs_3 rfl rfl (by kernel_rfl) (fun g_4 w_5 hs_6 => ?_)
 have hs_6 : Bk w w_5 [(g_1, .cells #[iv pt, iv pl, iv pb, iv pr, iv mt, iv ml, iv mb, iv mr] 41 (0, 0)), (g_4, .cells (qStA_0) 29 (0, 0))] := hs_6
 refine SL.nil ?_
 refine CW.seq ?_
 refine CW.region ?_
 refine SL.v (pv g_1 0) ?_
 refine SL.v (pv g_1 2) ?_
 refine SL.load (g := g_1) (off := 2) (v := iv pb) rfl rfl rfl (by kernel_rfl) (hs_6.all 0 g_1 _ rfl) (by kernel_rfl) ?_
 refine SL.val (v := iv (max 1 pb)) (w' := w_5) rfl rfl (run_eqv (by kernel_rfl) (congrArg (Value.int .i64) (imax 1 pb))) ?_
 refine SL.v (pv g_1 0) ?_
 refine SL.v (pv g_1 3) ?_
 refine SL.load (g := g_1) (off := 3) (v := iv pr) rfl rfl rfl (by kernel_rfl) (hs_6.all 0 g_1 _ rfl) (by kernel_rfl) ?_
 refine SL.val (v := iv (max 1 pr)) (w' := w_5) rfl rfl (run_eqv (by kernel_rfl) (congrArg (Value.int .i64) (imax 1 pr))) ?_
 refine SL.call (f := 50) (args := #[iv (max 1 pb), iv (max 1 pr)]) (w1 := w_5) rfl rfl (by kernel_rfl) (whole_any (max 1 pb) (max 1 pr) w_5) ?_
 rintro x w_7 ⟨rfl, hc_8⟩
 refine ⟨_, rfl, ?_⟩
 have hs_9 := hs_6.grow hc_8
 refine SL.store (i := 1) (g := g_4) (off := 0) (v := .agg (qStA_1 pb pr)) (L' := [(g_1, .cells #[iv pt, iv pl, iv pb, iv pr, iv mt, iv ml, iv mb, iv mr] 41 (0, 0)), (g_4, .cells (qStA_1 pb pr) 29 (0, 0))]) hs_9 rfl rfl rfl (by kernel_rfl) (by kernel_rfl) rfl (by kernel_rfl) (by kernel_rfl) rfl (by kernel_rfl) rfl (fun w_10 hs_11 => ?_)
 refine SL.nil ?_
 refine CW.ret ?_
 repeat with_reducible first | refine PThen.ret ?_ | refine PBlock.ret ?_
 refine PRet.cell (t := 2) (ty := 29) (g := g_4) (v := .agg (qStA_1 pb pr)) rfl rfl (by kernel_rfl) (hs_11.all 1 g_4 _ rfl) (by kernel_rfl) ?_
 exact ⟨rfl, hs_11.gr⟩
set_option maxRecDepth 100000 in
set_option maxHeartbeats 4000000 in
theorem finner_any (pt pl pb pr mt ml mb mr : Int) (w : World) : Calls Tryz.prog 57 #[.agg #[iv pt, iv pl, iv pb, iv pr, iv mt, iv ml, iv mb, iv mr]] w fun e w' => e = .returned (b4 (innerZ pb pr mt ml mb mr)) ∧ Gr w w' := by
 refine calls_sx (n := 15) (args := [.agg #[iv pt, iv pl, iv pb, iv pr, iv mt, iv ml, iv mb, iv mr]]) Tryz.func57 rfl rfl rfl ?_
 have hs0 := Bk.init w
 refine CW.seq ?_
 refine CW.region ?_
 refine SL.new (mk := fun g => pv g 0) (C := #[iv pt, iv pl, iv pb, iv pr, iv mt, iv ml, iv mb, iv mr]) (T := 41) hs0 rfl rfl (by kernel_rfl) (fun g_1 w_2 hs_3 => ?_)
 have hs_3 : Bk w w_2 [(g_1, .cells #[iv pt, iv pl, iv pb, iv pr, iv mt, iv ml, iv mb, iv mr] 41 (0, 0))] := hs_3
 refine SL.new (mk := fun g => pv g 0) (C := (qStA_0)) (T := 29) hs_3 rfl rfl (by kernel_rfl) (fun g_4 w_5 hs_6 => ?_)
 have hs_6 : Bk w w_5 [(g_1, .cells #[iv pt, iv pl, iv pb, iv pr, iv mt, iv ml, iv mb, iv mr] 41 (0, 0)), (g_4, .cells (qStA_0) 29 (0, 0))] := hs_6
 refine SL.nil ?_
 refine CW.seq ?_
 refine CW.seq ?_
 have HGR : GrL [fun v _ => v = .agg #[iv pt, iv pl, iv pb, iv pr, iv mt, iv ml, iv mb, iv mr], fun v _ => v = .agg (qStA_1 pb pr), fun v _ => v = pv g_1 4, fun v _ => v = .agg #[iv mt, iv ml, iv mb, iv mr], fun v _ => v = .agg #[iv ((meetZ 0 0 (max 0 (max 1 pb)) (max 0 (max 1 pr)) mt ml mb mr).1), iv ((meetZ 0 0 (max 0 (max 1 pb)) (max 0 (max 1 pr)) mt ml mb mr).2.1), iv ((meetZ 0 0 (max 0 (max 1 pb)) (max 0 (max 1 pr)) mt ml mb mr).2.2.1), iv ((meetZ 0 0 (max 0 (max 1 pb)) (max 0 (max 1 pr)) mt ml mb mr).2.2.2)], NewB w_5 (fun g => pv g 0) (.cells (qStA_0) 29 (0, 0))] := ⟨fun _ _ _ _ h => h, ⟨fun _ _ _ _ h => h, ⟨fun _ _ _ _ h => h, ⟨fun _ _ _ _ h => h, ⟨fun _ _ _ _ h => h, ⟨fun _ _ _ hg h => NewB.gr hg h, trivial⟩⟩⟩⟩⟩⟩
 refine CW.draw 6 (FW [fun v _ => v = .agg #[iv pt, iv pl, iv pb, iv pr, iv mt, iv ml, iv mb, iv mr], fun v _ => v = .agg (qStA_1 pb pr), fun v _ => v = pv g_1 4, fun v _ => v = .agg #[iv mt, iv ml, iv mb, iv mr], fun v _ => v = .agg #[iv ((meetZ 0 0 (max 0 (max 1 pb)) (max 0 (max 1 pr)) mt ml mb mr).1), iv ((meetZ 0 0 (max 0 (max 1 pb)) (max 0 (max 1 pr)) mt ml mb mr).2.1), iv ((meetZ 0 0 (max 0 (max 1 pb)) (max 0 (max 1 pr)) mt ml mb mr).2.2.1), iv ((meetZ 0 0 (max 0 (max 1 pb)) (max 0 (max 1 pr)) mt ml mb mr).2.2.2)], NewB w_5 (fun g => pv g 0) (.cells (qStA_0) 29 (0, 0))]) (fun W => Bk w W [(g_1, .cells #[iv pt, iv pl, iv pb, iv pr, iv mt, iv ml, iv mb, iv mr] 41 (0, 0)), (g_4, .cells (qStA_0) 29 (0, 0))] ∧ Gr w_5 W) (by kernel_rfl) (by kernel_rfl) (by kernel_rfl) (by kernel_rfl) (by kernel_rfl) ⟨hs_6.drew, (Gr.refl _).drew⟩ ?_ ?_
 ·refine ⟨?_, ⟨?_, ⟨?_, ⟨?_, ⟨?_, ⟨?_, trivial⟩⟩⟩⟩⟩⟩
  ·intro L ys W hB hF hP K hK
   show OpE _ _ _ W K
   exact OpE.load (g := g_1) (off := 0) (v := .agg #[iv pt, iv pl, iv pb, iv pr, iv mt, iv ml, iv mb, iv mr]) rfl (by kernel_rfl) (hB.1.all 0 g_1 _ rfl) (by kernel_rfl) (hK _ W hB rfl (fun _ _ h => h))
  ·intro L ys W hB hF hP K hK
   show OpE _ _ _ W K
   exact OpE.known (j := 0) (v := .agg #[iv pt, iv pl, iv pb, iv pr, iv mt, iv ml, iv mb, iv mr]) (hF 0 (hP.1 rfl)) (OpE.call 56 #[.agg #[iv pt, iv pl, iv pb, iv pr, iv mt, iv ml, iv mb, iv mr]] W _ (by kernel_rfl) (fwhole_any pt pl pb pr mt ml mb mr W) (fun x w' hx => by obtain ⟨rfl, hg⟩ := hx; exact ⟨_, rfl, hK _ w' ⟨hB.1.grow hg, hB.2.trans hg⟩ rfl (fun _ _ h => FW.gr HGR hg h)⟩))
  ·intro L ys W hB hF hP K hK
   show OpE _ _ _ W K
   exact OpE.val (pv g_1 4) W (by kernel_rfl) (hK _ W hB rfl (fun _ _ h => h))
  ·intro L ys W hB hF hP K hK
   show OpE _ _ _ W K
   exact OpE.known (j := 2) (v := pv g_1 4) (hF 2 (hP.1 rfl)) (OpE.load (g := g_1) (off := 4) (v := .agg #[iv mt, iv ml, iv mb, iv mr]) rfl (by kernel_rfl) (hB.1.all 0 g_1 _ rfl) (by kernel_rfl) (hK _ W hB rfl (fun _ _ h => h)))
  ·intro L ys W hB hF hP K hK
   show OpE _ _ _ W K
   exact OpE.known (j := 1) (v := .agg (qStA_1 pb pr)) (hF 1 (hP.2.2.1 rfl)) (OpE.known (j := 3) (v := .agg #[iv mt, iv ml, iv mb, iv mr]) (hF 3 (hP.2.1 rfl)) (OpE.call 92 #[.agg (qStA_1 pb pr), .agg #[iv mt, iv ml, iv mb, iv mr]] W _ (by kernel_rfl) (meet_any 0 0 (max 0 (max 1 pb)) (max 0 (max 1 pr)) mt ml mb mr W) (fun x w' hx => by obtain ⟨rfl, hg⟩ := hx; exact ⟨_, rfl, hK _ w' ⟨hB.1.grow hg, hB.2.trans hg⟩ rfl (fun _ _ h => FW.gr HGR hg h)⟩)))
  ·intro L ys W hB hF hP K hK
   show OpE _ _ _ W K
   exact OpE.new (mk := fun g => pv g 0) (C := (qStA_0)) (T := 29) (by kernel_rfl) (hK _ _ ⟨hB.1.grow ((Gr.refl W).alloc _), hB.2.alloc _⟩ ⟨W.heap.size, rfl, heap_alloc_new _ _, hB.2.size⟩ (fun _ _ h => FW.gr HGR ((Gr.refl W).alloc _) h))
 ·intro ys_10 w_7 hs_8 hF_9
  have hs_8 : Bk w w_7 [(g_1, .cells #[iv pt, iv pl, iv pb, iv pr, iv mt, iv ml, iv mb, iv mr] 41 (0, 0)), (g_4, .cells (qStA_0) 29 (0, 0))] := hs_8.1
  obtain ⟨g_11, hvq5, hbq5, hgq5⟩ := hF_9 5 (by decide)
  have hs_12 := hs_8.add hbq5 (Nat.le_trans hs_6.gr.size hgq5) (Bk.new_ne hs_6 hgq5)
  have hs_12 : Bk w w_7 [(g_1, .cells #[iv pt, iv pl, iv pb, iv pr, iv mt, iv ml, iv mb, iv mr] 41 (0, 0)), (g_4, .cells (qStA_0) 29 (0, 0)), (g_11, .cells (qStA_0) 29 (0, 0))] := hs_12
  refine SL.knownY (j := 4) (v := .agg #[iv ((meetZ 0 0 (max 0 (max 1 pb)) (max 0 (max 1 pr)) mt ml mb mr).1), iv ((meetZ 0 0 (max 0 (max 1 pb)) (max 0 (max 1 pr)) mt ml mb mr).2.1), iv ((meetZ 0 0 (max 0 (max 1 pb)) (max 0 (max 1 pr)) mt ml mb mr).2.2.1), iv ((meetZ 0 0 (max 0 (max 1 pb)) (max 0 (max 1 pr)) mt ml mb mr).2.2.2)]) (show ys_10 4 = .agg #[iv ((meetZ 0 0 (max 0 (max 1 pb)) (max 0 (max 1 pr)) mt ml mb mr).1), iv ((meetZ 0 0 (max 0 (max 1 pb)) (max 0 (max 1 pr)) mt ml mb mr).2.1), iv ((meetZ 0 0 (max 0 (max 1 pb)) (max 0 (max 1 pr)) mt ml mb mr).2.2.1), iv ((meetZ 0 0 (max 0 (max 1 pb)) (max 0 (max 1 pr)) mt ml mb mr).2.2.2)] from hF_9 4 (by decide)) (SL.knownY (j := 5) (v := pv g_11 0) hvq5 (?_))
  clear hF_9 HGR
  refine SL.store (i := 2) (g := g_11) (off := 0) (v := .agg #[iv ((meetZ 0 0 (max 0 (max 1 pb)) (max 0 (max 1 pr)) mt ml mb mr).1), iv ((meetZ 0 0 (max 0 (max 1 pb)) (max 0 (max 1 pr)) mt ml mb mr).2.1), iv ((meetZ 0 0 (max 0 (max 1 pb)) (max 0 (max 1 pr)) mt ml mb mr).2.2.1), iv ((meetZ 0 0 (max 0 (max 1 pb)) (max 0 (max 1 pr)) mt ml mb mr).2.2.2)]) (L' := [(g_1, .cells #[iv pt, iv pl, iv pb, iv pr, iv mt, iv ml, iv mb, iv mr] 41 (0, 0)), (g_4, .cells (qStA_0) 29 (0, 0)), (g_11, .cells #[iv ((meetZ 0 0 (max 0 (max 1 pb)) (max 0 (max 1 pr)) mt ml mb mr).1), iv ((meetZ 0 0 (max 0 (max 1 pb)) (max 0 (max 1 pr)) mt ml mb mr).2.1), iv ((meetZ 0 0 (max 0 (max 1 pb)) (max 0 (max 1 pr)) mt ml mb mr).2.2.1), iv ((meetZ 0 0 (max 0 (max 1 pb)) (max 0 (max 1 pr)) mt ml mb mr).2.2.2)] 29 (0, 0))]) hs_12 rfl rfl rfl (by kernel_rfl) (by kernel_rfl) rfl (by kernel_rfl) (by kernel_rfl) rfl (by kernel_rfl) rfl (fun w_13 hs_14 => ?_)
  refine SL.nil ?_
  refine CW.seq ?_
  refine CW.region ?_
  refine SL.load (g := g_11) (off := 0) (v := .agg #[iv ((meetZ 0 0 (max 0 (max 1 pb)) (max 0 (max 1 pr)) mt ml mb mr).1), iv ((meetZ 0 0 (max 0 (max 1 pb)) (max 0 (max 1 pr)) mt ml mb mr).2.1), iv ((meetZ 0 0 (max 0 (max 1 pb)) (max 0 (max 1 pr)) mt ml mb mr).2.2.1), iv ((meetZ 0 0 (max 0 (max 1 pb)) (max 0 (max 1 pr)) mt ml mb mr).2.2.2)]) rfl rfl rfl (by kernel_rfl) (hs_14.all 2 g_11 _ rfl) (by kernel_rfl) ?_
  refine SL.call (f := 93) (args := #[.agg #[iv ((meetZ 0 0 (max 0 (max 1 pb)) (max 0 (max 1 pr)) mt ml mb mr).1), iv ((meetZ 0 0 (max 0 (max 1 pb)) (max 0 (max 1 pr)) mt ml mb mr).2.1), iv ((meetZ 0 0 (max 0 (max 1 pb)) (max 0 (max 1 pr)) mt ml mb mr).2.2.1), iv ((meetZ 0 0 (max 0 (max 1 pb)) (max 0 (max 1 pr)) mt ml mb mr).2.2.2)]]) (w1 := w_13) rfl rfl (by kernel_rfl) (empty_any ((meetZ 0 0 (max 0 (max 1 pb)) (max 0 (max 1 pr)) mt ml mb mr).1) ((meetZ 0 0 (max 0 (max 1 pb)) (max 0 (max 1 pr)) mt ml mb mr).2.1) ((meetZ 0 0 (max 0 (max 1 pb)) (max 0 (max 1 pr)) mt ml mb mr).2.2.1) ((meetZ 0 0 (max 0 (max 1 pb)) (max 0 (max 1 pr)) mt ml mb mr).2.2.2) w_13) ?_
  rintro x w_15 ⟨rfl, hc_16⟩
  refine ⟨_, rfl, ?_⟩
  have hs_17 := hs_14.grow hc_16
  refine SL.v (.bool (!(emptyZ ((meetZ 0 0 (max 0 (max 1 pb)) (max 0 (max 1 pr)) mt ml mb mr).1) ((meetZ 0 0 (max 0 (max 1 pb)) (max 0 (max 1 pr)) mt ml mb mr).2.1) ((meetZ 0 0 (max 0 (max 1 pb)) (max 0 (max 1 pr)) mt ml mb mr).2.2.1) ((meetZ 0 0 (max 0 (max 1 pb)) (max 0 (max 1 pr)) mt ml mb mr).2.2.2)))) ?_
  refine SL.nil ?_
  rcases Bool.eq_false_or_eq_true (emptyZ ((meetZ 0 0 (max 0 (max 1 pb)) (max 0 (max 1 pr)) mt ml mb mr).1) ((meetZ 0 0 (max 0 (max 1 pb)) (max 0 (max 1 pr)) mt ml mb mr).2.1) ((meetZ 0 0 (max 0 (max 1 pb)) (max 0 (max 1 pr)) mt ml mb mr).2.2.1) ((meetZ 0 0 (max 0 (max 1 pb)) (max 0 (max 1 pr)) mt ml mb mr).2.2.2)) with hb_18 | hb_18
  ·try rw [hb_18]
   have hqhb_18 := empty_t hb_18
   refine CW.cond_false (by kernel_rfl) ?_
   refine CW.skip ?_
   refine CW.seq ?_
   refine CW.region ?_
   refine SL.load (g := g_1) (off := 0) (v := .agg #[iv pt, iv pl, iv pb, iv pr, iv mt, iv ml, iv mb, iv mr]) rfl rfl rfl (by kernel_rfl) (hs_17.all 0 g_1 _ rfl) (by kernel_rfl) ?_
   refine SL.call (f := 56) (args := #[.agg #[iv pt, iv pl, iv pb, iv pr, iv mt, iv ml, iv mb, iv mr]]) (w1 := w_15) rfl rfl (by kernel_rfl) (fwhole_any pt pl pb pr mt ml mb mr w_15) ?_
   rintro x w_19 ⟨rfl, hc_20⟩
   refine ⟨_, rfl, ?_⟩
   have hs_21 := hs_17.grow hc_20
   refine SL.store (i := 1) (g := g_4) (off := 0) (v := .agg (qStA_1 pb pr)) (L' := [(g_1, .cells #[iv pt, iv pl, iv pb, iv pr, iv mt, iv ml, iv mb, iv mr] 41 (0, 0)), (g_4, .cells (qStA_1 pb pr) 29 (0, 0)), (g_11, .cells #[iv ((meetZ 0 0 (max 0 (max 1 pb)) (max 0 (max 1 pr)) mt ml mb mr).1), iv ((meetZ 0 0 (max 0 (max 1 pb)) (max 0 (max 1 pr)) mt ml mb mr).2.1), iv ((meetZ 0 0 (max 0 (max 1 pb)) (max 0 (max 1 pr)) mt ml mb mr).2.2.1), iv ((meetZ 0 0 (max 0 (max 1 pb)) (max 0 (max 1 pr)) mt ml mb mr).2.2.2)] 29 (0, 0))]) hs_21 rfl rfl rfl (by kernel_rfl) (by kernel_rfl) rfl (by kernel_rfl) (by kernel_rfl) rfl (by kernel_rfl) rfl (fun w_22 hs_23 => ?_)
   refine SL.nil ?_
   refine CW.ret ?_
   repeat with_reducible first | refine PThen.ret ?_ | refine PBlock.ret ?_
   refine PRet.cell (t := 2) (ty := 29) (g := g_4) (v := .agg (qStA_1 pb pr)) rfl rfl (by kernel_rfl) (hs_23.all 1 g_4 _ rfl) (by kernel_rfl) ?_
   exact ⟨by unfold b4 innerZ wholeZ; simp [hb_18], hs_23.gr⟩
  ·try rw [hb_18]
   have hqhb_18 := empty_f hb_18
   refine CW.cond_true (by kernel_rfl) ?_
   refine CW.seq ?_
   refine CW.region ?_
   refine SL.load (g := g_11) (off := 0) (v := .agg #[iv ((meetZ 0 0 (max 0 (max 1 pb)) (max 0 (max 1 pr)) mt ml mb mr).1), iv ((meetZ 0 0 (max 0 (max 1 pb)) (max 0 (max 1 pr)) mt ml mb mr).2.1), iv ((meetZ 0 0 (max 0 (max 1 pb)) (max 0 (max 1 pr)) mt ml mb mr).2.2.1), iv ((meetZ 0 0 (max 0 (max 1 pb)) (max 0 (max 1 pr)) mt ml mb mr).2.2.2)]) rfl rfl rfl (by kernel_rfl) (hs_17.all 2 g_11 _ rfl) (by kernel_rfl) ?_
   refine SL.store (i := 1) (g := g_4) (off := 0) (v := .agg #[iv ((meetZ 0 0 (max 0 (max 1 pb)) (max 0 (max 1 pr)) mt ml mb mr).1), iv ((meetZ 0 0 (max 0 (max 1 pb)) (max 0 (max 1 pr)) mt ml mb mr).2.1), iv ((meetZ 0 0 (max 0 (max 1 pb)) (max 0 (max 1 pr)) mt ml mb mr).2.2.1), iv ((meetZ 0 0 (max 0 (max 1 pb)) (max 0 (max 1 pr)) mt ml mb mr).2.2.2)]) (L' := [(g_1, .cells #[iv pt, iv pl, iv pb, iv pr, iv mt, iv ml, iv mb, iv mr] 41 (0, 0)), (g_4, .cells #[iv ((meetZ 0 0 (max 0 (max 1 pb)) (max 0 (max 1 pr)) mt ml mb mr).1), iv ((meetZ 0 0 (max 0 (max 1 pb)) (max 0 (max 1 pr)) mt ml mb mr).2.1), iv ((meetZ 0 0 (max 0 (max 1 pb)) (max 0 (max 1 pr)) mt ml mb mr).2.2.1), iv ((meetZ 0 0 (max 0 (max 1 pb)) (max 0 (max 1 pr)) mt ml mb mr).2.2.2)] 29 (0, 0)), (g_11, .cells #[iv ((meetZ 0 0 (max 0 (max 1 pb)) (max 0 (max 1 pr)) mt ml mb mr).1), iv ((meetZ 0 0 (max 0 (max 1 pb)) (max 0 (max 1 pr)) mt ml mb mr).2.1), iv ((meetZ 0 0 (max 0 (max 1 pb)) (max 0 (max 1 pr)) mt ml mb mr).2.2.1), iv ((meetZ 0 0 (max 0 (max 1 pb)) (max 0 (max 1 pr)) mt ml mb mr).2.2.2)] 29 (0, 0))]) hs_17 rfl rfl rfl (by kernel_rfl) (by kernel_rfl) rfl (by kernel_rfl) (by kernel_rfl) rfl (by kernel_rfl) rfl (fun w_24 hs_25 => ?_)
   refine SL.nil ?_
   refine CW.ret ?_
   repeat with_reducible first | refine PThen.ret ?_ | refine PBlock.ret ?_
   refine PRet.cell (t := 2) (ty := 29) (g := g_4) (v := .agg #[iv ((meetZ 0 0 (max 0 (max 1 pb)) (max 0 (max 1 pr)) mt ml mb mr).1), iv ((meetZ 0 0 (max 0 (max 1 pb)) (max 0 (max 1 pr)) mt ml mb mr).2.1), iv ((meetZ 0 0 (max 0 (max 1 pb)) (max 0 (max 1 pr)) mt ml mb mr).2.2.1), iv ((meetZ 0 0 (max 0 (max 1 pb)) (max 0 (max 1 pr)) mt ml mb mr).2.2.2)]) rfl rfl (by kernel_rfl) (hs_25.all 1 g_4 _ rfl) (by kernel_rfl) ?_
   exact ⟨by unfold b4 innerZ wholeZ; simp [hb_18], hs_25.gr⟩
theorem bgt (a b : Int) : (bif decide (a < b) then b else a) = max a b := by
 by_cases h : a < b
 ·rw [decide_eq_true h, cond_true]; omega
 ·rw [decide_eq_false h, cond_false]; omega
theorem blt (a b : Int) : (bif decide (b < a) then b else a) = min a b := by
 by_cases h : b < a
 ·rw [decide_eq_true h, cond_true]; omega
 ·rw [decide_eq_false h, cond_false]; omega
set_option maxRecDepth 100000 in
set_option maxHeartbeats 4000000 in
theorem rmeet_any (aT al ab ar : Int) (bT bl bb br : Int) (w : World) : Calls Tryz.prog 81 #[.agg #[iv aT, iv al, iv ab, iv ar], .agg #[iv bT, iv bl, iv bb, iv br]] w fun e w' => e = .returned (b4 (meetZ aT al ab ar bT bl bb br)) ∧ Gr w w' := by
 refine calls_sx (n := 51) (args := [.agg #[iv aT, iv al, iv ab, iv ar], .agg #[iv bT, iv bl, iv bb, iv br]]) Tryz.func81 rfl rfl rfl ?_
 have hs0 := Bk.init w
 refine CW.seq ?_
 refine CW.region ?_
 refine SL.new (mk := fun g => pv g 0) (C := #[iv aT, iv al, iv ab, iv ar]) (T := 29) hs0 rfl rfl (by kernel_rfl) (fun g_1 w_2 hs_3 => ?_)
 have hs_3 : Bk w w_2 [(g_1, .cells #[iv aT, iv al, iv ab, iv ar] 29 (0, 0))] := hs_3
 refine SL.new (mk := fun g => pv g 0) (C := #[iv bT, iv bl, iv bb, iv br]) (T := 29) hs_3 rfl rfl (by kernel_rfl) (fun g_4 w_5 hs_6 => ?_)
 have hs_6 : Bk w w_5 [(g_1, .cells #[iv aT, iv al, iv ab, iv ar] 29 (0, 0)), (g_4, .cells #[iv bT, iv bl, iv bb, iv br] 29 (0, 0))] := hs_6
 refine SL.new (mk := fun g => pv g 0) (C := (qStA_0)) (T := 29) hs_6 rfl rfl (by kernel_rfl) (fun g_7 w_8 hs_9 => ?_)
 have hs_9 : Bk w w_8 [(g_1, .cells #[iv aT, iv al, iv ab, iv ar] 29 (0, 0)), (g_4, .cells #[iv bT, iv bl, iv bb, iv br] 29 (0, 0)), (g_7, .cells (qStA_0) 29 (0, 0))] := hs_9
 refine SL.nil ?_
 refine CW.seq ?_
 refine CW.region ?_
 refine SL.load (g := g_1) (off := 0) (v := .agg #[iv aT, iv al, iv ab, iv ar]) rfl rfl rfl (by kernel_rfl) (hs_9.all 0 g_1 _ rfl) (by kernel_rfl) ?_
 refine SL.new (mk := fun g => pv g 0) (C := (qStA_0)) (T := 29) hs_9 rfl rfl (by kernel_rfl) (fun g_10 w_11 hs_12 => ?_)
 have hs_12 : Bk w w_11 [(g_1, .cells #[iv aT, iv al, iv ab, iv ar] 29 (0, 0)), (g_4, .cells #[iv bT, iv bl, iv bb, iv br] 29 (0, 0)), (g_7, .cells (qStA_0) 29 (0, 0)), (g_10, .cells (qStA_0) 29 (0, 0))] := hs_12
 refine SL.store (i := 3) (g := g_10) (off := 0) (v := .agg #[iv aT, iv al, iv ab, iv ar]) (L' := [(g_1, .cells #[iv aT, iv al, iv ab, iv ar] 29 (0, 0)), (g_4, .cells #[iv bT, iv bl, iv bb, iv br] 29 (0, 0)), (g_7, .cells (qStA_0) 29 (0, 0)), (g_10, .cells #[iv aT, iv al, iv ab, iv ar] 29 (0, 0))]) hs_12 rfl rfl rfl (by kernel_rfl) (by kernel_rfl) rfl (by kernel_rfl) (by kernel_rfl) rfl (by kernel_rfl) rfl (fun w_13 hs_14 => ?_)
 refine SL.nil ?_
 refine CW.seq ?_
 refine CW.seq ?_
 refine CW.region ?_
 refine SL.v (pv g_4 0) ?_
 refine SL.load (g := g_4) (off := 0) (v := iv bT) rfl rfl rfl (by kernel_rfl) (hs_14.all 1 g_4 _ rfl) (by kernel_rfl) ?_
 refine SL.v (pv g_10 0) ?_
 refine SL.load (g := g_10) (off := 0) (v := iv aT) rfl rfl rfl (by kernel_rfl) (hs_14.all 3 g_10 _ rfl) (by kernel_rfl) ?_
 refine SL.v (.bool (decide (aT < bT))) ?_
 refine SL.nil ?_
 refine CW.mid (fun e9 w9 => Bk w w9 [(g_1, .cells #[iv aT, iv al, iv ab, iv ar] 29 (0, 0)), (g_4, .cells #[iv bT, iv bl, iv bb, iv br] 29 (0, 0)), (g_7, .cells (qStA_0) 29 (0, 0)), (g_10, .cells #[iv (bif (decide (aT < bT)) then bT else aT), iv al, iv ab, iv ar] 29 (0, 0))] ∧ e9 2 = pv g_1 0 ∧ e9 3 = pv g_4 0 ∧ e9 4 = pv g_7 0 ∧ e9 5 = pv g_10 0) ?_ ?_
 ·skip
  rcases Bool.eq_false_or_eq_true (decide (aT < bT)) with hb_16 | hb_16
  ·try rw [hb_16]
   have hqhb_16 := of_decide_eq_true hb_16
   refine CW.cond_true (by kernel_rfl) ?_
   refine CW.region ?_
   refine SL.v (pv g_4 0) ?_
   refine SL.load (g := g_4) (off := 0) (v := iv bT) rfl rfl rfl (by kernel_rfl) (hs_14.all 1 g_4 _ rfl) (by kernel_rfl) ?_
   refine SL.v (pv g_10 0) ?_
   refine SL.store (i := 3) (g := g_10) (off := 0) (v := iv bT) (L' := [(g_1, .cells #[iv aT, iv al, iv ab, iv ar] 29 (0, 0)), (g_4, .cells #[iv bT, iv bl, iv bb, iv br] 29 (0, 0)), (g_7, .cells (qStA_0) 29 (0, 0)), (g_10, .cells #[iv bT, iv al, iv ab, iv ar] 29 (0, 0))]) hs_14 rfl rfl rfl (by kernel_rfl) (by kernel_rfl) rfl (by kernel_rfl) (by kernel_rfl) rfl (by kernel_rfl) rfl (fun w_17 hs_18 => ?_)
   refine SL.nil ?_
   exact ⟨hs_18, (by kernel_rfl), (by kernel_rfl), (by kernel_rfl), (by kernel_rfl)⟩
  ·try rw [hb_16]
   have hqhb_16 := of_decide_eq_false hb_16
   refine CW.cond_false (by kernel_rfl) ?_
   refine CW.skip ?_
   exact ⟨hs_14, (by kernel_rfl), (by kernel_rfl), (by kernel_rfl), (by kernel_rfl)⟩
 ·rintro e_19 w_20 ⟨hs_21, hv_23, hv_24, hv_25, hv_26⟩
  obtain ⟨e_22, rfl⟩ : ∃ e_22, e_19 = put1 (put1 (put1 (put1 e_22 2 (pv g_1 0)) 3 (pv g_4 0)) 4 (pv g_7 0)) 5 (pv g_10 0) := ⟨e_19, (put_self hv_26).trans (congrArg (fun z => put1 z 5 (pv g_10 0)) ((put_self hv_25).trans (congrArg (fun z => put1 z 4 (pv g_7 0)) ((put_self hv_24).trans (congrArg (fun z => put1 z 3 (pv g_4 0)) (put_self hv_23))))))⟩
  clear hv_23 hv_24 hv_25 hv_26
  refine CW.seq ?_
  refine CW.seq ?_
  refine CW.region ?_
  refine SL.v (pv g_4 1) ?_
  refine SL.load (g := g_4) (off := 1) (v := iv bl) rfl rfl rfl (by kernel_rfl) (hs_21.all 1 g_4 _ rfl) (by kernel_rfl) ?_
  refine SL.v (pv g_10 1) ?_
  refine SL.load (g := g_10) (off := 1) (v := iv al) rfl rfl rfl (by kernel_rfl) (hs_21.all 3 g_10 _ rfl) (by kernel_rfl) ?_
  refine SL.v (.bool (decide (al < bl))) ?_
  refine SL.nil ?_
  refine CW.mid (fun e9 w9 => Bk w w9 [(g_1, .cells #[iv aT, iv al, iv ab, iv ar] 29 (0, 0)), (g_4, .cells #[iv bT, iv bl, iv bb, iv br] 29 (0, 0)), (g_7, .cells (qStA_0) 29 (0, 0)), (g_10, .cells #[iv (bif (decide (aT < bT)) then bT else aT), iv (bif (decide (al < bl)) then bl else al), iv ab, iv ar] 29 (0, 0))] ∧ e9 2 = pv g_1 0 ∧ e9 3 = pv g_4 0 ∧ e9 4 = pv g_7 0 ∧ e9 5 = pv g_10 0) ?_ ?_
  ·skip
   rcases Bool.eq_false_or_eq_true (decide (al < bl)) with hb_28 | hb_28
   ·try rw [hb_28]
    have hqhb_28 := of_decide_eq_true hb_28
    refine CW.cond_true (by kernel_rfl) ?_
    refine CW.region ?_
    refine SL.v (pv g_4 1) ?_
    refine SL.load (g := g_4) (off := 1) (v := iv bl) rfl rfl rfl (by kernel_rfl) (hs_21.all 1 g_4 _ rfl) (by kernel_rfl) ?_
    refine SL.v (pv g_10 1) ?_
    refine SL.store (i := 3) (g := g_10) (off := 1) (v := iv bl) (L' := [(g_1, .cells #[iv aT, iv al, iv ab, iv ar] 29 (0, 0)), (g_4, .cells #[iv bT, iv bl, iv bb, iv br] 29 (0, 0)), (g_7, .cells (qStA_0) 29 (0, 0)), (g_10, .cells #[iv (bif (decide (aT < bT)) then bT else aT), iv bl, iv ab, iv ar] 29 (0, 0))]) hs_21 rfl rfl rfl (by kernel_rfl) (by kernel_rfl) rfl (by kernel_rfl) (by kernel_rfl) rfl (by kernel_rfl) rfl (fun w_29 hs_30 => ?_)
    refine SL.nil ?_
    exact ⟨hs_30, (by kernel_rfl), (by kernel_rfl), (by kernel_rfl), (by kernel_rfl)⟩
   ·try rw [hb_28]
    have hqhb_28 := of_decide_eq_false hb_28
    refine CW.cond_false (by kernel_rfl) ?_
    refine CW.skip ?_
    exact ⟨hs_21, (by kernel_rfl), (by kernel_rfl), (by kernel_rfl), (by kernel_rfl)⟩
  ·rintro e_31 w_32 ⟨hs_33, hv_35, hv_36, hv_37, hv_38⟩
   obtain ⟨e_34, rfl⟩ : ∃ e_34, e_31 = put1 (put1 (put1 (put1 e_34 2 (pv g_1 0)) 3 (pv g_4 0)) 4 (pv g_7 0)) 5 (pv g_10 0) := ⟨e_31, (put_self hv_38).trans (congrArg (fun z => put1 z 5 (pv g_10 0)) ((put_self hv_37).trans (congrArg (fun z => put1 z 4 (pv g_7 0)) ((put_self hv_36).trans (congrArg (fun z => put1 z 3 (pv g_4 0)) (put_self hv_35))))))⟩
   clear hv_35 hv_36 hv_37 hv_38
   refine CW.seq ?_
   refine CW.seq ?_
   refine CW.region ?_
   refine SL.v (pv g_4 2) ?_
   refine SL.load (g := g_4) (off := 2) (v := iv bb) rfl rfl rfl (by kernel_rfl) (hs_33.all 1 g_4 _ rfl) (by kernel_rfl) ?_
   refine SL.v (pv g_10 2) ?_
   refine SL.load (g := g_10) (off := 2) (v := iv ab) rfl rfl rfl (by kernel_rfl) (hs_33.all 3 g_10 _ rfl) (by kernel_rfl) ?_
   refine SL.v (.bool (decide (bb < ab))) ?_
   refine SL.nil ?_
   refine CW.mid (fun e9 w9 => Bk w w9 [(g_1, .cells #[iv aT, iv al, iv ab, iv ar] 29 (0, 0)), (g_4, .cells #[iv bT, iv bl, iv bb, iv br] 29 (0, 0)), (g_7, .cells (qStA_0) 29 (0, 0)), (g_10, .cells #[iv (bif (decide (aT < bT)) then bT else aT), iv (bif (decide (al < bl)) then bl else al), iv (bif (decide (bb < ab)) then bb else ab), iv ar] 29 (0, 0))] ∧ e9 2 = pv g_1 0 ∧ e9 3 = pv g_4 0 ∧ e9 4 = pv g_7 0 ∧ e9 5 = pv g_10 0) ?_ ?_
   ·skip
    rcases Bool.eq_false_or_eq_true (decide (bb < ab)) with hb_40 | hb_40
    ·try rw [hb_40]
     have hqhb_40 := of_decide_eq_true hb_40
     refine CW.cond_true (by kernel_rfl) ?_
     refine CW.region ?_
     refine SL.v (pv g_4 2) ?_
     refine SL.load (g := g_4) (off := 2) (v := iv bb) rfl rfl rfl (by kernel_rfl) (hs_33.all 1 g_4 _ rfl) (by kernel_rfl) ?_
     refine SL.v (pv g_10 2) ?_
     refine SL.store (i := 3) (g := g_10) (off := 2) (v := iv bb) (L' := [(g_1, .cells #[iv aT, iv al, iv ab, iv ar] 29 (0, 0)), (g_4, .cells #[iv bT, iv bl, iv bb, iv br] 29 (0, 0)), (g_7, .cells (qStA_0) 29 (0, 0)), (g_10, .cells #[iv (bif (decide (aT < bT)) then bT else aT), iv (bif (decide (al < bl)) then bl else al), iv bb, iv ar] 29 (0, 0))]) hs_33 rfl rfl rfl (by kernel_rfl) (by kernel_rfl) rfl (by kernel_rfl) (by kernel_rfl) rfl (by kernel_rfl) rfl (fun w_41 hs_42 => ?_)
     refine SL.nil ?_
     exact ⟨hs_42, (by kernel_rfl), (by kernel_rfl), (by kernel_rfl), (by kernel_rfl)⟩
    ·try rw [hb_40]
     have hqhb_40 := of_decide_eq_false hb_40
     refine CW.cond_false (by kernel_rfl) ?_
     refine CW.skip ?_
     exact ⟨hs_33, (by kernel_rfl), (by kernel_rfl), (by kernel_rfl), (by kernel_rfl)⟩
   ·rintro e_43 w_44 ⟨hs_45, hv_47, hv_48, hv_49, hv_50⟩
    obtain ⟨e_46, rfl⟩ : ∃ e_46, e_43 = put1 (put1 (put1 (put1 e_46 2 (pv g_1 0)) 3 (pv g_4 0)) 4 (pv g_7 0)) 5 (pv g_10 0) := ⟨e_43, (put_self hv_50).trans (congrArg (fun z => put1 z 5 (pv g_10 0)) ((put_self hv_49).trans (congrArg (fun z => put1 z 4 (pv g_7 0)) ((put_self hv_48).trans (congrArg (fun z => put1 z 3 (pv g_4 0)) (put_self hv_47))))))⟩
    clear hv_47 hv_48 hv_49 hv_50
    refine CW.seq ?_
    refine CW.seq ?_
    refine CW.region ?_
    refine SL.v (pv g_4 3) ?_
    refine SL.load (g := g_4) (off := 3) (v := iv br) rfl rfl rfl (by kernel_rfl) (hs_45.all 1 g_4 _ rfl) (by kernel_rfl) ?_
    refine SL.v (pv g_10 3) ?_
    refine SL.load (g := g_10) (off := 3) (v := iv ar) rfl rfl rfl (by kernel_rfl) (hs_45.all 3 g_10 _ rfl) (by kernel_rfl) ?_
    refine SL.v (.bool (decide (br < ar))) ?_
    refine SL.nil ?_
    refine CW.mid (fun e9 w9 => Bk w w9 [(g_1, .cells #[iv aT, iv al, iv ab, iv ar] 29 (0, 0)), (g_4, .cells #[iv bT, iv bl, iv bb, iv br] 29 (0, 0)), (g_7, .cells (qStA_0) 29 (0, 0)), (g_10, .cells #[iv (bif (decide (aT < bT)) then bT else aT), iv (bif (decide (al < bl)) then bl else al), iv (bif (decide (bb < ab)) then bb else ab), iv (bif (decide (br < ar)) then br else ar)] 29 (0, 0))] ∧ e9 2 = pv g_1 0 ∧ e9 3 = pv g_4 0 ∧ e9 4 = pv g_7 0 ∧ e9 5 = pv g_10 0) ?_ ?_
    ·skip
     rcases Bool.eq_false_or_eq_true (decide (br < ar)) with hb_52 | hb_52
     ·try rw [hb_52]
      have hqhb_52 := of_decide_eq_true hb_52
      refine CW.cond_true (by kernel_rfl) ?_
      refine CW.region ?_
      refine SL.v (pv g_4 3) ?_
      refine SL.load (g := g_4) (off := 3) (v := iv br) rfl rfl rfl (by kernel_rfl) (hs_45.all 1 g_4 _ rfl) (by kernel_rfl) ?_
      refine SL.v (pv g_10 3) ?_
      refine SL.store (i := 3) (g := g_10) (off := 3) (v := iv br) (L' := [(g_1, .cells #[iv aT, iv al, iv ab, iv ar] 29 (0, 0)), (g_4, .cells #[iv bT, iv bl, iv bb, iv br] 29 (0, 0)), (g_7, .cells (qStA_0) 29 (0, 0)), (g_10, .cells #[iv (bif (decide (aT < bT)) then bT else aT), iv (bif (decide (al < bl)) then bl else al), iv (bif (decide (bb < ab)) then bb else ab), iv br] 29 (0, 0))]) hs_45 rfl rfl rfl (by kernel_rfl) (by kernel_rfl) rfl (by kernel_rfl) (by kernel_rfl) rfl (by kernel_rfl) rfl (fun w_53 hs_54 => ?_)
      refine SL.nil ?_
      exact ⟨hs_54, (by kernel_rfl), (by kernel_rfl), (by kernel_rfl), (by kernel_rfl)⟩
     ·try rw [hb_52]
      have hqhb_52 := of_decide_eq_false hb_52
      refine CW.cond_false (by kernel_rfl) ?_
      refine CW.skip ?_
      exact ⟨hs_45, (by kernel_rfl), (by kernel_rfl), (by kernel_rfl), (by kernel_rfl)⟩
    ·rintro e_55 w_56 ⟨hs_57, hv_59, hv_60, hv_61, hv_62⟩
     obtain ⟨e_58, rfl⟩ : ∃ e_58, e_55 = put1 (put1 (put1 (put1 e_58 2 (pv g_1 0)) 3 (pv g_4 0)) 4 (pv g_7 0)) 5 (pv g_10 0) := ⟨e_55, (put_self hv_62).trans (congrArg (fun z => put1 z 5 (pv g_10 0)) ((put_self hv_61).trans (congrArg (fun z => put1 z 4 (pv g_7 0)) ((put_self hv_60).trans (congrArg (fun z => put1 z 3 (pv g_4 0)) (put_self hv_59))))))⟩
     clear hv_59 hv_60 hv_61 hv_62
     refine CW.seq ?_
     refine CW.seq ?_
     refine CW.region ?_
     refine SL.load (g := g_1) (off := 0) (v := .agg #[iv aT, iv al, iv ab, iv ar]) rfl rfl rfl (by kernel_rfl) (hs_57.all 0 g_1 _ rfl) (by kernel_rfl) ?_
     refine SL.call (f := 82) (args := #[.agg #[iv aT, iv al, iv ab, iv ar]]) (w1 := w_56) rfl rfl (by kernel_rfl) (rempty_any aT al ab ar w_56) ?_
     rintro x w_63 ⟨rfl, hc_64⟩
     refine ⟨_, rfl, ?_⟩
     have hs_65 := hs_57.grow hc_64
     refine SL.v (.bool (emptyZ aT al ab ar)) ?_
     rcases Bool.eq_false_or_eq_true (emptyZ aT al ab ar) with hb_66 | hb_66
     ·try rw [hb_66]
      have hqhb_66 := empty_t hb_66
      refine SL.no true ?_
      refine SL.no true ?_
      refine SL.v (.bool true) ?_
      refine SL.v (.bool true) ?_
      refine SL.no true ?_
      refine SL.no true ?_
      refine SL.v (.bool true) ?_
      refine SL.nil ?_
      refine CW.cond_true (by kernel_rfl) ?_
      refine CW.seq ?_
      refine CW.region ?_
      refine SL.v (.agg (qStA_0)) ?_
      refine SL.store (i := 2) (g := g_7) (off := 0) (v := .agg (qStA_0)) (L' := [(g_1, .cells #[iv aT, iv al, iv ab, iv ar] 29 (0, 0)), (g_4, .cells #[iv bT, iv bl, iv bb, iv br] 29 (0, 0)), (g_7, .cells (qStA_0) 29 (0, 0)), (g_10, .cells #[iv (bif (decide (aT < bT)) then bT else aT), iv (bif (decide (al < bl)) then bl else al), iv (bif (decide (bb < ab)) then bb else ab), iv (bif (decide (br < ar)) then br else ar)] 29 (0, 0))]) hs_65 rfl rfl rfl (by kernel_rfl) (by kernel_rfl) rfl (by kernel_rfl) (by kernel_rfl) rfl (by kernel_rfl) rfl (fun w_67 hs_68 => ?_)
      refine SL.nil ?_
      refine CW.ret ?_
      repeat with_reducible first | refine PThen.ret ?_ | refine PBlock.ret ?_
      refine PRet.cell (t := 4) (ty := 29) (g := g_7) (v := .agg (qStA_0)) rfl rfl (by kernel_rfl) (hs_68.all 2 g_7 _ rfl) (by kernel_rfl) ?_
      (try simp only [bgt, blt] at hb_66)
      (try simp only [bgt, blt])
      exact ⟨by unfold b4 meetZ; simp [hb_66], hs_68.gr⟩
     ·try rw [hb_66]
      have hqhb_66 := empty_f hb_66
      refine SL.go ?_
      refine SL.load (g := g_4) (off := 0) (v := .agg #[iv bT, iv bl, iv bb, iv br]) rfl rfl rfl (by kernel_rfl) (hs_65.all 1 g_4 _ rfl) (by kernel_rfl) ?_
      refine SL.go ?_
      refine SL.call (f := 82) (args := #[.agg #[iv bT, iv bl, iv bb, iv br]]) (w1 := w_63) rfl rfl (by kernel_rfl) (rempty_any bT bl bb br w_63) ?_
      rintro x w_69 ⟨rfl, hc_70⟩
      refine ⟨_, rfl, ?_⟩
      have hs_71 := hs_65.grow hc_70
      refine SL.v (.bool (emptyZ bT bl bb br)) ?_
      refine SL.v (.bool (emptyZ bT bl bb br)) ?_
      rcases Bool.eq_false_or_eq_true (emptyZ bT bl bb br) with hb_72 | hb_72
      ·try rw [hb_72]
       have hqhb_72 := empty_t hb_72
       refine SL.no true ?_
       refine SL.no true ?_
       refine SL.v (.bool true) ?_
       refine SL.nil ?_
       refine CW.cond_true (by kernel_rfl) ?_
       refine CW.seq ?_
       refine CW.region ?_
       refine SL.v (.agg (qStA_0)) ?_
       refine SL.store (i := 2) (g := g_7) (off := 0) (v := .agg (qStA_0)) (L' := [(g_1, .cells #[iv aT, iv al, iv ab, iv ar] 29 (0, 0)), (g_4, .cells #[iv bT, iv bl, iv bb, iv br] 29 (0, 0)), (g_7, .cells (qStA_0) 29 (0, 0)), (g_10, .cells #[iv (bif (decide (aT < bT)) then bT else aT), iv (bif (decide (al < bl)) then bl else al), iv (bif (decide (bb < ab)) then bb else ab), iv (bif (decide (br < ar)) then br else ar)] 29 (0, 0))]) hs_71 rfl rfl rfl (by kernel_rfl) (by kernel_rfl) rfl (by kernel_rfl) (by kernel_rfl) rfl (by kernel_rfl) rfl (fun w_73 hs_74 => ?_)
       refine SL.nil ?_
       refine CW.ret ?_
       repeat with_reducible first | refine PThen.ret ?_ | refine PBlock.ret ?_
       refine PRet.cell (t := 4) (ty := 29) (g := g_7) (v := .agg (qStA_0)) rfl rfl (by kernel_rfl) (hs_74.all 2 g_7 _ rfl) (by kernel_rfl) ?_
       (try simp only [bgt, blt] at hb_66)
       (try simp only [bgt, blt] at hb_72)
       (try simp only [bgt, blt])
       exact ⟨by unfold b4 meetZ; simp [hb_66, hb_72], hs_74.gr⟩
      ·try rw [hb_72]
       have hqhb_72 := empty_f hb_72
       refine SL.go ?_
       refine SL.load (g := g_10) (off := 0) (v := .agg #[iv (bif (decide (aT < bT)) then bT else aT), iv (bif (decide (al < bl)) then bl else al), iv (bif (decide (bb < ab)) then bb else ab), iv (bif (decide (br < ar)) then br else ar)]) rfl rfl rfl (by kernel_rfl) (hs_71.all 3 g_10 _ rfl) (by kernel_rfl) ?_
       refine SL.go ?_
       refine SL.call (f := 82) (args := #[.agg #[iv (bif (decide (aT < bT)) then bT else aT), iv (bif (decide (al < bl)) then bl else al), iv (bif (decide (bb < ab)) then bb else ab), iv (bif (decide (br < ar)) then br else ar)]]) (w1 := w_69) rfl rfl (by kernel_rfl) (rempty_any (bif (decide (aT < bT)) then bT else aT) (bif (decide (al < bl)) then bl else al) (bif (decide (bb < ab)) then bb else ab) (bif (decide (br < ar)) then br else ar) w_69) ?_
       rintro x w_75 ⟨rfl, hc_76⟩
       refine ⟨_, rfl, ?_⟩
       have hs_77 := hs_71.grow hc_76
       refine SL.v (.bool (emptyZ (bif (decide (aT < bT)) then bT else aT) (bif (decide (al < bl)) then bl else al) (bif (decide (bb < ab)) then bb else ab) (bif (decide (br < ar)) then br else ar))) ?_
       refine SL.nil ?_
       rcases Bool.eq_false_or_eq_true (emptyZ (bif (decide (aT < bT)) then bT else aT) (bif (decide (al < bl)) then bl else al) (bif (decide (bb < ab)) then bb else ab) (bif (decide (br < ar)) then br else ar)) with hb_78 | hb_78
       ·try rw [hb_78]
        have hqhb_78 := empty_t hb_78
        refine CW.cond_true (by kernel_rfl) ?_
        refine CW.seq ?_
        refine CW.region ?_
        refine SL.v (.agg (qStA_0)) ?_
        refine SL.store (i := 2) (g := g_7) (off := 0) (v := .agg (qStA_0)) (L' := [(g_1, .cells #[iv aT, iv al, iv ab, iv ar] 29 (0, 0)), (g_4, .cells #[iv bT, iv bl, iv bb, iv br] 29 (0, 0)), (g_7, .cells (qStA_0) 29 (0, 0)), (g_10, .cells #[iv (bif (decide (aT < bT)) then bT else aT), iv (bif (decide (al < bl)) then bl else al), iv (bif (decide (bb < ab)) then bb else ab), iv (bif (decide (br < ar)) then br else ar)] 29 (0, 0))]) hs_77 rfl rfl rfl (by kernel_rfl) (by kernel_rfl) rfl (by kernel_rfl) (by kernel_rfl) rfl (by kernel_rfl) rfl (fun w_79 hs_80 => ?_)
        refine SL.nil ?_
        refine CW.ret ?_
        repeat with_reducible first | refine PThen.ret ?_ | refine PBlock.ret ?_
        refine PRet.cell (t := 4) (ty := 29) (g := g_7) (v := .agg (qStA_0)) rfl rfl (by kernel_rfl) (hs_80.all 2 g_7 _ rfl) (by kernel_rfl) ?_
        (try simp only [bgt, blt] at hb_66)
        (try simp only [bgt, blt] at hb_72)
        (try simp only [bgt, blt] at hb_78)
        (try simp only [bgt, blt])
        exact ⟨by unfold b4 meetZ; simp [hb_66, hb_72, hb_78], hs_80.gr⟩
       ·try rw [hb_78]
        have hqhb_78 := empty_f hb_78
        refine CW.cond_false (by kernel_rfl) ?_
        refine CW.skip ?_
        refine CW.seq ?_
        refine CW.region ?_
        refine SL.load (g := g_10) (off := 0) (v := .agg #[iv (bif (decide (aT < bT)) then bT else aT), iv (bif (decide (al < bl)) then bl else al), iv (bif (decide (bb < ab)) then bb else ab), iv (bif (decide (br < ar)) then br else ar)]) rfl rfl rfl (by kernel_rfl) (hs_77.all 3 g_10 _ rfl) (by kernel_rfl) ?_
        refine SL.store (i := 2) (g := g_7) (off := 0) (v := .agg #[iv (bif (decide (aT < bT)) then bT else aT), iv (bif (decide (al < bl)) then bl else al), iv (bif (decide (bb < ab)) then bb else ab), iv (bif (decide (br < ar)) then br else ar)]) (L' := [(g_1, .cells #[iv aT, iv al, iv ab, iv ar] 29 (0, 0)), (g_4, .cells #[iv bT, iv bl, iv bb, iv br] 29 (0, 0)), (g_7, .cells #[iv (bif (decide (aT < bT)) then bT else aT), iv (bif (decide (al < bl)) then bl else al), iv (bif (decide (bb < ab)) then bb else ab), iv (bif (decide (br < ar)) then br else ar)] 29 (0, 0)), (g_10, .cells #[iv (bif (decide (aT < bT)) then bT else aT), iv (bif (decide (al < bl)) then bl else al), iv (bif (decide (bb < ab)) then bb else ab), iv (bif (decide (br < ar)) then br else ar)] 29 (0, 0))]) hs_77 rfl rfl rfl (by kernel_rfl) (by kernel_rfl) rfl (by kernel_rfl) (by kernel_rfl) rfl (by kernel_rfl) rfl (fun w_81 hs_82 => ?_)
        refine SL.nil ?_
        refine CW.ret ?_
        repeat with_reducible first | refine PThen.ret ?_ | refine PBlock.ret ?_
        refine PRet.cell (t := 4) (ty := 29) (g := g_7) (v := .agg #[iv (bif (decide (aT < bT)) then bT else aT), iv (bif (decide (al < bl)) then bl else al), iv (bif (decide (bb < ab)) then bb else ab), iv (bif (decide (br < ar)) then br else ar)]) rfl rfl (by kernel_rfl) (hs_82.all 2 g_7 _ rfl) (by kernel_rfl) ?_
        (try simp only [bgt, blt] at hb_66)
        (try simp only [bgt, blt] at hb_72)
        (try simp only [bgt, blt] at hb_78)
        (try simp only [bgt, blt])
        exact ⟨by unfold b4 meetZ; simp [hb_66, hb_72, hb_78], hs_82.gr⟩
theorem bw (a : Int) : (bif decide (1 < a) then a else 1) = max 0 (max 1 a) := by
 by_cases h : 1 < a
 ·rw [decide_eq_true h, cond_true]; omega
 ·rw [decide_eq_false h, cond_false]; omega
theorem meet_swap (a b c d a' b' c' d' : Int) : meetZ a b c d a' b' c' d' = meetZ a' b' c' d' a b c d := by
 unfold meetZ
 rw [Int.max_comm a, Int.max_comm b, Int.min_comm c, Int.min_comm d, Bool.or_comm (emptyZ a b c d)]
set_option maxRecDepth 100000 in
set_option maxHeartbeats 4000000 in
theorem rwhole_any (pt pl pb pr mt ml mb mr : Int) (w : World) : Calls Tryz.prog 39 #[.agg #[iv pt, iv pl, iv pb, iv pr, iv mt, iv ml, iv mb, iv mr]] w fun e w' => e = .returned (b4 (wholeZ pb pr)) ∧ Gr w w' := by
 refine calls_sx (n := 22) (args := [.agg #[iv pt, iv pl, iv pb, iv pr, iv mt, iv ml, iv mb, iv mr]]) Tryz.func39 rfl rfl rfl ?_
 have hs0 := Bk.init w
 refine CW.seq ?_
 refine CW.region ?_
 refine SL.new (mk := fun g => pv g 0) (C := #[iv pt, iv pl, iv pb, iv pr, iv mt, iv ml, iv mb, iv mr]) (T := 31) hs0 rfl rfl (by kernel_rfl) (fun g_1 w_2 hs_3 => ?_)
 have hs_3 : Bk w w_2 [(g_1, .cells #[iv pt, iv pl, iv pb, iv pr, iv mt, iv ml, iv mb, iv mr] 31 (0, 0))] := hs_3
 refine SL.new (mk := fun g => pv g 0) (C := (qStA_0)) (T := 29) hs_3 rfl rfl (by kernel_rfl) (fun g_4 w_5 hs_6 => ?_)
 have hs_6 : Bk w w_5 [(g_1, .cells #[iv pt, iv pl, iv pb, iv pr, iv mt, iv ml, iv mb, iv mr] 31 (0, 0)), (g_4, .cells (qStA_0) 29 (0, 0))] := hs_6
 refine SL.nil ?_
 refine CW.seq ?_
 refine CW.region ?_
 refine SL.v (.agg #[iv 0, iv 0, iv 1, iv 1]) ?_
 refine SL.new (mk := fun g => pv g 0) (C := (qStA_0)) (T := 29) hs_6 rfl rfl (by kernel_rfl) (fun g_7 w_8 hs_9 => ?_)
 have hs_9 : Bk w w_8 [(g_1, .cells #[iv pt, iv pl, iv pb, iv pr, iv mt, iv ml, iv mb, iv mr] 31 (0, 0)), (g_4, .cells (qStA_0) 29 (0, 0)), (g_7, .cells (qStA_0) 29 (0, 0))] := hs_9
 refine SL.store (i := 2) (g := g_7) (off := 0) (v := .agg #[iv 0, iv 0, iv 1, iv 1]) (L' := [(g_1, .cells #[iv pt, iv pl, iv pb, iv pr, iv mt, iv ml, iv mb, iv mr] 31 (0, 0)), (g_4, .cells (qStA_0) 29 (0, 0)), (g_7, .cells #[iv 0, iv 0, iv 1, iv 1] 29 (0, 0))]) hs_9 rfl rfl rfl (by kernel_rfl) (by kernel_rfl) rfl (by kernel_rfl) (by kernel_rfl) rfl (by kernel_rfl) rfl (fun w_10 hs_11 => ?_)
 refine SL.nil ?_
 refine CW.seq ?_
 refine CW.seq ?_
 refine CW.region ?_
 refine SL.v (pv g_1 0) ?_
 refine SL.v (pv g_1 2) ?_
 refine SL.load (g := g_1) (off := 2) (v := iv pb) rfl rfl rfl (by kernel_rfl) (hs_11.all 0 g_1 _ rfl) (by kernel_rfl) ?_
 refine SL.v (.bool (decide (1 < pb))) ?_
 refine SL.nil ?_
 refine CW.mid (fun e9 w9 => Bk w w9 [(g_1, .cells #[iv pt, iv pl, iv pb, iv pr, iv mt, iv ml, iv mb, iv mr] 31 (0, 0)), (g_4, .cells (qStA_0) 29 (0, 0)), (g_7, .cells #[iv 0, iv 0, iv (bif (decide (1 < pb)) then pb else 1), iv 1] 29 (0, 0))] ∧ e9 1 = pv g_1 0 ∧ e9 2 = pv g_4 0 ∧ e9 3 = pv g_7 0) ?_ ?_
 ·skip
  rcases Bool.eq_false_or_eq_true (decide (1 < pb)) with hb_13 | hb_13
  ·try rw [hb_13]
   have hqhb_13 := of_decide_eq_true hb_13
   refine CW.cond_true (by kernel_rfl) ?_
   refine CW.region ?_
   refine SL.v (pv g_1 0) ?_
   refine SL.v (pv g_1 2) ?_
   refine SL.load (g := g_1) (off := 2) (v := iv pb) rfl rfl rfl (by kernel_rfl) (hs_11.all 0 g_1 _ rfl) (by kernel_rfl) ?_
   refine SL.v (pv g_7 2) ?_
   refine SL.store (i := 2) (g := g_7) (off := 2) (v := iv pb) (L' := [(g_1, .cells #[iv pt, iv pl, iv pb, iv pr, iv mt, iv ml, iv mb, iv mr] 31 (0, 0)), (g_4, .cells (qStA_0) 29 (0, 0)), (g_7, .cells #[iv 0, iv 0, iv pb, iv 1] 29 (0, 0))]) hs_11 rfl rfl rfl (by kernel_rfl) (by kernel_rfl) rfl (by kernel_rfl) (by kernel_rfl) rfl (by kernel_rfl) rfl (fun w_14 hs_15 => ?_)
   refine SL.nil ?_
   exact ⟨hs_15, (by kernel_rfl), (by kernel_rfl), (by kernel_rfl)⟩
  ·try rw [hb_13]
   have hqhb_13 := of_decide_eq_false hb_13
   refine CW.cond_false (by kernel_rfl) ?_
   refine CW.skip ?_
   exact ⟨hs_11, (by kernel_rfl), (by kernel_rfl), (by kernel_rfl)⟩
 ·rintro e_16 w_17 ⟨hs_18, hv_20, hv_21, hv_22⟩
  obtain ⟨e_19, rfl⟩ : ∃ e_19, e_16 = put1 (put1 (put1 e_19 1 (pv g_1 0)) 2 (pv g_4 0)) 3 (pv g_7 0) := ⟨e_16, (put_self hv_22).trans (congrArg (fun z => put1 z 3 (pv g_7 0)) ((put_self hv_21).trans (congrArg (fun z => put1 z 2 (pv g_4 0)) (put_self hv_20))))⟩
  clear hv_20 hv_21 hv_22
  refine CW.seq ?_
  refine CW.seq ?_
  refine CW.region ?_
  refine SL.v (pv g_1 0) ?_
  refine SL.v (pv g_1 3) ?_
  refine SL.load (g := g_1) (off := 3) (v := iv pr) rfl rfl rfl (by kernel_rfl) (hs_18.all 0 g_1 _ rfl) (by kernel_rfl) ?_
  refine SL.v (.bool (decide (1 < pr))) ?_
  refine SL.nil ?_
  refine CW.mid (fun e9 w9 => Bk w w9 [(g_1, .cells #[iv pt, iv pl, iv pb, iv pr, iv mt, iv ml, iv mb, iv mr] 31 (0, 0)), (g_4, .cells (qStA_0) 29 (0, 0)), (g_7, .cells #[iv 0, iv 0, iv (bif (decide (1 < pb)) then pb else 1), iv (bif (decide (1 < pr)) then pr else 1)] 29 (0, 0))] ∧ e9 2 = pv g_4 0 ∧ e9 3 = pv g_7 0) ?_ ?_
  ·skip
   rcases Bool.eq_false_or_eq_true (decide (1 < pr)) with hb_24 | hb_24
   ·try rw [hb_24]
    have hqhb_24 := of_decide_eq_true hb_24
    refine CW.cond_true (by kernel_rfl) ?_
    refine CW.region ?_
    refine SL.v (pv g_1 0) ?_
    refine SL.v (pv g_1 3) ?_
    refine SL.load (g := g_1) (off := 3) (v := iv pr) rfl rfl rfl (by kernel_rfl) (hs_18.all 0 g_1 _ rfl) (by kernel_rfl) ?_
    refine SL.v (pv g_7 3) ?_
    refine SL.store (i := 2) (g := g_7) (off := 3) (v := iv pr) (L' := [(g_1, .cells #[iv pt, iv pl, iv pb, iv pr, iv mt, iv ml, iv mb, iv mr] 31 (0, 0)), (g_4, .cells (qStA_0) 29 (0, 0)), (g_7, .cells #[iv 0, iv 0, iv (bif (decide (1 < pb)) then pb else 1), iv pr] 29 (0, 0))]) hs_18 rfl rfl rfl (by kernel_rfl) (by kernel_rfl) rfl (by kernel_rfl) (by kernel_rfl) rfl (by kernel_rfl) rfl (fun w_25 hs_26 => ?_)
    refine SL.nil ?_
    exact ⟨hs_26, (by kernel_rfl), (by kernel_rfl)⟩
   ·try rw [hb_24]
    have hqhb_24 := of_decide_eq_false hb_24
    refine CW.cond_false (by kernel_rfl) ?_
    refine CW.skip ?_
    exact ⟨hs_18, (by kernel_rfl), (by kernel_rfl)⟩
  ·rintro e_27 w_28 ⟨hs_29, hv_31, hv_32⟩
   obtain ⟨e_30, rfl⟩ : ∃ e_30, e_27 = put1 (put1 e_30 2 (pv g_4 0)) 3 (pv g_7 0) := ⟨e_27, (put_self hv_32).trans (congrArg (fun z => put1 z 3 (pv g_7 0)) (put_self hv_31))⟩
   clear hv_31 hv_32
   refine CW.seq ?_
   refine CW.region ?_
   refine SL.load (g := g_7) (off := 0) (v := .agg #[iv 0, iv 0, iv (bif (decide (1 < pb)) then pb else 1), iv (bif (decide (1 < pr)) then pr else 1)]) rfl rfl rfl (by kernel_rfl) (hs_29.all 2 g_7 _ rfl) (by kernel_rfl) ?_
   refine SL.store (i := 1) (g := g_4) (off := 0) (v := .agg #[iv 0, iv 0, iv (bif (decide (1 < pb)) then pb else 1), iv (bif (decide (1 < pr)) then pr else 1)]) (L' := [(g_1, .cells #[iv pt, iv pl, iv pb, iv pr, iv mt, iv ml, iv mb, iv mr] 31 (0, 0)), (g_4, .cells #[iv 0, iv 0, iv (bif (decide (1 < pb)) then pb else 1), iv (bif (decide (1 < pr)) then pr else 1)] 29 (0, 0)), (g_7, .cells #[iv 0, iv 0, iv (bif (decide (1 < pb)) then pb else 1), iv (bif (decide (1 < pr)) then pr else 1)] 29 (0, 0))]) hs_29 rfl rfl rfl (by kernel_rfl) (by kernel_rfl) rfl (by kernel_rfl) (by kernel_rfl) rfl (by kernel_rfl) rfl (fun w_33 hs_34 => ?_)
   refine SL.nil ?_
   refine CW.ret ?_
   repeat with_reducible first | refine PThen.ret ?_ | refine PBlock.ret ?_
   refine PRet.cell (t := 2) (ty := 29) (g := g_4) (v := .agg #[iv 0, iv 0, iv (bif (decide (1 < pb)) then pb else 1), iv (bif (decide (1 < pr)) then pr else 1)]) rfl rfl (by kernel_rfl) (hs_34.all 1 g_4 _ rfl) (by kernel_rfl) ?_
   (try simp only [bw])
   exact ⟨by unfold b4 wholeZ; simp [], hs_34.gr⟩
set_option maxRecDepth 100000 in
set_option maxHeartbeats 4000000 in
theorem rinner_any (pt pl pb pr mt ml mb mr : Int) (w : World) : Calls Tryz.prog 40 #[.agg #[iv pt, iv pl, iv pb, iv pr, iv mt, iv ml, iv mb, iv mr]] w fun e w' => e = .returned (b4 (innerZ pb pr mt ml mb mr)) ∧ Gr w w' := by
 refine calls_sx (n := 14) (args := [.agg #[iv pt, iv pl, iv pb, iv pr, iv mt, iv ml, iv mb, iv mr]]) Tryz.func40 rfl rfl rfl ?_
 have hs0 := Bk.init w
 refine CW.seq ?_
 refine CW.region ?_
 refine SL.new (mk := fun g => pv g 0) (C := #[iv pt, iv pl, iv pb, iv pr, iv mt, iv ml, iv mb, iv mr]) (T := 31) hs0 rfl rfl (by kernel_rfl) (fun g_1 w_2 hs_3 => ?_)
 have hs_3 : Bk w w_2 [(g_1, .cells #[iv pt, iv pl, iv pb, iv pr, iv mt, iv ml, iv mb, iv mr] 31 (0, 0))] := hs_3
 refine SL.new (mk := fun g => pv g 0) (C := (qStA_0)) (T := 29) hs_3 rfl rfl (by kernel_rfl) (fun g_4 w_5 hs_6 => ?_)
 have hs_6 : Bk w w_5 [(g_1, .cells #[iv pt, iv pl, iv pb, iv pr, iv mt, iv ml, iv mb, iv mr] 31 (0, 0)), (g_4, .cells (qStA_0) 29 (0, 0))] := hs_6
 refine SL.nil ?_
 refine CW.seq ?_
 have HGR : GrL [fun v _ => v = pv g_1 4, fun v _ => v = .agg #[iv mt, iv ml, iv mb, iv mr], fun v _ => v = .agg #[iv pt, iv pl, iv pb, iv pr, iv mt, iv ml, iv mb, iv mr], fun v _ => v = .agg (qStA_1 pb pr), fun v _ => v = .agg #[iv ((meetZ 0 0 (max 0 (max 1 pb)) (max 0 (max 1 pr)) mt ml mb mr).1), iv ((meetZ 0 0 (max 0 (max 1 pb)) (max 0 (max 1 pr)) mt ml mb mr).2.1), iv ((meetZ 0 0 (max 0 (max 1 pb)) (max 0 (max 1 pr)) mt ml mb mr).2.2.1), iv ((meetZ 0 0 (max 0 (max 1 pb)) (max 0 (max 1 pr)) mt ml mb mr).2.2.2)], NewB w_5 (fun g => pv g 0) (.cells (qStA_0) 29 (0, 0))] := ⟨fun _ _ _ _ h => h, ⟨fun _ _ _ _ h => h, ⟨fun _ _ _ _ h => h, ⟨fun _ _ _ _ h => h, ⟨fun _ _ _ _ h => h, ⟨fun _ _ _ hg h => NewB.gr hg h, trivial⟩⟩⟩⟩⟩⟩
 refine CW.draw 6 (FW [fun v _ => v = pv g_1 4, fun v _ => v = .agg #[iv mt, iv ml, iv mb, iv mr], fun v _ => v = .agg #[iv pt, iv pl, iv pb, iv pr, iv mt, iv ml, iv mb, iv mr], fun v _ => v = .agg (qStA_1 pb pr), fun v _ => v = .agg #[iv ((meetZ 0 0 (max 0 (max 1 pb)) (max 0 (max 1 pr)) mt ml mb mr).1), iv ((meetZ 0 0 (max 0 (max 1 pb)) (max 0 (max 1 pr)) mt ml mb mr).2.1), iv ((meetZ 0 0 (max 0 (max 1 pb)) (max 0 (max 1 pr)) mt ml mb mr).2.2.1), iv ((meetZ 0 0 (max 0 (max 1 pb)) (max 0 (max 1 pr)) mt ml mb mr).2.2.2)], NewB w_5 (fun g => pv g 0) (.cells (qStA_0) 29 (0, 0))]) (fun W => Bk w W [(g_1, .cells #[iv pt, iv pl, iv pb, iv pr, iv mt, iv ml, iv mb, iv mr] 31 (0, 0)), (g_4, .cells (qStA_0) 29 (0, 0))] ∧ Gr w_5 W) (by kernel_rfl) (by kernel_rfl) (by kernel_rfl) (by kernel_rfl) (by kernel_rfl) ⟨hs_6.drew, (Gr.refl _).drew⟩ ?_ ?_
 ·refine ⟨?_, ⟨?_, ⟨?_, ⟨?_, ⟨?_, ⟨?_, trivial⟩⟩⟩⟩⟩⟩
  ·intro L ys W hB hF hP K hK
   show OpE _ _ _ W K
   exact OpE.val (pv g_1 4) W (by kernel_rfl) (hK _ W hB rfl (fun _ _ h => h))
  ·intro L ys W hB hF hP K hK
   show OpE _ _ _ W K
   exact OpE.known (j := 0) (v := pv g_1 4) (hF 0 (hP.1 rfl)) (OpE.load (g := g_1) (off := 4) (v := .agg #[iv mt, iv ml, iv mb, iv mr]) rfl (by kernel_rfl) (hB.1.all 0 g_1 _ rfl) (by kernel_rfl) (hK _ W hB rfl (fun _ _ h => h)))
  ·intro L ys W hB hF hP K hK
   show OpE _ _ _ W K
   exact OpE.load (g := g_1) (off := 0) (v := .agg #[iv pt, iv pl, iv pb, iv pr, iv mt, iv ml, iv mb, iv mr]) rfl (by kernel_rfl) (hB.1.all 0 g_1 _ rfl) (by kernel_rfl) (hK _ W hB rfl (fun _ _ h => h))
  ·intro L ys W hB hF hP K hK
   show OpE _ _ _ W K
   exact OpE.known (j := 2) (v := .agg #[iv pt, iv pl, iv pb, iv pr, iv mt, iv ml, iv mb, iv mr]) (hF 2 (hP.1 rfl)) (OpE.call 39 #[.agg #[iv pt, iv pl, iv pb, iv pr, iv mt, iv ml, iv mb, iv mr]] W _ (by kernel_rfl) (rwhole_any pt pl pb pr mt ml mb mr W) (fun x w' hx => by obtain ⟨rfl, hg⟩ := hx; exact ⟨_, rfl, hK _ w' ⟨hB.1.grow hg, hB.2.trans hg⟩ rfl (fun _ _ h => FW.gr HGR hg h)⟩))
  ·intro L ys W hB hF hP K hK
   show OpE _ _ _ W K
   exact OpE.known (j := 1) (v := .agg #[iv mt, iv ml, iv mb, iv mr]) (hF 1 (hP.1 rfl)) (OpE.known (j := 3) (v := .agg (qStA_1 pb pr)) (hF 3 (hP.2.2.1 rfl)) (OpE.call 81 #[.agg #[iv mt, iv ml, iv mb, iv mr], .agg (qStA_1 pb pr)] W _ (by kernel_rfl) ((meet_swap mt ml mb mr 0 0 (max 0 (max 1 pb)) (max 0 (max 1 pr)) ▸ rmeet_any mt ml mb mr 0 0 (max 0 (max 1 pb)) (max 0 (max 1 pr)) W)) (fun x w' hx => by obtain ⟨rfl, hg⟩ := hx; exact ⟨_, rfl, hK _ w' ⟨hB.1.grow hg, hB.2.trans hg⟩ rfl (fun _ _ h => FW.gr HGR hg h)⟩)))
  ·intro L ys W hB hF hP K hK
   show OpE _ _ _ W K
   exact OpE.new (mk := fun g => pv g 0) (C := (qStA_0)) (T := 29) (by kernel_rfl) (hK _ _ ⟨hB.1.grow ((Gr.refl W).alloc _), hB.2.alloc _⟩ ⟨W.heap.size, rfl, heap_alloc_new _ _, hB.2.size⟩ (fun _ _ h => FW.gr HGR ((Gr.refl W).alloc _) h))
 ·intro ys_10 w_7 hs_8 hF_9
  have hs_8 : Bk w w_7 [(g_1, .cells #[iv pt, iv pl, iv pb, iv pr, iv mt, iv ml, iv mb, iv mr] 31 (0, 0)), (g_4, .cells (qStA_0) 29 (0, 0))] := hs_8.1
  obtain ⟨g_11, hvq5, hbq5, hgq5⟩ := hF_9 5 (by decide)
  have hs_12 := hs_8.add hbq5 (Nat.le_trans hs_6.gr.size hgq5) (Bk.new_ne hs_6 hgq5)
  have hs_12 : Bk w w_7 [(g_1, .cells #[iv pt, iv pl, iv pb, iv pr, iv mt, iv ml, iv mb, iv mr] 31 (0, 0)), (g_4, .cells (qStA_0) 29 (0, 0)), (g_11, .cells (qStA_0) 29 (0, 0))] := hs_12
  refine SL.knownY (j := 4) (v := .agg #[iv ((meetZ 0 0 (max 0 (max 1 pb)) (max 0 (max 1 pr)) mt ml mb mr).1), iv ((meetZ 0 0 (max 0 (max 1 pb)) (max 0 (max 1 pr)) mt ml mb mr).2.1), iv ((meetZ 0 0 (max 0 (max 1 pb)) (max 0 (max 1 pr)) mt ml mb mr).2.2.1), iv ((meetZ 0 0 (max 0 (max 1 pb)) (max 0 (max 1 pr)) mt ml mb mr).2.2.2)]) (show ys_10 4 = .agg #[iv ((meetZ 0 0 (max 0 (max 1 pb)) (max 0 (max 1 pr)) mt ml mb mr).1), iv ((meetZ 0 0 (max 0 (max 1 pb)) (max 0 (max 1 pr)) mt ml mb mr).2.1), iv ((meetZ 0 0 (max 0 (max 1 pb)) (max 0 (max 1 pr)) mt ml mb mr).2.2.1), iv ((meetZ 0 0 (max 0 (max 1 pb)) (max 0 (max 1 pr)) mt ml mb mr).2.2.2)] from hF_9 4 (by decide)) (SL.knownY (j := 5) (v := pv g_11 0) hvq5 (?_))
  clear hF_9 HGR
  refine SL.store (i := 2) (g := g_11) (off := 0) (v := .agg #[iv ((meetZ 0 0 (max 0 (max 1 pb)) (max 0 (max 1 pr)) mt ml mb mr).1), iv ((meetZ 0 0 (max 0 (max 1 pb)) (max 0 (max 1 pr)) mt ml mb mr).2.1), iv ((meetZ 0 0 (max 0 (max 1 pb)) (max 0 (max 1 pr)) mt ml mb mr).2.2.1), iv ((meetZ 0 0 (max 0 (max 1 pb)) (max 0 (max 1 pr)) mt ml mb mr).2.2.2)]) (L' := [(g_1, .cells #[iv pt, iv pl, iv pb, iv pr, iv mt, iv ml, iv mb, iv mr] 31 (0, 0)), (g_4, .cells (qStA_0) 29 (0, 0)), (g_11, .cells #[iv ((meetZ 0 0 (max 0 (max 1 pb)) (max 0 (max 1 pr)) mt ml mb mr).1), iv ((meetZ 0 0 (max 0 (max 1 pb)) (max 0 (max 1 pr)) mt ml mb mr).2.1), iv ((meetZ 0 0 (max 0 (max 1 pb)) (max 0 (max 1 pr)) mt ml mb mr).2.2.1), iv ((meetZ 0 0 (max 0 (max 1 pb)) (max 0 (max 1 pr)) mt ml mb mr).2.2.2)] 29 (0, 0))]) hs_12 rfl rfl rfl (by kernel_rfl) (by kernel_rfl) rfl (by kernel_rfl) (by kernel_rfl) rfl (by kernel_rfl) rfl (fun w_13 hs_14 => ?_)
  refine SL.nil ?_
  refine CW.seq ?_
  refine CW.seq ?_
  refine CW.region ?_
  refine SL.load (g := g_11) (off := 0) (v := .agg #[iv ((meetZ 0 0 (max 0 (max 1 pb)) (max 0 (max 1 pr)) mt ml mb mr).1), iv ((meetZ 0 0 (max 0 (max 1 pb)) (max 0 (max 1 pr)) mt ml mb mr).2.1), iv ((meetZ 0 0 (max 0 (max 1 pb)) (max 0 (max 1 pr)) mt ml mb mr).2.2.1), iv ((meetZ 0 0 (max 0 (max 1 pb)) (max 0 (max 1 pr)) mt ml mb mr).2.2.2)]) rfl rfl rfl (by kernel_rfl) (hs_14.all 2 g_11 _ rfl) (by kernel_rfl) ?_
  refine SL.call (f := 82) (args := #[.agg #[iv ((meetZ 0 0 (max 0 (max 1 pb)) (max 0 (max 1 pr)) mt ml mb mr).1), iv ((meetZ 0 0 (max 0 (max 1 pb)) (max 0 (max 1 pr)) mt ml mb mr).2.1), iv ((meetZ 0 0 (max 0 (max 1 pb)) (max 0 (max 1 pr)) mt ml mb mr).2.2.1), iv ((meetZ 0 0 (max 0 (max 1 pb)) (max 0 (max 1 pr)) mt ml mb mr).2.2.2)]]) (w1 := w_13) rfl rfl (by kernel_rfl) (rempty_any ((meetZ 0 0 (max 0 (max 1 pb)) (max 0 (max 1 pr)) mt ml mb mr).1) ((meetZ 0 0 (max 0 (max 1 pb)) (max 0 (max 1 pr)) mt ml mb mr).2.1) ((meetZ 0 0 (max 0 (max 1 pb)) (max 0 (max 1 pr)) mt ml mb mr).2.2.1) ((meetZ 0 0 (max 0 (max 1 pb)) (max 0 (max 1 pr)) mt ml mb mr).2.2.2) w_13) ?_
  rintro x w_15 ⟨rfl, hc_16⟩
  refine ⟨_, rfl, ?_⟩
  have hs_17 := hs_14.grow hc_16
  refine SL.nil ?_
  rcases Bool.eq_false_or_eq_true (emptyZ ((meetZ 0 0 (max 0 (max 1 pb)) (max 0 (max 1 pr)) mt ml mb mr).1) ((meetZ 0 0 (max 0 (max 1 pb)) (max 0 (max 1 pr)) mt ml mb mr).2.1) ((meetZ 0 0 (max 0 (max 1 pb)) (max 0 (max 1 pr)) mt ml mb mr).2.2.1) ((meetZ 0 0 (max 0 (max 1 pb)) (max 0 (max 1 pr)) mt ml mb mr).2.2.2)) with hb_18 | hb_18
  ·try rw [hb_18]
   have hqhb_18 := empty_t hb_18
   refine CW.cond_true (by kernel_rfl) ?_
   refine CW.seq ?_
   refine CW.region ?_
   refine SL.load (g := g_1) (off := 0) (v := .agg #[iv pt, iv pl, iv pb, iv pr, iv mt, iv ml, iv mb, iv mr]) rfl rfl rfl (by kernel_rfl) (hs_17.all 0 g_1 _ rfl) (by kernel_rfl) ?_
   refine SL.call (f := 39) (args := #[.agg #[iv pt, iv pl, iv pb, iv pr, iv mt, iv ml, iv mb, iv mr]]) (w1 := w_15) rfl rfl (by kernel_rfl) (rwhole_any pt pl pb pr mt ml mb mr w_15) ?_
   rintro x w_19 ⟨rfl, hc_20⟩
   refine ⟨_, rfl, ?_⟩
   have hs_21 := hs_17.grow hc_20
   refine SL.store (i := 1) (g := g_4) (off := 0) (v := .agg (qStA_1 pb pr)) (L' := [(g_1, .cells #[iv pt, iv pl, iv pb, iv pr, iv mt, iv ml, iv mb, iv mr] 31 (0, 0)), (g_4, .cells (qStA_1 pb pr) 29 (0, 0)), (g_11, .cells #[iv ((meetZ 0 0 (max 0 (max 1 pb)) (max 0 (max 1 pr)) mt ml mb mr).1), iv ((meetZ 0 0 (max 0 (max 1 pb)) (max 0 (max 1 pr)) mt ml mb mr).2.1), iv ((meetZ 0 0 (max 0 (max 1 pb)) (max 0 (max 1 pr)) mt ml mb mr).2.2.1), iv ((meetZ 0 0 (max 0 (max 1 pb)) (max 0 (max 1 pr)) mt ml mb mr).2.2.2)] 29 (0, 0))]) hs_21 rfl rfl rfl (by kernel_rfl) (by kernel_rfl) rfl (by kernel_rfl) (by kernel_rfl) rfl (by kernel_rfl) rfl (fun w_22 hs_23 => ?_)
   refine SL.nil ?_
   refine CW.ret ?_
   repeat with_reducible first | refine PThen.ret ?_ | refine PBlock.ret ?_
   refine PRet.cell (t := 2) (ty := 29) (g := g_4) (v := .agg (qStA_1 pb pr)) rfl rfl (by kernel_rfl) (hs_23.all 1 g_4 _ rfl) (by kernel_rfl) ?_
   exact ⟨by unfold b4 innerZ wholeZ; simp [hb_18], hs_23.gr⟩
  ·try rw [hb_18]
   have hqhb_18 := empty_f hb_18
   refine CW.cond_false (by kernel_rfl) ?_
   refine CW.skip ?_
   refine CW.seq ?_
   refine CW.region ?_
   refine SL.load (g := g_11) (off := 0) (v := .agg #[iv ((meetZ 0 0 (max 0 (max 1 pb)) (max 0 (max 1 pr)) mt ml mb mr).1), iv ((meetZ 0 0 (max 0 (max 1 pb)) (max 0 (max 1 pr)) mt ml mb mr).2.1), iv ((meetZ 0 0 (max 0 (max 1 pb)) (max 0 (max 1 pr)) mt ml mb mr).2.2.1), iv ((meetZ 0 0 (max 0 (max 1 pb)) (max 0 (max 1 pr)) mt ml mb mr).2.2.2)]) rfl rfl rfl (by kernel_rfl) (hs_17.all 2 g_11 _ rfl) (by kernel_rfl) ?_
   refine SL.store (i := 1) (g := g_4) (off := 0) (v := .agg #[iv ((meetZ 0 0 (max 0 (max 1 pb)) (max 0 (max 1 pr)) mt ml mb mr).1), iv ((meetZ 0 0 (max 0 (max 1 pb)) (max 0 (max 1 pr)) mt ml mb mr).2.1), iv ((meetZ 0 0 (max 0 (max 1 pb)) (max 0 (max 1 pr)) mt ml mb mr).2.2.1), iv ((meetZ 0 0 (max 0 (max 1 pb)) (max 0 (max 1 pr)) mt ml mb mr).2.2.2)]) (L' := [(g_1, .cells #[iv pt, iv pl, iv pb, iv pr, iv mt, iv ml, iv mb, iv mr] 31 (0, 0)), (g_4, .cells #[iv ((meetZ 0 0 (max 0 (max 1 pb)) (max 0 (max 1 pr)) mt ml mb mr).1), iv ((meetZ 0 0 (max 0 (max 1 pb)) (max 0 (max 1 pr)) mt ml mb mr).2.1), iv ((meetZ 0 0 (max 0 (max 1 pb)) (max 0 (max 1 pr)) mt ml mb mr).2.2.1), iv ((meetZ 0 0 (max 0 (max 1 pb)) (max 0 (max 1 pr)) mt ml mb mr).2.2.2)] 29 (0, 0)), (g_11, .cells #[iv ((meetZ 0 0 (max 0 (max 1 pb)) (max 0 (max 1 pr)) mt ml mb mr).1), iv ((meetZ 0 0 (max 0 (max 1 pb)) (max 0 (max 1 pr)) mt ml mb mr).2.1), iv ((meetZ 0 0 (max 0 (max 1 pb)) (max 0 (max 1 pr)) mt ml mb mr).2.2.1), iv ((meetZ 0 0 (max 0 (max 1 pb)) (max 0 (max 1 pr)) mt ml mb mr).2.2.2)] 29 (0, 0))]) hs_17 rfl rfl rfl (by kernel_rfl) (by kernel_rfl) rfl (by kernel_rfl) (by kernel_rfl) rfl (by kernel_rfl) rfl (fun w_24 hs_25 => ?_)
   refine SL.nil ?_
   refine CW.ret ?_
   repeat with_reducible first | refine PThen.ret ?_ | refine PBlock.ret ?_
   refine PRet.cell (t := 2) (ty := 29) (g := g_4) (v := .agg #[iv ((meetZ 0 0 (max 0 (max 1 pb)) (max 0 (max 1 pr)) mt ml mb mr).1), iv ((meetZ 0 0 (max 0 (max 1 pb)) (max 0 (max 1 pr)) mt ml mb mr).2.1), iv ((meetZ 0 0 (max 0 (max 1 pb)) (max 0 (max 1 pr)) mt ml mb mr).2.2.1), iv ((meetZ 0 0 (max 0 (max 1 pb)) (max 0 (max 1 pr)) mt ml mb mr).2.2.2)]) rfl rfl (by kernel_rfl) (hs_25.all 1 g_4 _ rfl) (by kernel_rfl) ?_
   exact ⟨by unfold b4 innerZ wholeZ; simp [hb_18], hs_25.gr⟩
def nearZ (n a b : Int) : Int := if n < a then a else if b ≤ n then b - 1 else n
set_option maxRecDepth 100000 in
set_option maxHeartbeats 4000000 in
theorem near_any (n a b : Int) (w : World) (hb : I6 b ∧ a < b ∧ I6 a) : Calls Tryz.prog 83 #[iv n, iv a, iv b] w fun e w' => e = .returned (iv (nearZ n a b)) ∧ Gr w w' := by
 obtain ⟨⟨hb1, hb2⟩, hb3, hb4, hb5⟩ := hb
 refine calls_sx (n := 17) (args := [iv n, iv a, iv b]) Tryz.func83 rfl rfl rfl ?_
 have hs0 := Bk.init w
 refine CW.seq ?_
 refine CW.region ?_
 refine SL.v (iv 0) ?_
 refine SL.nil ?_
 refine CW.seq ?_
 refine CW.seq ?_
 refine CW.region ?_
 refine SL.v (iv n) ?_
 refine SL.v (iv a) ?_
 refine SL.v (.bool (decide (n < a))) ?_
 refine SL.nil ?_
 rcases Bool.eq_false_or_eq_true (decide (n < a)) with hb_1 | hb_1
 ·try rw [hb_1]
  have hqhb_1 := of_decide_eq_true hb_1
  refine CW.cond_true (by kernel_rfl) ?_
  refine CW.seq ?_
  refine CW.region ?_
  refine SL.v (iv a) ?_
  refine SL.v (iv a) ?_
  refine SL.nil ?_
  refine CW.ret ?_
  repeat with_reducible first | refine PThen.ret ?_ | refine PBlock.ret ?_
  refine PRet.tmp (t := 6) (v := iv a) rfl rfl (by kernel_rfl) ?_
  exact ⟨by unfold nearZ; simp [hb_1, hqhb_1], hs0.gr⟩
 ·try rw [hb_1]
  have hqhb_1 := of_decide_eq_false hb_1
  refine CW.cond_false (by kernel_rfl) ?_
  refine CW.skip ?_
  refine CW.seq ?_
  refine CW.seq ?_
  refine CW.region ?_
  refine SL.v (iv n) ?_
  refine SL.v (iv b) ?_
  refine SL.v (.bool (decide (b ≤ n))) ?_
  refine SL.nil ?_
  rcases Bool.eq_false_or_eq_true (decide (b ≤ n)) with hb_2 | hb_2
  ·try rw [hb_2]
   have hqhb_2 := of_decide_eq_true hb_2
   refine CW.cond_true (by kernel_rfl) ?_
   refine CW.seq ?_
   refine CW.region ?_
   refine SL.v (iv b) ?_
   refine SL.val (v := iv (b - 1)) (w' := w) rfl rfl (by have hw : IntKind.i64.wrap (b - 1) = b - 1 := IntWalk.i64_in _ (by omega); exact run_eqv (by kernel_rfl) (congrArg (fun z => Value.int .i64 z) hw)) ?_
   refine SL.v (iv (b - 1)) ?_
   refine SL.nil ?_
   refine CW.ret ?_
   repeat with_reducible first | refine PThen.ret ?_ | refine PBlock.ret ?_
   refine PRet.tmp (t := 6) (v := iv (b - 1)) rfl rfl (by kernel_rfl) ?_
   exact ⟨by unfold nearZ; simp [hb_1, hb_2, hqhb_1, hqhb_2], hs0.gr⟩
  ·try rw [hb_2]
   have hqhb_2 := of_decide_eq_false hb_2
   refine CW.cond_false (by kernel_rfl) ?_
   refine CW.skip ?_
   refine CW.seq ?_
   refine CW.region ?_
   refine SL.v (iv n) ?_
   refine SL.v (iv n) ?_
   refine SL.nil ?_
   refine CW.ret ?_
   repeat with_reducible first | refine PThen.ret ?_ | refine PBlock.ret ?_
   refine PRet.tmp (t := 6) (v := iv n) rfl rfl (by kernel_rfl) ?_
   exact ⟨by unfold nearZ; simp [hb_1, hb_2, hqhb_1, hqhb_2], hs0.gr⟩
theorem near_clip {n a b : Int} (h : a < b) : nearZ n a b = clipZ n a (b - 1) := by unfold nearZ clipZ; split <;> (try split) <;> omega
set_option maxRecDepth 100000 in
set_option maxHeartbeats 4000000 in
theorem rclamp_any (t l b r row col : Int) (w : World) (ht : I6 t ∧ I6 l ∧ I6 b ∧ I6 r) : Calls Tryz.prog 41 #[.agg #[iv t, iv l, iv b, iv r], .agg #[iv row, iv col]] w fun e w' => e = .returned (p2 (clampZ t l b r row col)) ∧ Gr w w' := by
 obtain ⟨⟨ht1, ht2⟩, ⟨hl1, hl2⟩, ⟨hb1, hb2⟩, hr1, hr2⟩ := ht
 refine calls_sx (n := 27) (args := [.agg #[iv t, iv l, iv b, iv r], .agg #[iv row, iv col]]) Tryz.func41 rfl rfl rfl ?_
 have hs0 := Bk.init w
 refine CW.seq ?_
 refine CW.region ?_
 refine SL.new (mk := fun g => pv g 0) (C := #[iv t, iv l, iv b, iv r]) (T := 29) hs0 rfl rfl (by kernel_rfl) (fun g_1 w_2 hs_3 => ?_)
 have hs_3 : Bk w w_2 [(g_1, .cells #[iv t, iv l, iv b, iv r] 29 (0, 0))] := hs_3
 refine SL.new (mk := fun g => pv g 0) (C := #[iv row, iv col]) (T := 37) hs_3 rfl rfl (by kernel_rfl) (fun g_4 w_5 hs_6 => ?_)
 have hs_6 : Bk w w_5 [(g_1, .cells #[iv t, iv l, iv b, iv r] 29 (0, 0)), (g_4, .cells #[iv row, iv col] 37 (0, 0))] := hs_6
 refine SL.new (mk := fun g => pv g 0) (C := #[iv 0, iv 0]) (T := 37) hs_6 rfl rfl (by kernel_rfl) (fun g_7 w_8 hs_9 => ?_)
 have hs_9 : Bk w w_8 [(g_1, .cells #[iv t, iv l, iv b, iv r] 29 (0, 0)), (g_4, .cells #[iv row, iv col] 37 (0, 0)), (g_7, .cells #[iv 0, iv 0] 37 (0, 0))] := hs_9
 refine SL.nil ?_
 refine CW.seq ?_
 refine CW.seq ?_
 refine CW.region ?_
 refine SL.load (g := g_1) (off := 0) (v := .agg #[iv t, iv l, iv b, iv r]) rfl rfl rfl (by kernel_rfl) (hs_9.all 0 g_1 _ rfl) (by kernel_rfl) ?_
 refine SL.call (f := 82) (args := #[.agg #[iv t, iv l, iv b, iv r]]) (w1 := w_8) rfl rfl (by kernel_rfl) (rempty_any t l b r w_8) ?_
 rintro x w_10 ⟨rfl, hc_11⟩
 refine ⟨_, rfl, ?_⟩
 have hs_12 := hs_9.grow hc_11
 refine SL.nil ?_
 rcases Bool.eq_false_or_eq_true (emptyZ t l b r) with hb_13 | hb_13
 ·try rw [hb_13]
  have hqhb_13 := empty_t hb_13
  refine CW.cond_true (by kernel_rfl) ?_
  refine CW.seq ?_
  refine CW.region ?_
  refine SL.v (pv g_1 0) ?_
  refine SL.load (g := g_1) (off := 0) (v := iv t) rfl rfl rfl (by kernel_rfl) (hs_12.all 0 g_1 _ rfl) (by kernel_rfl) ?_
  refine SL.v (pv g_1 1) ?_
  refine SL.load (g := g_1) (off := 1) (v := iv l) rfl rfl rfl (by kernel_rfl) (hs_12.all 0 g_1 _ rfl) (by kernel_rfl) ?_
  refine SL.v (.agg #[iv t, iv l]) ?_
  refine SL.store (i := 2) (g := g_7) (off := 0) (v := .agg #[iv t, iv l]) (L' := [(g_1, .cells #[iv t, iv l, iv b, iv r] 29 (0, 0)), (g_4, .cells #[iv row, iv col] 37 (0, 0)), (g_7, .cells #[iv t, iv l] 37 (0, 0))]) hs_12 rfl rfl rfl (by kernel_rfl) (by kernel_rfl) rfl (by kernel_rfl) (by kernel_rfl) rfl (by kernel_rfl) rfl (fun w_14 hs_15 => ?_)
  refine SL.nil ?_
  refine CW.ret ?_
  repeat with_reducible first | refine PThen.ret ?_ | refine PBlock.ret ?_
  refine PRet.cell (t := 4) (ty := 37) (g := g_7) (v := .agg #[iv t, iv l]) rfl rfl (by kernel_rfl) (hs_15.all 2 g_7 _ rfl) (by kernel_rfl) ?_
  exact ⟨by unfold p2 clampZ; (try rw [near_clip (by omega), near_clip (by omega)]); simp [hb_13], hs_15.gr⟩
 ·try rw [hb_13]
  have hqhb_13 := empty_f hb_13
  refine CW.cond_false (by kernel_rfl) ?_
  refine CW.skip ?_
  refine CW.seq ?_
  have HGR : GrL [fun v _ => v = pv g_4 0, fun v _ => v = iv row, fun v _ => v = pv g_1 0, fun v _ => v = iv t, fun v _ => v = pv g_1 2, fun v _ => v = iv b, fun v _ => v = iv (nearZ row t b), fun v _ => v = pv g_4 1, fun v _ => v = iv col, fun v _ => v = pv g_1 1, fun v _ => v = iv l, fun v _ => v = pv g_1 3, fun v _ => v = iv r] := ⟨fun _ _ _ _ h => h, ⟨fun _ _ _ _ h => h, ⟨fun _ _ _ _ h => h, ⟨fun _ _ _ _ h => h, ⟨fun _ _ _ _ h => h, ⟨fun _ _ _ _ h => h, ⟨fun _ _ _ _ h => h, ⟨fun _ _ _ _ h => h, ⟨fun _ _ _ _ h => h, ⟨fun _ _ _ _ h => h, ⟨fun _ _ _ _ h => h, ⟨fun _ _ _ _ h => h, ⟨fun _ _ _ _ h => h, trivial⟩⟩⟩⟩⟩⟩⟩⟩⟩⟩⟩⟩⟩
  refine CW.draw 13 (FW [fun v _ => v = pv g_4 0, fun v _ => v = iv row, fun v _ => v = pv g_1 0, fun v _ => v = iv t, fun v _ => v = pv g_1 2, fun v _ => v = iv b, fun v _ => v = iv (nearZ row t b), fun v _ => v = pv g_4 1, fun v _ => v = iv col, fun v _ => v = pv g_1 1, fun v _ => v = iv l, fun v _ => v = pv g_1 3, fun v _ => v = iv r]) (fun W => Bk w W [(g_1, .cells #[iv t, iv l, iv b, iv r] 29 (0, 0)), (g_4, .cells #[iv row, iv col] 37 (0, 0)), (g_7, .cells #[iv 0, iv 0] 37 (0, 0))] ∧ Gr w_10 W) (by kernel_rfl) (by kernel_rfl) (by kernel_rfl) (by kernel_rfl) (by kernel_rfl) ⟨hs_12.drew, (Gr.refl _).drew⟩ ?_ ?_
  ·refine ⟨?_, ⟨?_, ⟨?_, ⟨?_, ⟨?_, ⟨?_, ⟨?_, ⟨?_, ⟨?_, ⟨?_, ⟨?_, ⟨?_, ⟨?_, trivial⟩⟩⟩⟩⟩⟩⟩⟩⟩⟩⟩⟩⟩
   ·intro L ys W hB hF hP K hK
    show OpE _ _ _ W K
    exact OpE.val (pv g_4 0) W (by kernel_rfl) (hK _ W hB rfl (fun _ _ h => h))
   ·intro L ys W hB hF hP K hK
    show OpE _ _ _ W K
    exact OpE.known (j := 0) (v := pv g_4 0) (hF 0 (hP.1 rfl)) (OpE.load (g := g_4) (off := 0) (v := iv row) rfl (by kernel_rfl) (hB.1.all 1 g_4 _ rfl) (by kernel_rfl) (hK _ W hB rfl (fun _ _ h => h)))
   ·intro L ys W hB hF hP K hK
    show OpE _ _ _ W K
    exact OpE.val (pv g_1 0) W (by kernel_rfl) (hK _ W hB rfl (fun _ _ h => h))
   ·intro L ys W hB hF hP K hK
    show OpE _ _ _ W K
    exact OpE.known (j := 2) (v := pv g_1 0) (hF 2 (hP.1 rfl)) (OpE.load (g := g_1) (off := 0) (v := iv t) rfl (by kernel_rfl) (hB.1.all 0 g_1 _ rfl) (by kernel_rfl) (hK _ W hB rfl (fun _ _ h => h)))
   ·intro L ys W hB hF hP K hK
    show OpE _ _ _ W K
    exact OpE.val (pv g_1 2) W (by kernel_rfl) (hK _ W hB rfl (fun _ _ h => h))
   ·intro L ys W hB hF hP K hK
    show OpE _ _ _ W K
    exact OpE.known (j := 4) (v := pv g_1 2) (hF 4 (hP.1 rfl)) (OpE.load (g := g_1) (off := 2) (v := iv b) rfl (by kernel_rfl) (hB.1.all 0 g_1 _ rfl) (by kernel_rfl) (hK _ W hB rfl (fun _ _ h => h)))
   ·intro L ys W hB hF hP K hK
    show OpE _ _ _ W K
    exact OpE.known (j := 1) (v := iv row) (hF 1 (hP.1 rfl)) (OpE.known (j := 3) (v := iv t) (hF 3 (hP.2.1 rfl)) (OpE.known (j := 5) (v := iv b) (hF 5 (hP.2.2.1 rfl)) (OpE.call 83 #[iv row, iv t, iv b] W _ (by kernel_rfl) (near_any row t b W (by refine ⟨⟨?_, ?_⟩, ?_, ?_, ?_⟩ <;> omega)) (fun x w' hx => by obtain ⟨rfl, hg⟩ := hx; exact ⟨_, rfl, hK _ w' ⟨hB.1.grow hg, hB.2.trans hg⟩ rfl (fun _ _ h => FW.gr HGR hg h)⟩))))
   ·intro L ys W hB hF hP K hK
    show OpE _ _ _ W K
    exact OpE.val (pv g_4 1) W (by kernel_rfl) (hK _ W hB rfl (fun _ _ h => h))
   ·intro L ys W hB hF hP K hK
    show OpE _ _ _ W K
    exact OpE.known (j := 7) (v := pv g_4 1) (hF 7 (hP.1 rfl)) (OpE.load (g := g_4) (off := 1) (v := iv col) rfl (by kernel_rfl) (hB.1.all 1 g_4 _ rfl) (by kernel_rfl) (hK _ W hB rfl (fun _ _ h => h)))
   ·intro L ys W hB hF hP K hK
    show OpE _ _ _ W K
    exact OpE.val (pv g_1 1) W (by kernel_rfl) (hK _ W hB rfl (fun _ _ h => h))
   ·intro L ys W hB hF hP K hK
    show OpE _ _ _ W K
    exact OpE.known (j := 9) (v := pv g_1 1) (hF 9 (hP.1 rfl)) (OpE.load (g := g_1) (off := 1) (v := iv l) rfl (by kernel_rfl) (hB.1.all 0 g_1 _ rfl) (by kernel_rfl) (hK _ W hB rfl (fun _ _ h => h)))
   ·intro L ys W hB hF hP K hK
    show OpE _ _ _ W K
    exact OpE.val (pv g_1 3) W (by kernel_rfl) (hK _ W hB rfl (fun _ _ h => h))
   ·intro L ys W hB hF hP K hK
    show OpE _ _ _ W K
    exact OpE.known (j := 11) (v := pv g_1 3) (hF 11 (hP.1 rfl)) (OpE.load (g := g_1) (off := 3) (v := iv r) rfl (by kernel_rfl) (hB.1.all 0 g_1 _ rfl) (by kernel_rfl) (hK _ W hB rfl (fun _ _ h => h)))
  ·intro ys_19 w_16 hs_17 hF_18
   have hs_17 : Bk w w_16 [(g_1, .cells #[iv t, iv l, iv b, iv r] 29 (0, 0)), (g_4, .cells #[iv row, iv col] 37 (0, 0)), (g_7, .cells #[iv 0, iv 0] 37 (0, 0))] := hs_17.1
   refine SL.knownY (j := 6) (v := iv (nearZ row t b)) (show ys_19 6 = iv (nearZ row t b) from hF_18 6 (by decide)) (SL.knownY (j := 8) (v := iv col) (show ys_19 8 = iv col from hF_18 8 (by decide)) (SL.knownY (j := 10) (v := iv l) (show ys_19 10 = iv l from hF_18 10 (by decide)) (SL.knownY (j := 12) (v := iv r) (show ys_19 12 = iv r from hF_18 12 (by decide)) (?_))))
   clear hF_18 HGR
   refine SL.call (f := 83) (args := #[iv col, iv l, iv r]) (w1 := w_16) rfl rfl (by kernel_rfl) (near_any col l r w_16 (by refine ⟨⟨?_, ?_⟩, ?_, ?_, ?_⟩ <;> omega)) ?_
   rintro x w_20 ⟨rfl, hc_21⟩
   refine ⟨_, rfl, ?_⟩
   have hs_22 := hs_17.grow hc_21
   refine SL.v (.agg #[iv (nearZ row t b), iv (nearZ col l r)]) ?_
   refine SL.store (i := 2) (g := g_7) (off := 0) (v := .agg #[iv (nearZ row t b), iv (nearZ col l r)]) (L' := [(g_1, .cells #[iv t, iv l, iv b, iv r] 29 (0, 0)), (g_4, .cells #[iv row, iv col] 37 (0, 0)), (g_7, .cells #[iv (nearZ row t b), iv (nearZ col l r)] 37 (0, 0))]) hs_22 rfl rfl rfl (by kernel_rfl) (by kernel_rfl) rfl (by kernel_rfl) (by kernel_rfl) rfl (by kernel_rfl) rfl (fun w_23 hs_24 => ?_)
   refine SL.nil ?_
   refine CW.ret ?_
   repeat with_reducible first | refine PThen.ret ?_ | refine PBlock.ret ?_
   refine PRet.cell (t := 4) (ty := 37) (g := g_7) (v := .agg #[iv (nearZ row t b), iv (nearZ col l r)]) rfl rfl (by kernel_rfl) (hs_24.all 2 g_7 _ rfl) (by kernel_rfl) ?_
   exact ⟨by unfold p2 clampZ; (try rw [near_clip (by omega), near_clip (by omega)]); simp [hb_13], hs_24.gr⟩
set_option maxRecDepth 100000 in
set_option maxHeartbeats 4000000 in
theorem rclip_any (n a b : Int) (w : World) (hab : a ≤ b) : Calls Tryz.prog 45 #[iv n, iv a, iv b] w fun e w' => e = .returned (iv (clipZ n a b)) ∧ Gr w w' := by
 refine calls_sx (n := 16) (args := [iv n, iv a, iv b]) Tryz.func45 rfl rfl rfl ?_
 have hs0 := Bk.init w
 refine CW.seq ?_
 refine CW.region ?_
 refine SL.v (iv 0) ?_
 refine SL.nil ?_
 refine CW.seq ?_
 refine CW.seq ?_
 refine CW.region ?_
 refine SL.v (iv n) ?_
 refine SL.v (iv a) ?_
 refine SL.v (.bool (decide (n < a))) ?_
 refine SL.nil ?_
 rcases Bool.eq_false_or_eq_true (decide (n < a)) with hb_1 | hb_1
 ·try rw [hb_1]
  have hqhb_1 := of_decide_eq_true hb_1
  refine CW.cond_true (by kernel_rfl) ?_
  refine CW.seq ?_
  refine CW.region ?_
  refine SL.v (iv a) ?_
  refine SL.v (iv a) ?_
  refine SL.nil ?_
  refine CW.ret ?_
  repeat with_reducible first | refine PThen.ret ?_ | refine PBlock.ret ?_
  refine PRet.tmp (t := 6) (v := iv a) rfl rfl (by kernel_rfl) ?_
  exact ⟨by unfold clipZ; simp; omega, hs0.gr⟩
 ·try rw [hb_1]
  have hqhb_1 := of_decide_eq_false hb_1
  refine CW.cond_false (by kernel_rfl) ?_
  refine CW.skip ?_
  refine CW.seq ?_
  refine CW.seq ?_
  refine CW.region ?_
  refine SL.v (iv n) ?_
  refine SL.v (iv b) ?_
  refine SL.v (.bool (decide (b < n))) ?_
  refine SL.nil ?_
  rcases Bool.eq_false_or_eq_true (decide (b < n)) with hb_2 | hb_2
  ·try rw [hb_2]
   have hqhb_2 := of_decide_eq_true hb_2
   refine CW.cond_true (by kernel_rfl) ?_
   refine CW.seq ?_
   refine CW.region ?_
   refine SL.v (iv b) ?_
   refine SL.v (iv b) ?_
   refine SL.nil ?_
   refine CW.ret ?_
   repeat with_reducible first | refine PThen.ret ?_ | refine PBlock.ret ?_
   refine PRet.tmp (t := 6) (v := iv b) rfl rfl (by kernel_rfl) ?_
   exact ⟨by unfold clipZ; simp; omega, hs0.gr⟩
  ·try rw [hb_2]
   have hqhb_2 := of_decide_eq_false hb_2
   refine CW.cond_false (by kernel_rfl) ?_
   refine CW.skip ?_
   refine CW.seq ?_
   refine CW.region ?_
   refine SL.v (iv n) ?_
   refine SL.v (iv n) ?_
   refine SL.nil ?_
   refine CW.ret ?_
   repeat with_reducible first | refine PThen.ret ?_ | refine PBlock.ret ?_
   refine PRet.tmp (t := 6) (v := iv n) rfl rfl (by kernel_rfl) ?_
   exact ⟨by unfold clipZ; simp; omega, hs0.gr⟩
end Go.Proofs.YtfkecgkfcldffaaGreatDoor
