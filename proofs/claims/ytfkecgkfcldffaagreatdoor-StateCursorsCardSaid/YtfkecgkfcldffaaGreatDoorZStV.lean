/-
 A cursor that is brought back by the document, walked (gen_stv.py).
-/
import Derived.Test.YtfkecgkfcldffaaGreatDoorZStZ
namespace Go.Proofs.YtfkecgkfcldffaaGreatDoor
set_option linter.unusedSimpArgs false
set_option linter.unusedVariables false
open Go.RowKit
set_option linter.unusedVariables false

theorem dnum_y (l : List Int) (w : World) (hl : ∀ c ∈ l, 0 ≤ c ∧ c < 256) (hn : l.length ≤ 300) (hk : numK l = true) : Calls Tryz.prog 35 #[.string (strOf l)] w fun e w' => e = .returned (iv (numV l)) ∧ Gr w w' := by
 have h := dnum_any l w hl hn
 unfold numM at h
 rw [hk] at h
 exact h
theorem few_y (l : List Int) (m : Int) (w : World) (hl : ∀ c ∈ l, 0 ≤ c ∧ c < 256) (hm : 0 ≤ m ∧ m ≤ 100) (hn : l.length ≤ 100000) (hk : bitK l m = true) : Calls Tryz.prog 36 #[.string (strOf l), iv m] w fun e w' => e = .returned (iv (bitV l m)) ∧ Gr w w' := by
 have h := few_any l m w hl hm hn
 unfold fewV at h
 rw [hk] at h
 exact h
theorem numM_neg (l : List Int) : decide (numM l < 0) = !numK l := by
 have h := numV_in (l := l)
 unfold numM
 cases numK l with
 | true => rw [cond_true, decide_eq_false (by omega)]; rfl
 | false => rfl
theorem fewV_neg (l : List Int) {m : Int} (hm : 0 ≤ m) : decide (fewV l m < 0) = !bitK l m := by
 have h := bitV_in l hm
 unfold fewV
 cases bitK l m with
 | true => rw [cond_true, decide_eq_false (by omega)]; rfl
 | false => rfl
theorem fields_m (l : List Int) (w : World) (hl : ∀ c ∈ l, 0 ≤ c ∧ c < 256) (hn : l.length ≤ 100000) : Tr Tryz.prog 34 #[.string (strOf l)] w [] (fun v Q => ∃ a c, v = .slice a ((splitSemi l).map strOf).length c ∧ Q = [rowH 9 1 a ((splitSemi l).map strOf).length c (scells ((splitSemi l).map strOf))]) := by
 simp only [List.length_map]
 exact fields_any l w hl hn
set_option maxRecDepth 100000 in
set_option maxHeartbeats 4000000 in
theorem dsc_no (c : Cor) (l : List Int) (w : World) (hok : c.Ok) (hl : ∀ c ∈ l, 0 ≤ c ∧ c < 256) (hn : l.length ≤ 300) (hx : (splitSemi l).length ≠ 10) :
  Calls Tryz.prog 11 #[.agg (cdA c), .string (strOf l)] w fun e w' => e = .returned (.tuple #[.agg (cdA c.clean), .bool false]) ∧ Gr w w' := by
 have hno : (((((splitSemi l).map strOf).length : Nat) : Int) == 10) = false := by rw [beq_eq_false_iff_ne, List.length_map]; omega
 refine calls_sx (n := 129) (args := [.agg (cdA c), .string (strOf l)]) Tryz.func11 rfl rfl rfl ?_
 have hs0 := SH.none w
 refine CW.seq ?_
 refine CW.region ?_
 refine SL.newH (mk := fun g => pv g 0) (C := (cdA c)) (T := 33) hs0 rfl rfl (by kernel_rfl) (fun g_1 w_2 hs_3 => ?_)
 have hs_3 : SH [] w w_2 [pt g_1 (cdA c) 33] := hs_3
 refine SL.newH (mk := fun g => pv g 0) (C := czD) (T := 33) hs_3 rfl rfl (by kernel_rfl) (fun g_4 w_5 hs_6 => ?_)
 have hs_6 : SH [] w w_5 [pt g_1 (cdA c) 33, pt g_4 czD 33] := hs_6
 refine SL.v (.bool false) ?_
 refine SL.nil ?_
 refine CW.seq ?_
 refine CW.region ?_
 refine SL.load (g := g_1) (off := 0) (v := .agg (cdA c)) rfl rfl rfl (by kernel_rfl) (hs_6.pt_at (i := 0) rfl) (by kernel_rfl) ?_
 refine SL.call (f := 13) (args := #[.agg (cdA c)]) (w1 := w_5) rfl rfl (by kernel_rfl) (rclean_any c w_5 hok) ?_
 rintro x w_7 ⟨rfl, hc_8⟩
 refine ⟨_, rfl, ?_⟩
 have hs_9 := hs_6.grow hc_8
 refine SL.storeH (i := 0) (g := g_1) (off := 0) (v := .agg (cdA c.clean)) (L' := [pt g_1 (cdA c.clean) 33, pt g_4 czD 33]) hs_9 rfl rfl rfl (by kernel_rfl) (by kernel_rfl) rfl (by kernel_rfl) (by kernel_rfl) rfl (by kernel_rfl) rfl (fun w_10 hs_11 => ?_)
 refine SL.nil ?_
 refine CW.seq ?_
 refine CW.region ?_
 refine SL.v (.string (strOf l)) ?_
 refine SL.callH (f := 34) (args := #[.string (strOf l)]) (Pre := []) (Rest := [pt g_1 (cdA c.clean) 33, pt g_4 czD 33]) [] hs_11 rfl rfl (by kernel_rfl) rfl (fields_m l w_10 hl (by omega)) ?_
 rintro v_ Q_ w_15 ⟨a_12, c_13, rfl, rfl⟩ hs_17
 have hs_17 : SH [] w w_15 [rowH 9 1 a_12 ((splitSemi l).map strOf).length c_13 (scells ((splitSemi l).map strOf)), pt g_1 (cdA c.clean) 33, pt g_4 czD 33] := hs_17
 refine SL.v (.slice a_12 (((splitSemi l).map strOf).length) c_13) ?_
 refine SL.nil ?_
 refine CW.seq ?_
 refine CW.seq ?_
 refine CW.region ?_
 refine SL.v (.slice a_12 (((splitSemi l).map strOf).length) c_13) ?_
 refine SL.val (v := iv ((((splitSemi l).map strOf).length : Nat) : Int)) (w' := w_15) rfl rfl (by kernel_rfl) ?_
 refine SL.v (.bool (!(((((splitSemi l).map strOf).length : Nat) : Int) == 10))) ?_
 refine SL.nil ?_
 have hb_18 : (((((splitSemi l).map strOf).length : Nat) : Int) == 10) = false := hno
 rw [hb_18]
 refine CW.cond_true (by kernel_rfl) ?_
 refine CW.seq ?_
 refine CW.region ?_
 refine SL.load (g := g_1) (off := 0) (v := .agg (cdA c.clean)) rfl rfl rfl (by kernel_rfl) (hs_17.pt_at (i := 1) rfl) (by kernel_rfl) ?_
 refine SL.storeH (i := 2) (g := g_4) (off := 0) (v := .agg (cdA c.clean)) (L' := [rowH 9 1 a_12 ((splitSemi l).map strOf).length c_13 (scells ((splitSemi l).map strOf)), pt g_1 (cdA c.clean) 33, pt g_4 (cdA c.clean) 33]) hs_17 rfl rfl rfl (by kernel_rfl) (by kernel_rfl) rfl (by kernel_rfl) (by kernel_rfl) rfl (by kernel_rfl) rfl (fun w_19 hs_20 => ?_)
 refine SL.v (.bool false) ?_
 refine SL.nil ?_
 refine CW.ret ?_
 repeat with_reducible first | refine PThen.ret ?_ | refine PBlock.ret ?_
 refine PRet.cellTmp (t := 4) (u := 5) (ty := 33) (g := g_4) (v := .agg (cdA c.clean)) (v' := .bool false) rfl rfl rfl (by kernel_rfl) (hs_20.pt_at (i := 2) rfl) (by kernel_rfl) (by kernel_rfl) ?_
 exact ⟨rfl, hs_20.gr⟩
abbrev qStV_2 (f0 : List Int) (f1 : List Int) (f2 : List Int) (f3 : List Int) (f4 : List Int) (f5 : List Int) (f6 : List Int) (f7 : List Int) (f8 : List Int) (f9 : List Int) : List Value := [.string (strOf f0), .string (strOf f1), .string (strOf f2), .string (strOf f3), .string (strOf f4), .string (strOf f5), .string (strOf f6), .string (strOf f7), .string (strOf f8), .string (strOf f9)]
abbrev qStV_5 (f0 : List Int) (f1 : List Int) (f2 : List Int) (f3 : List Int) (f4 : List Int) (f5 : List Int) (f6 : List Int) (f7 : List Int) (f8 : List Int) : Array Value := #[iv (numM f0), iv (numM f1), iv (numM f2), iv (fewV f3 31), iv (fewV f4 1), iv (fewV f5 15), iv (numM f6), iv (numM f7), iv (fewV f8 15)]
abbrev qStV_9  : Array Value := #[iv 0, iv 0, iv 0, iv 0, iv 0, iv 0, iv 0, iv 0, iv 0]
set_option maxRecDepth 100000 in
set_option maxHeartbeats 8000000 in
theorem dsc_bad (c : Cor) (l : List Int) (f0 f1 f2 f3 f4 f5 f6 f7 f8 f9 : List Int) (w : World) (hok : c.Ok) (hl : ∀ c ∈ l, 0 ≤ c ∧ c < 256) (hn : l.length ≤ 300) (hx : splitSemi l = [f0, f1, f2, f3, f4, f5, f6, f7, f8, f9]) (hf0 : ∀ c ∈ f0, 0 ≤ c ∧ c < 256) (hf1 : ∀ c ∈ f1, 0 ≤ c ∧ c < 256) (hf2 : ∀ c ∈ f2, 0 ≤ c ∧ c < 256) (hf3 : ∀ c ∈ f3, 0 ≤ c ∧ c < 256) (hf4 : ∀ c ∈ f4, 0 ≤ c ∧ c < 256) (hf5 : ∀ c ∈ f5, 0 ≤ c ∧ c < 256) (hf6 : ∀ c ∈ f6, 0 ≤ c ∧ c < 256) (hf7 : ∀ c ∈ f7, 0 ≤ c ∧ c < 256) (hf8 : ∀ c ∈ f8, 0 ≤ c ∧ c < 256) (hf9 : ∀ c ∈ f9, 0 ≤ c ∧ c < 256) (nf0 : f0.length ≤ 300) (nf1 : f1.length ≤ 300) (nf2 : f2.length ≤ 300) (nf3 : f3.length ≤ 300) (nf4 : f4.length ≤ 300) (nf5 : f5.length ≤ 300) (nf6 : f6.length ≤ 300) (nf7 : f7.length ≤ 300) (nf8 : f8.length ≤ 300) (nf9 : f9.length ≤ 300) (hbad : curK f0 f1 f2 f3 f4 f5 f6 f7 f8 f9 = false) :
  Calls Tryz.prog 11 #[.agg (cdA c), .string (strOf l)] w fun e w' => e = .returned (.tuple #[.agg (cdA c.clean), .bool false]) ∧ Gr w w' := by
 refine calls_sx (n := 129) (args := [.agg (cdA c), .string (strOf l)]) Tryz.func11 rfl rfl rfl ?_
 have hs0 := SH.none w
 refine CW.seq ?_
 refine CW.region ?_
 refine SL.newH (mk := fun g => pv g 0) (C := (cdA c)) (T := 33) hs0 rfl rfl (by kernel_rfl) (fun g_1 w_2 hs_3 => ?_)
 have hs_3 : SH [] w w_2 [pt g_1 (cdA c) 33] := hs_3
 refine SL.newH (mk := fun g => pv g 0) (C := czD) (T := 33) hs_3 rfl rfl (by kernel_rfl) (fun g_4 w_5 hs_6 => ?_)
 have hs_6 : SH [] w w_5 [pt g_1 (cdA c) 33, pt g_4 czD 33] := hs_6
 refine SL.v (.bool false) ?_
 refine SL.nil ?_
 refine CW.seq ?_
 refine CW.region ?_
 refine SL.load (g := g_1) (off := 0) (v := .agg (cdA c)) rfl rfl rfl (by kernel_rfl) (hs_6.pt_at (i := 0) rfl) (by kernel_rfl) ?_
 refine SL.call (f := 13) (args := #[.agg (cdA c)]) (w1 := w_5) rfl rfl (by kernel_rfl) (rclean_any c w_5 hok) ?_
 rintro x w_7 ⟨rfl, hc_8⟩
 refine ⟨_, rfl, ?_⟩
 have hs_9 := hs_6.grow hc_8
 refine SL.storeH (i := 0) (g := g_1) (off := 0) (v := .agg (cdA c.clean)) (L' := [pt g_1 (cdA c.clean) 33, pt g_4 czD 33]) hs_9 rfl rfl rfl (by kernel_rfl) (by kernel_rfl) rfl (by kernel_rfl) (by kernel_rfl) rfl (by kernel_rfl) rfl (fun w_10 hs_11 => ?_)
 refine SL.nil ?_
 refine CW.seq ?_
 refine CW.region ?_
 refine SL.v (.string (strOf l)) ?_
 refine SL.callH (f := 34) (args := #[.string (strOf l)]) (Pre := []) (Rest := [pt g_1 (cdA c.clean) 33, pt g_4 czD 33]) [] hs_11 rfl rfl (by kernel_rfl) rfl (fields_10 l f0 f1 f2 f3 f4 f5 f6 f7 f8 f9 w_10 hl (by omega) hx) ?_
 rintro v_ Q_ w_15 ⟨g_12, c_13, pad_14, rfl, rfl⟩ hs_17
 have hs_17 : SH [] w w_15 [pt g_12 ⟨(qStV_2 f0 f1 f2 f3 f4 f5 f6 f7 f8 f9) ++ pad_14⟩ 9, pt g_1 (cdA c.clean) 33, pt g_4 czD 33] := hs_17
 refine SL.v (sv g_12 0 10 c_13) ?_
 refine SL.nil ?_
 refine CW.seq ?_
 refine CW.seq ?_
 refine CW.region ?_
 refine SL.v (sv g_12 0 10 c_13) ?_
 refine SL.val (v := iv 10) (w' := w_15) rfl rfl (by kernel_rfl) ?_
 refine SL.v (.bool false) ?_
 refine SL.nil ?_
 refine CW.cond_false (by kernel_rfl) ?_
 refine CW.skip ?_
 refine CW.seq ?_
 have HGR : GrL [fun v _ => v = sv g_12 0 10 c_13, fun v _ => v = pv g_12 0, fun v _ => v = .string (strOf f0), fun v _ => v = iv (numM f0), fun v _ => v = sv g_12 0 10 c_13, fun v _ => v = pv g_12 1, fun v _ => v = .string (strOf f1), fun v _ => v = iv (numM f1), fun v _ => v = sv g_12 0 10 c_13, fun v _ => v = pv g_12 2, fun v _ => v = .string (strOf f2), fun v _ => v = iv (numM f2), fun v _ => v = sv g_12 0 10 c_13, fun v _ => v = pv g_12 3, fun v _ => v = .string (strOf f3), fun v _ => v = iv (fewV f3 31), fun v _ => v = sv g_12 0 10 c_13, fun v _ => v = pv g_12 4, fun v _ => v = .string (strOf f4), fun v _ => v = iv (fewV f4 1), fun v _ => v = sv g_12 0 10 c_13, fun v _ => v = pv g_12 5, fun v _ => v = .string (strOf f5), fun v _ => v = iv (fewV f5 15), fun v _ => v = sv g_12 0 10 c_13, fun v _ => v = pv g_12 6, fun v _ => v = .string (strOf f6), fun v _ => v = iv (numM f6), fun v _ => v = sv g_12 0 10 c_13, fun v _ => v = pv g_12 7, fun v _ => v = .string (strOf f7), fun v _ => v = iv (numM f7), fun v _ => v = sv g_12 0 10 c_13, fun v _ => v = pv g_12 8, fun v _ => v = .string (strOf f8), fun v _ => v = iv (fewV f8 15), fun v _ => v = .agg (qStV_5 f0 f1 f2 f3 f4 f5 f6 f7 f8), NewB w_15 (fun g => pv g 0) (.cells (qStV_9) 90 (0, 0))] := ⟨fun _ _ _ _ h => h, ⟨fun _ _ _ _ h => h, ⟨fun _ _ _ _ h => h, ⟨fun _ _ _ _ h => h, ⟨fun _ _ _ _ h => h, ⟨fun _ _ _ _ h => h, ⟨fun _ _ _ _ h => h, ⟨fun _ _ _ _ h => h, ⟨fun _ _ _ _ h => h, ⟨fun _ _ _ _ h => h, ⟨fun _ _ _ _ h => h, ⟨fun _ _ _ _ h => h, ⟨fun _ _ _ _ h => h, ⟨fun _ _ _ _ h => h, ⟨fun _ _ _ _ h => h, ⟨fun _ _ _ _ h => h, ⟨fun _ _ _ _ h => h, ⟨fun _ _ _ _ h => h, ⟨fun _ _ _ _ h => h, ⟨fun _ _ _ _ h => h, ⟨fun _ _ _ _ h => h, ⟨fun _ _ _ _ h => h, ⟨fun _ _ _ _ h => h, ⟨fun _ _ _ _ h => h, ⟨fun _ _ _ _ h => h, ⟨fun _ _ _ _ h => h, ⟨fun _ _ _ _ h => h, ⟨fun _ _ _ _ h => h, ⟨fun _ _ _ _ h => h, ⟨fun _ _ _ _ h => h, ⟨fun _ _ _ _ h => h, ⟨fun _ _ _ _ h => h, ⟨fun _ _ _ _ h => h, ⟨fun _ _ _ _ h => h, ⟨fun _ _ _ _ h => h, ⟨fun _ _ _ _ h => h, ⟨fun _ _ _ _ h => h, ⟨fun _ _ _ hg h => NewB.gr hg h, trivial⟩⟩⟩⟩⟩⟩⟩⟩⟩⟩⟩⟩⟩⟩⟩⟩⟩⟩⟩⟩⟩⟩⟩⟩⟩⟩⟩⟩⟩⟩⟩⟩⟩⟩⟩⟩⟩⟩
 refine CW.draw 38 (FW [fun v _ => v = sv g_12 0 10 c_13, fun v _ => v = pv g_12 0, fun v _ => v = .string (strOf f0), fun v _ => v = iv (numM f0), fun v _ => v = sv g_12 0 10 c_13, fun v _ => v = pv g_12 1, fun v _ => v = .string (strOf f1), fun v _ => v = iv (numM f1), fun v _ => v = sv g_12 0 10 c_13, fun v _ => v = pv g_12 2, fun v _ => v = .string (strOf f2), fun v _ => v = iv (numM f2), fun v _ => v = sv g_12 0 10 c_13, fun v _ => v = pv g_12 3, fun v _ => v = .string (strOf f3), fun v _ => v = iv (fewV f3 31), fun v _ => v = sv g_12 0 10 c_13, fun v _ => v = pv g_12 4, fun v _ => v = .string (strOf f4), fun v _ => v = iv (fewV f4 1), fun v _ => v = sv g_12 0 10 c_13, fun v _ => v = pv g_12 5, fun v _ => v = .string (strOf f5), fun v _ => v = iv (fewV f5 15), fun v _ => v = sv g_12 0 10 c_13, fun v _ => v = pv g_12 6, fun v _ => v = .string (strOf f6), fun v _ => v = iv (numM f6), fun v _ => v = sv g_12 0 10 c_13, fun v _ => v = pv g_12 7, fun v _ => v = .string (strOf f7), fun v _ => v = iv (numM f7), fun v _ => v = sv g_12 0 10 c_13, fun v _ => v = pv g_12 8, fun v _ => v = .string (strOf f8), fun v _ => v = iv (fewV f8 15), fun v _ => v = .agg (qStV_5 f0 f1 f2 f3 f4 f5 f6 f7 f8), NewB w_15 (fun g => pv g 0) (.cells (qStV_9) 90 (0, 0))]) (fun W => Gr w_15 W) (by kernel_rfl) (by kernel_rfl) (by kernel_rfl) (by kernel_rfl) (by kernel_rfl) (Gr.refl _).drew ?_ ?_
 ·refine ⟨?_, ⟨?_, ⟨?_, ⟨?_, ⟨?_, ⟨?_, ⟨?_, ⟨?_, ⟨?_, ⟨?_, ⟨?_, ⟨?_, ⟨?_, ⟨?_, ⟨?_, ⟨?_, ⟨?_, ⟨?_, ⟨?_, ⟨?_, ⟨?_, ⟨?_, ⟨?_, ⟨?_, ⟨?_, ⟨?_, ⟨?_, ⟨?_, ⟨?_, ⟨?_, ⟨?_, ⟨?_, ⟨?_, ⟨?_, ⟨?_, ⟨?_, ⟨?_, ⟨?_, trivial⟩⟩⟩⟩⟩⟩⟩⟩⟩⟩⟩⟩⟩⟩⟩⟩⟩⟩⟩⟩⟩⟩⟩⟩⟩⟩⟩⟩⟩⟩⟩⟩⟩⟩⟩⟩⟩⟩
  ·intro L ys W hB hF hP K hK
   show OpE _ _ _ W K
   exact OpE.val (sv g_12 0 10 c_13) W (by kernel_rfl) (hK _ W hB rfl (fun _ _ h => h))
  ·intro L ys W hB hF hP K hK
   show OpE _ _ _ W K
   exact OpE.known (j := 0) (v := sv g_12 0 10 c_13) (hF 0 (hP.1 rfl)) (OpE.val (pv g_12 0) W (by kernel_rfl) (hK _ W hB rfl (fun _ _ h => h)))
  ·intro L ys W hB hF hP K hK
   show OpE _ _ _ W K
   exact OpE.known (j := 1) (v := pv g_12 0) (hF 1 (hP.1 rfl)) (OpE.load (g := g_12) (off := 0) (v := .string (strOf f0)) rfl (by kernel_rfl) ((hs_17.grow hB).pt_at (i := 0) rfl) (by kernel_rfl) (hK _ W hB rfl (fun _ _ h => h)))
  ·intro L ys W hB hF hP K hK
   show OpE _ _ _ W K
   exact OpE.known (j := 2) (v := .string (strOf f0)) (hF 2 (hP.1 rfl)) (OpE.call 35 #[.string (strOf f0)] W _ (by kernel_rfl) (dnum_any f0 W hf0 nf0) (fun x w' hx => by obtain ⟨rfl, hg⟩ := hx; exact ⟨_, rfl, hK _ w' (hB.trans hg) rfl (fun _ _ h => FW.gr HGR hg h)⟩))
  ·intro L ys W hB hF hP K hK
   show OpE _ _ _ W K
   exact OpE.val (sv g_12 0 10 c_13) W (by kernel_rfl) (hK _ W hB rfl (fun _ _ h => h))
  ·intro L ys W hB hF hP K hK
   show OpE _ _ _ W K
   exact OpE.known (j := 4) (v := sv g_12 0 10 c_13) (hF 4 (hP.1 rfl)) (OpE.val (pv g_12 1) W (by kernel_rfl) (hK _ W hB rfl (fun _ _ h => h)))
  ·intro L ys W hB hF hP K hK
   show OpE _ _ _ W K
   exact OpE.known (j := 5) (v := pv g_12 1) (hF 5 (hP.1 rfl)) (OpE.load (g := g_12) (off := 1) (v := .string (strOf f1)) rfl (by kernel_rfl) ((hs_17.grow hB).pt_at (i := 0) rfl) (by kernel_rfl) (hK _ W hB rfl (fun _ _ h => h)))
  ·intro L ys W hB hF hP K hK
   show OpE _ _ _ W K
   exact OpE.known (j := 6) (v := .string (strOf f1)) (hF 6 (hP.1 rfl)) (OpE.call 35 #[.string (strOf f1)] W _ (by kernel_rfl) (dnum_any f1 W hf1 nf1) (fun x w' hx => by obtain ⟨rfl, hg⟩ := hx; exact ⟨_, rfl, hK _ w' (hB.trans hg) rfl (fun _ _ h => FW.gr HGR hg h)⟩))
  ·intro L ys W hB hF hP K hK
   show OpE _ _ _ W K
   exact OpE.val (sv g_12 0 10 c_13) W (by kernel_rfl) (hK _ W hB rfl (fun _ _ h => h))
  ·intro L ys W hB hF hP K hK
   show OpE _ _ _ W K
   exact OpE.known (j := 8) (v := sv g_12 0 10 c_13) (hF 8 (hP.1 rfl)) (OpE.val (pv g_12 2) W (by kernel_rfl) (hK _ W hB rfl (fun _ _ h => h)))
  ·intro L ys W hB hF hP K hK
   show OpE _ _ _ W K
   exact OpE.known (j := 9) (v := pv g_12 2) (hF 9 (hP.1 rfl)) (OpE.load (g := g_12) (off := 2) (v := .string (strOf f2)) rfl (by kernel_rfl) ((hs_17.grow hB).pt_at (i := 0) rfl) (by kernel_rfl) (hK _ W hB rfl (fun _ _ h => h)))
  ·intro L ys W hB hF hP K hK
   show OpE _ _ _ W K
   exact OpE.known (j := 10) (v := .string (strOf f2)) (hF 10 (hP.1 rfl)) (OpE.call 35 #[.string (strOf f2)] W _ (by kernel_rfl) (dnum_any f2 W hf2 nf2) (fun x w' hx => by obtain ⟨rfl, hg⟩ := hx; exact ⟨_, rfl, hK _ w' (hB.trans hg) rfl (fun _ _ h => FW.gr HGR hg h)⟩))
  ·intro L ys W hB hF hP K hK
   show OpE _ _ _ W K
   exact OpE.val (sv g_12 0 10 c_13) W (by kernel_rfl) (hK _ W hB rfl (fun _ _ h => h))
  ·intro L ys W hB hF hP K hK
   show OpE _ _ _ W K
   exact OpE.known (j := 12) (v := sv g_12 0 10 c_13) (hF 12 (hP.1 rfl)) (OpE.val (pv g_12 3) W (by kernel_rfl) (hK _ W hB rfl (fun _ _ h => h)))
  ·intro L ys W hB hF hP K hK
   show OpE _ _ _ W K
   exact OpE.known (j := 13) (v := pv g_12 3) (hF 13 (hP.1 rfl)) (OpE.load (g := g_12) (off := 3) (v := .string (strOf f3)) rfl (by kernel_rfl) ((hs_17.grow hB).pt_at (i := 0) rfl) (by kernel_rfl) (hK _ W hB rfl (fun _ _ h => h)))
  ·intro L ys W hB hF hP K hK
   show OpE _ _ _ W K
   exact OpE.known (j := 14) (v := .string (strOf f3)) (hF 14 (hP.1 rfl)) (OpE.call 36 #[.string (strOf f3), iv 31] W _ (by kernel_rfl) (few_any f3 31 W hf3 (by decide) (by omega)) (fun x w' hx => by obtain ⟨rfl, hg⟩ := hx; exact ⟨_, rfl, hK _ w' (hB.trans hg) rfl (fun _ _ h => FW.gr HGR hg h)⟩))
  ·intro L ys W hB hF hP K hK
   show OpE _ _ _ W K
   exact OpE.val (sv g_12 0 10 c_13) W (by kernel_rfl) (hK _ W hB rfl (fun _ _ h => h))
  ·intro L ys W hB hF hP K hK
   show OpE _ _ _ W K
   exact OpE.known (j := 16) (v := sv g_12 0 10 c_13) (hF 16 (hP.1 rfl)) (OpE.val (pv g_12 4) W (by kernel_rfl) (hK _ W hB rfl (fun _ _ h => h)))
  ·intro L ys W hB hF hP K hK
   show OpE _ _ _ W K
   exact OpE.known (j := 17) (v := pv g_12 4) (hF 17 (hP.1 rfl)) (OpE.load (g := g_12) (off := 4) (v := .string (strOf f4)) rfl (by kernel_rfl) ((hs_17.grow hB).pt_at (i := 0) rfl) (by kernel_rfl) (hK _ W hB rfl (fun _ _ h => h)))
  ·intro L ys W hB hF hP K hK
   show OpE _ _ _ W K
   exact OpE.known (j := 18) (v := .string (strOf f4)) (hF 18 (hP.1 rfl)) (OpE.call 36 #[.string (strOf f4), iv 1] W _ (by kernel_rfl) (few_any f4 1 W hf4 (by decide) (by omega)) (fun x w' hx => by obtain ⟨rfl, hg⟩ := hx; exact ⟨_, rfl, hK _ w' (hB.trans hg) rfl (fun _ _ h => FW.gr HGR hg h)⟩))
  ·intro L ys W hB hF hP K hK
   show OpE _ _ _ W K
   exact OpE.val (sv g_12 0 10 c_13) W (by kernel_rfl) (hK _ W hB rfl (fun _ _ h => h))
  ·intro L ys W hB hF hP K hK
   show OpE _ _ _ W K
   exact OpE.known (j := 20) (v := sv g_12 0 10 c_13) (hF 20 (hP.1 rfl)) (OpE.val (pv g_12 5) W (by kernel_rfl) (hK _ W hB rfl (fun _ _ h => h)))
  ·intro L ys W hB hF hP K hK
   show OpE _ _ _ W K
   exact OpE.known (j := 21) (v := pv g_12 5) (hF 21 (hP.1 rfl)) (OpE.load (g := g_12) (off := 5) (v := .string (strOf f5)) rfl (by kernel_rfl) ((hs_17.grow hB).pt_at (i := 0) rfl) (by kernel_rfl) (hK _ W hB rfl (fun _ _ h => h)))
  ·intro L ys W hB hF hP K hK
   show OpE _ _ _ W K
   exact OpE.known (j := 22) (v := .string (strOf f5)) (hF 22 (hP.1 rfl)) (OpE.call 36 #[.string (strOf f5), iv 15] W _ (by kernel_rfl) (few_any f5 15 W hf5 (by decide) (by omega)) (fun x w' hx => by obtain ⟨rfl, hg⟩ := hx; exact ⟨_, rfl, hK _ w' (hB.trans hg) rfl (fun _ _ h => FW.gr HGR hg h)⟩))
  ·intro L ys W hB hF hP K hK
   show OpE _ _ _ W K
   exact OpE.val (sv g_12 0 10 c_13) W (by kernel_rfl) (hK _ W hB rfl (fun _ _ h => h))
  ·intro L ys W hB hF hP K hK
   show OpE _ _ _ W K
   exact OpE.known (j := 24) (v := sv g_12 0 10 c_13) (hF 24 (hP.1 rfl)) (OpE.val (pv g_12 6) W (by kernel_rfl) (hK _ W hB rfl (fun _ _ h => h)))
  ·intro L ys W hB hF hP K hK
   show OpE _ _ _ W K
   exact OpE.known (j := 25) (v := pv g_12 6) (hF 25 (hP.1 rfl)) (OpE.load (g := g_12) (off := 6) (v := .string (strOf f6)) rfl (by kernel_rfl) ((hs_17.grow hB).pt_at (i := 0) rfl) (by kernel_rfl) (hK _ W hB rfl (fun _ _ h => h)))
  ·intro L ys W hB hF hP K hK
   show OpE _ _ _ W K
   exact OpE.known (j := 26) (v := .string (strOf f6)) (hF 26 (hP.1 rfl)) (OpE.call 35 #[.string (strOf f6)] W _ (by kernel_rfl) (dnum_any f6 W hf6 nf6) (fun x w' hx => by obtain ⟨rfl, hg⟩ := hx; exact ⟨_, rfl, hK _ w' (hB.trans hg) rfl (fun _ _ h => FW.gr HGR hg h)⟩))
  ·intro L ys W hB hF hP K hK
   show OpE _ _ _ W K
   exact OpE.val (sv g_12 0 10 c_13) W (by kernel_rfl) (hK _ W hB rfl (fun _ _ h => h))
  ·intro L ys W hB hF hP K hK
   show OpE _ _ _ W K
   exact OpE.known (j := 28) (v := sv g_12 0 10 c_13) (hF 28 (hP.1 rfl)) (OpE.val (pv g_12 7) W (by kernel_rfl) (hK _ W hB rfl (fun _ _ h => h)))
  ·intro L ys W hB hF hP K hK
   show OpE _ _ _ W K
   exact OpE.known (j := 29) (v := pv g_12 7) (hF 29 (hP.1 rfl)) (OpE.load (g := g_12) (off := 7) (v := .string (strOf f7)) rfl (by kernel_rfl) ((hs_17.grow hB).pt_at (i := 0) rfl) (by kernel_rfl) (hK _ W hB rfl (fun _ _ h => h)))
  ·intro L ys W hB hF hP K hK
   show OpE _ _ _ W K
   exact OpE.known (j := 30) (v := .string (strOf f7)) (hF 30 (hP.1 rfl)) (OpE.call 35 #[.string (strOf f7)] W _ (by kernel_rfl) (dnum_any f7 W hf7 nf7) (fun x w' hx => by obtain ⟨rfl, hg⟩ := hx; exact ⟨_, rfl, hK _ w' (hB.trans hg) rfl (fun _ _ h => FW.gr HGR hg h)⟩))
  ·intro L ys W hB hF hP K hK
   show OpE _ _ _ W K
   exact OpE.val (sv g_12 0 10 c_13) W (by kernel_rfl) (hK _ W hB rfl (fun _ _ h => h))
  ·intro L ys W hB hF hP K hK
   show OpE _ _ _ W K
   exact OpE.known (j := 32) (v := sv g_12 0 10 c_13) (hF 32 (hP.1 rfl)) (OpE.val (pv g_12 8) W (by kernel_rfl) (hK _ W hB rfl (fun _ _ h => h)))
  ·intro L ys W hB hF hP K hK
   show OpE _ _ _ W K
   exact OpE.known (j := 33) (v := pv g_12 8) (hF 33 (hP.1 rfl)) (OpE.load (g := g_12) (off := 8) (v := .string (strOf f8)) rfl (by kernel_rfl) ((hs_17.grow hB).pt_at (i := 0) rfl) (by kernel_rfl) (hK _ W hB rfl (fun _ _ h => h)))
  ·intro L ys W hB hF hP K hK
   show OpE _ _ _ W K
   exact OpE.known (j := 34) (v := .string (strOf f8)) (hF 34 (hP.1 rfl)) (OpE.call 36 #[.string (strOf f8), iv 15] W _ (by kernel_rfl) (few_any f8 15 W hf8 (by decide) (by omega)) (fun x w' hx => by obtain ⟨rfl, hg⟩ := hx; exact ⟨_, rfl, hK _ w' (hB.trans hg) rfl (fun _ _ h => FW.gr HGR hg h)⟩))
  ·intro L ys W hB hF hP K hK
   show OpE _ _ _ W K
   exact OpE.known (j := 3) (v := iv (numM f0)) (hF 3 (hP.1 rfl)) (OpE.known (j := 7) (v := iv (numM f1)) (hF 7 (hP.2.1 rfl)) (OpE.known (j := 11) (v := iv (numM f2)) (hF 11 (hP.2.2.1 rfl)) (OpE.known (j := 15) (v := iv (fewV f3 31)) (hF 15 (hP.2.2.2.1 rfl)) (OpE.known (j := 19) (v := iv (fewV f4 1)) (hF 19 (hP.2.2.2.2.1 rfl)) (OpE.known (j := 23) (v := iv (fewV f5 15)) (hF 23 (hP.2.2.2.2.2.1 rfl)) (OpE.known (j := 27) (v := iv (numM f6)) (hF 27 (hP.2.2.2.2.2.2.1 rfl)) (OpE.known (j := 31) (v := iv (numM f7)) (hF 31 (hP.2.2.2.2.2.2.2.1 rfl)) (OpE.known (j := 35) (v := iv (fewV f8 15)) (hF 35 (hP.2.2.2.2.2.2.2.2.1 rfl)) (OpE.val (.agg (qStV_5 f0 f1 f2 f3 f4 f5 f6 f7 f8)) W (by kernel_rfl) (hK _ W hB rfl (fun _ _ h => h)))))))))))
  ·intro L ys W hB hF hP K hK
   show OpE _ _ _ W K
   exact OpE.new (mk := fun g => pv g 0) (C := (qStV_9)) (T := 90) (by kernel_rfl) (hK _ _ (hB.alloc _) ⟨W.heap.size, rfl, heap_alloc_new _ _, hB.size⟩ (fun _ _ h => FW.gr HGR ((Gr.refl W).alloc _) h))
 ·intro ys_21 w_18 hs_19 hF_20
  have hg_22 := hs_19
  have hs_19 : SH [] w w_18 [pt g_12 ⟨(qStV_2 f0 f1 f2 f3 f4 f5 f6 f7 f8 f9) ++ pad_14⟩ 9, pt g_1 (cdA c.clean) 33, pt g_4 czD 33] := hs_17.grow hg_22
  obtain ⟨g_23, hvq37, hbq37, hgq37⟩ := hF_20 37 (by decide)
  have hs_24 := hs_17.fresh hg_22 hbq37 hgq37
  have hs_24 : SH [] w w_18 [pt g_12 ⟨(qStV_2 f0 f1 f2 f3 f4 f5 f6 f7 f8 f9) ++ pad_14⟩ 9, pt g_1 (cdA c.clean) 33, pt g_4 czD 33, pt g_23 (qStV_9) 90] := hs_24
  refine SL.knownY (j := 36) (v := .agg (qStV_5 f0 f1 f2 f3 f4 f5 f6 f7 f8)) (show ys_21 36 = .agg (qStV_5 f0 f1 f2 f3 f4 f5 f6 f7 f8) from hF_20 36 (by decide)) (SL.knownY (j := 37) (v := pv g_23 0) hvq37 (?_))
  clear hF_20 HGR
  refine SL.storeH (i := 3) (g := g_23) (off := 0) (v := .agg (qStV_5 f0 f1 f2 f3 f4 f5 f6 f7 f8)) (L' := [pt g_12 ⟨(qStV_2 f0 f1 f2 f3 f4 f5 f6 f7 f8 f9) ++ pad_14⟩ 9, pt g_1 (cdA c.clean) 33, pt g_4 czD 33, pt g_23 (qStV_5 f0 f1 f2 f3 f4 f5 f6 f7 f8) 90]) hs_24 rfl rfl rfl (by kernel_rfl) (by kernel_rfl) rfl (by kernel_rfl) (by kernel_rfl) rfl (by kernel_rfl) rfl (fun w_25 hs_26 => ?_)
  refine SL.nil ?_
  refine CW.seq ?_
  refine CW.seq ?_
  refine CW.region ?_
  refine SL.v (iv 0) ?_
  refine SL.nil ?_
  refine CW.block ?_
  refine CW.loopN 9 ?_
  refine CR.more ?_
  refine CW.seq ?_
  refine CW.seq ?_
  refine CW.region ?_
  refine SL.v (iv 0) ?_
  refine SL.v (.bool true) ?_
  refine SL.nil ?_
  refine CW.cond_true (by kernel_rfl) ?_
  refine CW.skip ?_
  refine CW.seq ?_
  refine CW.block ?_
  refine CW.seq ?_
  refine CW.region ?_
  refine SL.v (iv 0) ?_
  refine SL.v (pv g_23 0) ?_
  refine SL.load (g := g_23) (off := 0) (v := iv (numM f0)) rfl rfl rfl (by kernel_rfl) (hs_26.pt_at (i := 3) rfl) (by kernel_rfl) ?_
  refine SL.val (v := .bool (!(numK f0))) (w' := w_25) rfl rfl (run_eqv (by kernel_rfl) (congrArg Value.bool (show (decide ((numM f0) < 0)) = (!(numK f0)) from numM_neg f0))) ?_
  refine SL.nil ?_
  rcases Bool.eq_false_or_eq_true (numK f0) with hb_27 | hb_27
  ·try rw [hb_27]
   refine CW.cond_false (by kernel_rfl) ?_
   refine CW.skip ?_
   refine CW.region ?_
   refine SL.v (iv 0) ?_
   refine SL.v (iv 1) ?_
   refine SL.v (iv 1) ?_
   refine SL.nil ?_
   refine CR.fresh (fun e9 => e9 2 = pv g_1 0 ∧ e9 4 = pv g_4 0 ∧ e9 5 = .bool false ∧ e9 6 = sv g_12 0 10 c_13 ∧ e9 7 = pv g_23 0 ∧ e9 8 = iv 1) ⟨(by kernel_rfl), (by kernel_rfl), (by kernel_rfl), (by kernel_rfl), (by kernel_rfl), (by kernel_rfl)⟩ ?_
   rintro e_28 ⟨hv_30, hv_31, hv_32, hv_33, hv_34, hv_35⟩
   obtain ⟨e_29, rfl⟩ : ∃ e_29, e_28 = put1 (put1 (put1 (put1 (put1 (put1 e_29 2 (pv g_1 0)) 4 (pv g_4 0)) 5 (.bool false)) 6 (sv g_12 0 10 c_13)) 7 (pv g_23 0)) 8 (iv 1) := ⟨e_28, (put_self hv_35).trans (congrArg (fun z => put1 z 8 (iv 1)) ((put_self hv_34).trans (congrArg (fun z => put1 z 7 (pv g_23 0)) ((put_self hv_33).trans (congrArg (fun z => put1 z 6 (sv g_12 0 10 c_13)) ((put_self hv_32).trans (congrArg (fun z => put1 z 5 (.bool false)) ((put_self hv_31).trans (congrArg (fun z => put1 z 4 (pv g_4 0)) (put_self hv_30))))))))))⟩
   clear hv_30 hv_31 hv_32 hv_33 hv_34 hv_35
   refine CR.more ?_
   refine CW.seq ?_
   refine CW.seq ?_
   refine CW.region ?_
   refine SL.v (iv 1) ?_
   refine SL.v (.bool true) ?_
   refine SL.nil ?_
   refine CW.cond_true (by kernel_rfl) ?_
   refine CW.skip ?_
   refine CW.seq ?_
   refine CW.block ?_
   refine CW.seq ?_
   refine CW.region ?_
   refine SL.v (iv 1) ?_
   refine SL.v (pv g_23 1) ?_
   refine SL.load (g := g_23) (off := 1) (v := iv (numM f1)) rfl rfl rfl (by kernel_rfl) (hs_26.pt_at (i := 3) rfl) (by kernel_rfl) ?_
   refine SL.val (v := .bool (!(numK f1))) (w' := w_25) rfl rfl (run_eqv (by kernel_rfl) (congrArg Value.bool (show (decide ((numM f1) < 0)) = (!(numK f1)) from numM_neg f1))) ?_
   refine SL.nil ?_
   rcases Bool.eq_false_or_eq_true (numK f1) with hb_36 | hb_36
   ·try rw [hb_36]
    refine CW.cond_false (by kernel_rfl) ?_
    refine CW.skip ?_
    refine CW.region ?_
    refine SL.v (iv 1) ?_
    refine SL.v (iv 2) ?_
    refine SL.v (iv 2) ?_
    refine SL.nil ?_
    refine CR.fresh (fun e9 => e9 2 = pv g_1 0 ∧ e9 4 = pv g_4 0 ∧ e9 5 = .bool false ∧ e9 6 = sv g_12 0 10 c_13 ∧ e9 7 = pv g_23 0 ∧ e9 8 = iv 2) ⟨(by kernel_rfl), (by kernel_rfl), (by kernel_rfl), (by kernel_rfl), (by kernel_rfl), (by kernel_rfl)⟩ ?_
    rintro e_37 ⟨hv_39, hv_40, hv_41, hv_42, hv_43, hv_44⟩
    obtain ⟨e_38, rfl⟩ : ∃ e_38, e_37 = put1 (put1 (put1 (put1 (put1 (put1 e_38 2 (pv g_1 0)) 4 (pv g_4 0)) 5 (.bool false)) 6 (sv g_12 0 10 c_13)) 7 (pv g_23 0)) 8 (iv 2) := ⟨e_37, (put_self hv_44).trans (congrArg (fun z => put1 z 8 (iv 2)) ((put_self hv_43).trans (congrArg (fun z => put1 z 7 (pv g_23 0)) ((put_self hv_42).trans (congrArg (fun z => put1 z 6 (sv g_12 0 10 c_13)) ((put_self hv_41).trans (congrArg (fun z => put1 z 5 (.bool false)) ((put_self hv_40).trans (congrArg (fun z => put1 z 4 (pv g_4 0)) (put_self hv_39))))))))))⟩
    clear hv_39 hv_40 hv_41 hv_42 hv_43 hv_44
    refine CR.more ?_
    refine CW.seq ?_
    refine CW.seq ?_
    refine CW.region ?_
    refine SL.v (iv 2) ?_
    refine SL.v (.bool true) ?_
    refine SL.nil ?_
    refine CW.cond_true (by kernel_rfl) ?_
    refine CW.skip ?_
    refine CW.seq ?_
    refine CW.block ?_
    refine CW.seq ?_
    refine CW.region ?_
    refine SL.v (iv 2) ?_
    refine SL.v (pv g_23 2) ?_
    refine SL.load (g := g_23) (off := 2) (v := iv (numM f2)) rfl rfl rfl (by kernel_rfl) (hs_26.pt_at (i := 3) rfl) (by kernel_rfl) ?_
    refine SL.val (v := .bool (!(numK f2))) (w' := w_25) rfl rfl (run_eqv (by kernel_rfl) (congrArg Value.bool (show (decide ((numM f2) < 0)) = (!(numK f2)) from numM_neg f2))) ?_
    refine SL.nil ?_
    rcases Bool.eq_false_or_eq_true (numK f2) with hb_45 | hb_45
    ·try rw [hb_45]
     refine CW.cond_false (by kernel_rfl) ?_
     refine CW.skip ?_
     refine CW.region ?_
     refine SL.v (iv 2) ?_
     refine SL.v (iv 3) ?_
     refine SL.v (iv 3) ?_
     refine SL.nil ?_
     refine CR.fresh (fun e9 => e9 2 = pv g_1 0 ∧ e9 4 = pv g_4 0 ∧ e9 5 = .bool false ∧ e9 6 = sv g_12 0 10 c_13 ∧ e9 7 = pv g_23 0 ∧ e9 8 = iv 3) ⟨(by kernel_rfl), (by kernel_rfl), (by kernel_rfl), (by kernel_rfl), (by kernel_rfl), (by kernel_rfl)⟩ ?_
     rintro e_46 ⟨hv_48, hv_49, hv_50, hv_51, hv_52, hv_53⟩
     obtain ⟨e_47, rfl⟩ : ∃ e_47, e_46 = put1 (put1 (put1 (put1 (put1 (put1 e_47 2 (pv g_1 0)) 4 (pv g_4 0)) 5 (.bool false)) 6 (sv g_12 0 10 c_13)) 7 (pv g_23 0)) 8 (iv 3) := ⟨e_46, (put_self hv_53).trans (congrArg (fun z => put1 z 8 (iv 3)) ((put_self hv_52).trans (congrArg (fun z => put1 z 7 (pv g_23 0)) ((put_self hv_51).trans (congrArg (fun z => put1 z 6 (sv g_12 0 10 c_13)) ((put_self hv_50).trans (congrArg (fun z => put1 z 5 (.bool false)) ((put_self hv_49).trans (congrArg (fun z => put1 z 4 (pv g_4 0)) (put_self hv_48))))))))))⟩
     clear hv_48 hv_49 hv_50 hv_51 hv_52 hv_53
     refine CR.more ?_
     refine CW.seq ?_
     refine CW.seq ?_
     refine CW.region ?_
     refine SL.v (iv 3) ?_
     refine SL.v (.bool true) ?_
     refine SL.nil ?_
     refine CW.cond_true (by kernel_rfl) ?_
     refine CW.skip ?_
     refine CW.seq ?_
     refine CW.block ?_
     refine CW.seq ?_
     refine CW.region ?_
     refine SL.v (iv 3) ?_
     refine SL.v (pv g_23 3) ?_
     refine SL.load (g := g_23) (off := 3) (v := iv (fewV f3 31)) rfl rfl rfl (by kernel_rfl) (hs_26.pt_at (i := 3) rfl) (by kernel_rfl) ?_
     refine SL.val (v := .bool (!(bitK f3 31))) (w' := w_25) rfl rfl (run_eqv (by kernel_rfl) (congrArg Value.bool (show (decide ((fewV f3 31) < 0)) = (!(bitK f3 31)) from fewV_neg f3 (by decide)))) ?_
     refine SL.nil ?_
     rcases Bool.eq_false_or_eq_true (bitK f3 31) with hb_54 | hb_54
     ·try rw [hb_54]
      refine CW.cond_false (by kernel_rfl) ?_
      refine CW.skip ?_
      refine CW.region ?_
      refine SL.v (iv 3) ?_
      refine SL.v (iv 4) ?_
      refine SL.v (iv 4) ?_
      refine SL.nil ?_
      refine CR.fresh (fun e9 => e9 2 = pv g_1 0 ∧ e9 4 = pv g_4 0 ∧ e9 5 = .bool false ∧ e9 6 = sv g_12 0 10 c_13 ∧ e9 7 = pv g_23 0 ∧ e9 8 = iv 4) ⟨(by kernel_rfl), (by kernel_rfl), (by kernel_rfl), (by kernel_rfl), (by kernel_rfl), (by kernel_rfl)⟩ ?_
      rintro e_55 ⟨hv_57, hv_58, hv_59, hv_60, hv_61, hv_62⟩
      obtain ⟨e_56, rfl⟩ : ∃ e_56, e_55 = put1 (put1 (put1 (put1 (put1 (put1 e_56 2 (pv g_1 0)) 4 (pv g_4 0)) 5 (.bool false)) 6 (sv g_12 0 10 c_13)) 7 (pv g_23 0)) 8 (iv 4) := ⟨e_55, (put_self hv_62).trans (congrArg (fun z => put1 z 8 (iv 4)) ((put_self hv_61).trans (congrArg (fun z => put1 z 7 (pv g_23 0)) ((put_self hv_60).trans (congrArg (fun z => put1 z 6 (sv g_12 0 10 c_13)) ((put_self hv_59).trans (congrArg (fun z => put1 z 5 (.bool false)) ((put_self hv_58).trans (congrArg (fun z => put1 z 4 (pv g_4 0)) (put_self hv_57))))))))))⟩
      clear hv_57 hv_58 hv_59 hv_60 hv_61 hv_62
      refine CR.more ?_
      refine CW.seq ?_
      refine CW.seq ?_
      refine CW.region ?_
      refine SL.v (iv 4) ?_
      refine SL.v (.bool true) ?_
      refine SL.nil ?_
      refine CW.cond_true (by kernel_rfl) ?_
      refine CW.skip ?_
      refine CW.seq ?_
      refine CW.block ?_
      refine CW.seq ?_
      refine CW.region ?_
      refine SL.v (iv 4) ?_
      refine SL.v (pv g_23 4) ?_
      refine SL.load (g := g_23) (off := 4) (v := iv (fewV f4 1)) rfl rfl rfl (by kernel_rfl) (hs_26.pt_at (i := 3) rfl) (by kernel_rfl) ?_
      refine SL.val (v := .bool (!(bitK f4 1))) (w' := w_25) rfl rfl (run_eqv (by kernel_rfl) (congrArg Value.bool (show (decide ((fewV f4 1) < 0)) = (!(bitK f4 1)) from fewV_neg f4 (by decide)))) ?_
      refine SL.nil ?_
      rcases Bool.eq_false_or_eq_true (bitK f4 1) with hb_63 | hb_63
      ·try rw [hb_63]
       refine CW.cond_false (by kernel_rfl) ?_
       refine CW.skip ?_
       refine CW.region ?_
       refine SL.v (iv 4) ?_
       refine SL.v (iv 5) ?_
       refine SL.v (iv 5) ?_
       refine SL.nil ?_
       refine CR.fresh (fun e9 => e9 2 = pv g_1 0 ∧ e9 4 = pv g_4 0 ∧ e9 5 = .bool false ∧ e9 6 = sv g_12 0 10 c_13 ∧ e9 7 = pv g_23 0 ∧ e9 8 = iv 5) ⟨(by kernel_rfl), (by kernel_rfl), (by kernel_rfl), (by kernel_rfl), (by kernel_rfl), (by kernel_rfl)⟩ ?_
       rintro e_64 ⟨hv_66, hv_67, hv_68, hv_69, hv_70, hv_71⟩
       obtain ⟨e_65, rfl⟩ : ∃ e_65, e_64 = put1 (put1 (put1 (put1 (put1 (put1 e_65 2 (pv g_1 0)) 4 (pv g_4 0)) 5 (.bool false)) 6 (sv g_12 0 10 c_13)) 7 (pv g_23 0)) 8 (iv 5) := ⟨e_64, (put_self hv_71).trans (congrArg (fun z => put1 z 8 (iv 5)) ((put_self hv_70).trans (congrArg (fun z => put1 z 7 (pv g_23 0)) ((put_self hv_69).trans (congrArg (fun z => put1 z 6 (sv g_12 0 10 c_13)) ((put_self hv_68).trans (congrArg (fun z => put1 z 5 (.bool false)) ((put_self hv_67).trans (congrArg (fun z => put1 z 4 (pv g_4 0)) (put_self hv_66))))))))))⟩
       clear hv_66 hv_67 hv_68 hv_69 hv_70 hv_71
       refine CR.more ?_
       refine CW.seq ?_
       refine CW.seq ?_
       refine CW.region ?_
       refine SL.v (iv 5) ?_
       refine SL.v (.bool true) ?_
       refine SL.nil ?_
       refine CW.cond_true (by kernel_rfl) ?_
       refine CW.skip ?_
       refine CW.seq ?_
       refine CW.block ?_
       refine CW.seq ?_
       refine CW.region ?_
       refine SL.v (iv 5) ?_
       refine SL.v (pv g_23 5) ?_
       refine SL.load (g := g_23) (off := 5) (v := iv (fewV f5 15)) rfl rfl rfl (by kernel_rfl) (hs_26.pt_at (i := 3) rfl) (by kernel_rfl) ?_
       refine SL.val (v := .bool (!(bitK f5 15))) (w' := w_25) rfl rfl (run_eqv (by kernel_rfl) (congrArg Value.bool (show (decide ((fewV f5 15) < 0)) = (!(bitK f5 15)) from fewV_neg f5 (by decide)))) ?_
       refine SL.nil ?_
       rcases Bool.eq_false_or_eq_true (bitK f5 15) with hb_72 | hb_72
       ·try rw [hb_72]
        refine CW.cond_false (by kernel_rfl) ?_
        refine CW.skip ?_
        refine CW.region ?_
        refine SL.v (iv 5) ?_
        refine SL.v (iv 6) ?_
        refine SL.v (iv 6) ?_
        refine SL.nil ?_
        refine CR.fresh (fun e9 => e9 2 = pv g_1 0 ∧ e9 4 = pv g_4 0 ∧ e9 5 = .bool false ∧ e9 6 = sv g_12 0 10 c_13 ∧ e9 7 = pv g_23 0 ∧ e9 8 = iv 6) ⟨(by kernel_rfl), (by kernel_rfl), (by kernel_rfl), (by kernel_rfl), (by kernel_rfl), (by kernel_rfl)⟩ ?_
        rintro e_73 ⟨hv_75, hv_76, hv_77, hv_78, hv_79, hv_80⟩
        obtain ⟨e_74, rfl⟩ : ∃ e_74, e_73 = put1 (put1 (put1 (put1 (put1 (put1 e_74 2 (pv g_1 0)) 4 (pv g_4 0)) 5 (.bool false)) 6 (sv g_12 0 10 c_13)) 7 (pv g_23 0)) 8 (iv 6) := ⟨e_73, (put_self hv_80).trans (congrArg (fun z => put1 z 8 (iv 6)) ((put_self hv_79).trans (congrArg (fun z => put1 z 7 (pv g_23 0)) ((put_self hv_78).trans (congrArg (fun z => put1 z 6 (sv g_12 0 10 c_13)) ((put_self hv_77).trans (congrArg (fun z => put1 z 5 (.bool false)) ((put_self hv_76).trans (congrArg (fun z => put1 z 4 (pv g_4 0)) (put_self hv_75))))))))))⟩
        clear hv_75 hv_76 hv_77 hv_78 hv_79 hv_80
        refine CR.more ?_
        refine CW.seq ?_
        refine CW.seq ?_
        refine CW.region ?_
        refine SL.v (iv 6) ?_
        refine SL.v (.bool true) ?_
        refine SL.nil ?_
        refine CW.cond_true (by kernel_rfl) ?_
        refine CW.skip ?_
        refine CW.seq ?_
        refine CW.block ?_
        refine CW.seq ?_
        refine CW.region ?_
        refine SL.v (iv 6) ?_
        refine SL.v (pv g_23 6) ?_
        refine SL.load (g := g_23) (off := 6) (v := iv (numM f6)) rfl rfl rfl (by kernel_rfl) (hs_26.pt_at (i := 3) rfl) (by kernel_rfl) ?_
        refine SL.val (v := .bool (!(numK f6))) (w' := w_25) rfl rfl (run_eqv (by kernel_rfl) (congrArg Value.bool (show (decide ((numM f6) < 0)) = (!(numK f6)) from numM_neg f6))) ?_
        refine SL.nil ?_
        rcases Bool.eq_false_or_eq_true (numK f6) with hb_81 | hb_81
        ·try rw [hb_81]
         refine CW.cond_false (by kernel_rfl) ?_
         refine CW.skip ?_
         refine CW.region ?_
         refine SL.v (iv 6) ?_
         refine SL.v (iv 7) ?_
         refine SL.v (iv 7) ?_
         refine SL.nil ?_
         refine CR.fresh (fun e9 => e9 2 = pv g_1 0 ∧ e9 4 = pv g_4 0 ∧ e9 5 = .bool false ∧ e9 6 = sv g_12 0 10 c_13 ∧ e9 7 = pv g_23 0 ∧ e9 8 = iv 7) ⟨(by kernel_rfl), (by kernel_rfl), (by kernel_rfl), (by kernel_rfl), (by kernel_rfl), (by kernel_rfl)⟩ ?_
         rintro e_82 ⟨hv_84, hv_85, hv_86, hv_87, hv_88, hv_89⟩
         obtain ⟨e_83, rfl⟩ : ∃ e_83, e_82 = put1 (put1 (put1 (put1 (put1 (put1 e_83 2 (pv g_1 0)) 4 (pv g_4 0)) 5 (.bool false)) 6 (sv g_12 0 10 c_13)) 7 (pv g_23 0)) 8 (iv 7) := ⟨e_82, (put_self hv_89).trans (congrArg (fun z => put1 z 8 (iv 7)) ((put_self hv_88).trans (congrArg (fun z => put1 z 7 (pv g_23 0)) ((put_self hv_87).trans (congrArg (fun z => put1 z 6 (sv g_12 0 10 c_13)) ((put_self hv_86).trans (congrArg (fun z => put1 z 5 (.bool false)) ((put_self hv_85).trans (congrArg (fun z => put1 z 4 (pv g_4 0)) (put_self hv_84))))))))))⟩
         clear hv_84 hv_85 hv_86 hv_87 hv_88 hv_89
         refine CR.more ?_
         refine CW.seq ?_
         refine CW.seq ?_
         refine CW.region ?_
         refine SL.v (iv 7) ?_
         refine SL.v (.bool true) ?_
         refine SL.nil ?_
         refine CW.cond_true (by kernel_rfl) ?_
         refine CW.skip ?_
         refine CW.seq ?_
         refine CW.block ?_
         refine CW.seq ?_
         refine CW.region ?_
         refine SL.v (iv 7) ?_
         refine SL.v (pv g_23 7) ?_
         refine SL.load (g := g_23) (off := 7) (v := iv (numM f7)) rfl rfl rfl (by kernel_rfl) (hs_26.pt_at (i := 3) rfl) (by kernel_rfl) ?_
         refine SL.val (v := .bool (!(numK f7))) (w' := w_25) rfl rfl (run_eqv (by kernel_rfl) (congrArg Value.bool (show (decide ((numM f7) < 0)) = (!(numK f7)) from numM_neg f7))) ?_
         refine SL.nil ?_
         rcases Bool.eq_false_or_eq_true (numK f7) with hb_90 | hb_90
         ·try rw [hb_90]
          refine CW.cond_false (by kernel_rfl) ?_
          refine CW.skip ?_
          refine CW.region ?_
          refine SL.v (iv 7) ?_
          refine SL.v (iv 8) ?_
          refine SL.v (iv 8) ?_
          refine SL.nil ?_
          refine CR.fresh (fun e9 => e9 2 = pv g_1 0 ∧ e9 4 = pv g_4 0 ∧ e9 5 = .bool false ∧ e9 6 = sv g_12 0 10 c_13 ∧ e9 7 = pv g_23 0 ∧ e9 8 = iv 8) ⟨(by kernel_rfl), (by kernel_rfl), (by kernel_rfl), (by kernel_rfl), (by kernel_rfl), (by kernel_rfl)⟩ ?_
          rintro e_91 ⟨hv_93, hv_94, hv_95, hv_96, hv_97, hv_98⟩
          obtain ⟨e_92, rfl⟩ : ∃ e_92, e_91 = put1 (put1 (put1 (put1 (put1 (put1 e_92 2 (pv g_1 0)) 4 (pv g_4 0)) 5 (.bool false)) 6 (sv g_12 0 10 c_13)) 7 (pv g_23 0)) 8 (iv 8) := ⟨e_91, (put_self hv_98).trans (congrArg (fun z => put1 z 8 (iv 8)) ((put_self hv_97).trans (congrArg (fun z => put1 z 7 (pv g_23 0)) ((put_self hv_96).trans (congrArg (fun z => put1 z 6 (sv g_12 0 10 c_13)) ((put_self hv_95).trans (congrArg (fun z => put1 z 5 (.bool false)) ((put_self hv_94).trans (congrArg (fun z => put1 z 4 (pv g_4 0)) (put_self hv_93))))))))))⟩
          clear hv_93 hv_94 hv_95 hv_96 hv_97 hv_98
          refine CR.more ?_
          refine CW.seq ?_
          refine CW.seq ?_
          refine CW.region ?_
          refine SL.v (iv 8) ?_
          refine SL.v (.bool true) ?_
          refine SL.nil ?_
          refine CW.cond_true (by kernel_rfl) ?_
          refine CW.skip ?_
          refine CW.seq ?_
          refine CW.block ?_
          refine CW.seq ?_
          refine CW.region ?_
          refine SL.v (iv 8) ?_
          refine SL.v (pv g_23 8) ?_
          refine SL.load (g := g_23) (off := 8) (v := iv (fewV f8 15)) rfl rfl rfl (by kernel_rfl) (hs_26.pt_at (i := 3) rfl) (by kernel_rfl) ?_
          refine SL.val (v := .bool (!(bitK f8 15))) (w' := w_25) rfl rfl (run_eqv (by kernel_rfl) (congrArg Value.bool (show (decide ((fewV f8 15) < 0)) = (!(bitK f8 15)) from fewV_neg f8 (by decide)))) ?_
          refine SL.nil ?_
          have hb_99 : (bitK f8 15) = false := (by have hk_ := hbad; unfold curK at hk_; simp_all)
          rw [hb_99]
          refine CW.cond_true (by kernel_rfl) ?_
          refine CW.seq ?_
          refine CW.region ?_
          refine SL.load (g := g_1) (off := 0) (v := .agg (cdA c.clean)) rfl rfl rfl (by kernel_rfl) (hs_26.pt_at (i := 1) rfl) (by kernel_rfl) ?_
          refine SL.storeH (i := 2) (g := g_4) (off := 0) (v := .agg (cdA c.clean)) (L' := [pt g_12 ⟨(qStV_2 f0 f1 f2 f3 f4 f5 f6 f7 f8 f9) ++ pad_14⟩ 9, pt g_1 (cdA c.clean) 33, pt g_4 (cdA c.clean) 33, pt g_23 (qStV_5 f0 f1 f2 f3 f4 f5 f6 f7 f8) 90]) hs_26 rfl rfl rfl (by kernel_rfl) (by kernel_rfl) rfl (by kernel_rfl) (by kernel_rfl) rfl (by kernel_rfl) rfl (fun w_100 hs_101 => ?_)
          refine SL.v (.bool false) ?_
          refine SL.nil ?_
          refine CW.ret ?_
          repeat with_reducible first | refine PThen.ret ?_ | refine PBlock.ret ?_
          refine PRet.cellTmp (t := 4) (u := 5) (ty := 33) (g := g_4) (v := .agg (cdA c.clean)) (v' := .bool false) rfl rfl rfl (by kernel_rfl) (hs_101.pt_at (i := 2) rfl) (by kernel_rfl) (by kernel_rfl) ?_
          exact ⟨rfl, hs_101.gr⟩
         ·try rw [hb_90]
          refine CW.cond_true (by kernel_rfl) ?_
          refine CW.seq ?_
          refine CW.region ?_
          refine SL.load (g := g_1) (off := 0) (v := .agg (cdA c.clean)) rfl rfl rfl (by kernel_rfl) (hs_26.pt_at (i := 1) rfl) (by kernel_rfl) ?_
          refine SL.storeH (i := 2) (g := g_4) (off := 0) (v := .agg (cdA c.clean)) (L' := [pt g_12 ⟨(qStV_2 f0 f1 f2 f3 f4 f5 f6 f7 f8 f9) ++ pad_14⟩ 9, pt g_1 (cdA c.clean) 33, pt g_4 (cdA c.clean) 33, pt g_23 (qStV_5 f0 f1 f2 f3 f4 f5 f6 f7 f8) 90]) hs_26 rfl rfl rfl (by kernel_rfl) (by kernel_rfl) rfl (by kernel_rfl) (by kernel_rfl) rfl (by kernel_rfl) rfl (fun w_102 hs_103 => ?_)
          refine SL.v (.bool false) ?_
          refine SL.nil ?_
          refine CW.ret ?_
          repeat with_reducible first | refine PThen.ret ?_ | refine PBlock.ret ?_
          refine PRet.cellTmp (t := 4) (u := 5) (ty := 33) (g := g_4) (v := .agg (cdA c.clean)) (v' := .bool false) rfl rfl rfl (by kernel_rfl) (hs_103.pt_at (i := 2) rfl) (by kernel_rfl) (by kernel_rfl) ?_
          exact ⟨rfl, hs_103.gr⟩
        ·try rw [hb_81]
         refine CW.cond_true (by kernel_rfl) ?_
         refine CW.seq ?_
         refine CW.region ?_
         refine SL.load (g := g_1) (off := 0) (v := .agg (cdA c.clean)) rfl rfl rfl (by kernel_rfl) (hs_26.pt_at (i := 1) rfl) (by kernel_rfl) ?_
         refine SL.storeH (i := 2) (g := g_4) (off := 0) (v := .agg (cdA c.clean)) (L' := [pt g_12 ⟨(qStV_2 f0 f1 f2 f3 f4 f5 f6 f7 f8 f9) ++ pad_14⟩ 9, pt g_1 (cdA c.clean) 33, pt g_4 (cdA c.clean) 33, pt g_23 (qStV_5 f0 f1 f2 f3 f4 f5 f6 f7 f8) 90]) hs_26 rfl rfl rfl (by kernel_rfl) (by kernel_rfl) rfl (by kernel_rfl) (by kernel_rfl) rfl (by kernel_rfl) rfl (fun w_104 hs_105 => ?_)
         refine SL.v (.bool false) ?_
         refine SL.nil ?_
         refine CW.ret ?_
         repeat with_reducible first | refine PThen.ret ?_ | refine PBlock.ret ?_
         refine PRet.cellTmp (t := 4) (u := 5) (ty := 33) (g := g_4) (v := .agg (cdA c.clean)) (v' := .bool false) rfl rfl rfl (by kernel_rfl) (hs_105.pt_at (i := 2) rfl) (by kernel_rfl) (by kernel_rfl) ?_
         exact ⟨rfl, hs_105.gr⟩
       ·try rw [hb_72]
        refine CW.cond_true (by kernel_rfl) ?_
        refine CW.seq ?_
        refine CW.region ?_
        refine SL.load (g := g_1) (off := 0) (v := .agg (cdA c.clean)) rfl rfl rfl (by kernel_rfl) (hs_26.pt_at (i := 1) rfl) (by kernel_rfl) ?_
        refine SL.storeH (i := 2) (g := g_4) (off := 0) (v := .agg (cdA c.clean)) (L' := [pt g_12 ⟨(qStV_2 f0 f1 f2 f3 f4 f5 f6 f7 f8 f9) ++ pad_14⟩ 9, pt g_1 (cdA c.clean) 33, pt g_4 (cdA c.clean) 33, pt g_23 (qStV_5 f0 f1 f2 f3 f4 f5 f6 f7 f8) 90]) hs_26 rfl rfl rfl (by kernel_rfl) (by kernel_rfl) rfl (by kernel_rfl) (by kernel_rfl) rfl (by kernel_rfl) rfl (fun w_106 hs_107 => ?_)
        refine SL.v (.bool false) ?_
        refine SL.nil ?_
        refine CW.ret ?_
        repeat with_reducible first | refine PThen.ret ?_ | refine PBlock.ret ?_
        refine PRet.cellTmp (t := 4) (u := 5) (ty := 33) (g := g_4) (v := .agg (cdA c.clean)) (v' := .bool false) rfl rfl rfl (by kernel_rfl) (hs_107.pt_at (i := 2) rfl) (by kernel_rfl) (by kernel_rfl) ?_
        exact ⟨rfl, hs_107.gr⟩
      ·try rw [hb_63]
       refine CW.cond_true (by kernel_rfl) ?_
       refine CW.seq ?_
       refine CW.region ?_
       refine SL.load (g := g_1) (off := 0) (v := .agg (cdA c.clean)) rfl rfl rfl (by kernel_rfl) (hs_26.pt_at (i := 1) rfl) (by kernel_rfl) ?_
       refine SL.storeH (i := 2) (g := g_4) (off := 0) (v := .agg (cdA c.clean)) (L' := [pt g_12 ⟨(qStV_2 f0 f1 f2 f3 f4 f5 f6 f7 f8 f9) ++ pad_14⟩ 9, pt g_1 (cdA c.clean) 33, pt g_4 (cdA c.clean) 33, pt g_23 (qStV_5 f0 f1 f2 f3 f4 f5 f6 f7 f8) 90]) hs_26 rfl rfl rfl (by kernel_rfl) (by kernel_rfl) rfl (by kernel_rfl) (by kernel_rfl) rfl (by kernel_rfl) rfl (fun w_108 hs_109 => ?_)
       refine SL.v (.bool false) ?_
       refine SL.nil ?_
       refine CW.ret ?_
       repeat with_reducible first | refine PThen.ret ?_ | refine PBlock.ret ?_
       refine PRet.cellTmp (t := 4) (u := 5) (ty := 33) (g := g_4) (v := .agg (cdA c.clean)) (v' := .bool false) rfl rfl rfl (by kernel_rfl) (hs_109.pt_at (i := 2) rfl) (by kernel_rfl) (by kernel_rfl) ?_
       exact ⟨rfl, hs_109.gr⟩
     ·try rw [hb_54]
      refine CW.cond_true (by kernel_rfl) ?_
      refine CW.seq ?_
      refine CW.region ?_
      refine SL.load (g := g_1) (off := 0) (v := .agg (cdA c.clean)) rfl rfl rfl (by kernel_rfl) (hs_26.pt_at (i := 1) rfl) (by kernel_rfl) ?_
      refine SL.storeH (i := 2) (g := g_4) (off := 0) (v := .agg (cdA c.clean)) (L' := [pt g_12 ⟨(qStV_2 f0 f1 f2 f3 f4 f5 f6 f7 f8 f9) ++ pad_14⟩ 9, pt g_1 (cdA c.clean) 33, pt g_4 (cdA c.clean) 33, pt g_23 (qStV_5 f0 f1 f2 f3 f4 f5 f6 f7 f8) 90]) hs_26 rfl rfl rfl (by kernel_rfl) (by kernel_rfl) rfl (by kernel_rfl) (by kernel_rfl) rfl (by kernel_rfl) rfl (fun w_110 hs_111 => ?_)
      refine SL.v (.bool false) ?_
      refine SL.nil ?_
      refine CW.ret ?_
      repeat with_reducible first | refine PThen.ret ?_ | refine PBlock.ret ?_
      refine PRet.cellTmp (t := 4) (u := 5) (ty := 33) (g := g_4) (v := .agg (cdA c.clean)) (v' := .bool false) rfl rfl rfl (by kernel_rfl) (hs_111.pt_at (i := 2) rfl) (by kernel_rfl) (by kernel_rfl) ?_
      exact ⟨rfl, hs_111.gr⟩
    ·try rw [hb_45]
     refine CW.cond_true (by kernel_rfl) ?_
     refine CW.seq ?_
     refine CW.region ?_
     refine SL.load (g := g_1) (off := 0) (v := .agg (cdA c.clean)) rfl rfl rfl (by kernel_rfl) (hs_26.pt_at (i := 1) rfl) (by kernel_rfl) ?_
     refine SL.storeH (i := 2) (g := g_4) (off := 0) (v := .agg (cdA c.clean)) (L' := [pt g_12 ⟨(qStV_2 f0 f1 f2 f3 f4 f5 f6 f7 f8 f9) ++ pad_14⟩ 9, pt g_1 (cdA c.clean) 33, pt g_4 (cdA c.clean) 33, pt g_23 (qStV_5 f0 f1 f2 f3 f4 f5 f6 f7 f8) 90]) hs_26 rfl rfl rfl (by kernel_rfl) (by kernel_rfl) rfl (by kernel_rfl) (by kernel_rfl) rfl (by kernel_rfl) rfl (fun w_112 hs_113 => ?_)
     refine SL.v (.bool false) ?_
     refine SL.nil ?_
     refine CW.ret ?_
     repeat with_reducible first | refine PThen.ret ?_ | refine PBlock.ret ?_
     refine PRet.cellTmp (t := 4) (u := 5) (ty := 33) (g := g_4) (v := .agg (cdA c.clean)) (v' := .bool false) rfl rfl rfl (by kernel_rfl) (hs_113.pt_at (i := 2) rfl) (by kernel_rfl) (by kernel_rfl) ?_
     exact ⟨rfl, hs_113.gr⟩
   ·try rw [hb_36]
    refine CW.cond_true (by kernel_rfl) ?_
    refine CW.seq ?_
    refine CW.region ?_
    refine SL.load (g := g_1) (off := 0) (v := .agg (cdA c.clean)) rfl rfl rfl (by kernel_rfl) (hs_26.pt_at (i := 1) rfl) (by kernel_rfl) ?_
    refine SL.storeH (i := 2) (g := g_4) (off := 0) (v := .agg (cdA c.clean)) (L' := [pt g_12 ⟨(qStV_2 f0 f1 f2 f3 f4 f5 f6 f7 f8 f9) ++ pad_14⟩ 9, pt g_1 (cdA c.clean) 33, pt g_4 (cdA c.clean) 33, pt g_23 (qStV_5 f0 f1 f2 f3 f4 f5 f6 f7 f8) 90]) hs_26 rfl rfl rfl (by kernel_rfl) (by kernel_rfl) rfl (by kernel_rfl) (by kernel_rfl) rfl (by kernel_rfl) rfl (fun w_114 hs_115 => ?_)
    refine SL.v (.bool false) ?_
    refine SL.nil ?_
    refine CW.ret ?_
    repeat with_reducible first | refine PThen.ret ?_ | refine PBlock.ret ?_
    refine PRet.cellTmp (t := 4) (u := 5) (ty := 33) (g := g_4) (v := .agg (cdA c.clean)) (v' := .bool false) rfl rfl rfl (by kernel_rfl) (hs_115.pt_at (i := 2) rfl) (by kernel_rfl) (by kernel_rfl) ?_
    exact ⟨rfl, hs_115.gr⟩
  ·try rw [hb_27]
   refine CW.cond_true (by kernel_rfl) ?_
   refine CW.seq ?_
   refine CW.region ?_
   refine SL.load (g := g_1) (off := 0) (v := .agg (cdA c.clean)) rfl rfl rfl (by kernel_rfl) (hs_26.pt_at (i := 1) rfl) (by kernel_rfl) ?_
   refine SL.storeH (i := 2) (g := g_4) (off := 0) (v := .agg (cdA c.clean)) (L' := [pt g_12 ⟨(qStV_2 f0 f1 f2 f3 f4 f5 f6 f7 f8 f9) ++ pad_14⟩ 9, pt g_1 (cdA c.clean) 33, pt g_4 (cdA c.clean) 33, pt g_23 (qStV_5 f0 f1 f2 f3 f4 f5 f6 f7 f8) 90]) hs_26 rfl rfl rfl (by kernel_rfl) (by kernel_rfl) rfl (by kernel_rfl) (by kernel_rfl) rfl (by kernel_rfl) rfl (fun w_116 hs_117 => ?_)
   refine SL.v (.bool false) ?_
   refine SL.nil ?_
   refine CW.ret ?_
   repeat with_reducible first | refine PThen.ret ?_ | refine PBlock.ret ?_
   refine PRet.cellTmp (t := 4) (u := 5) (ty := 33) (g := g_4) (v := .agg (cdA c.clean)) (v' := .bool false) rfl rfl rfl (by kernel_rfl) (hs_117.pt_at (i := 2) rfl) (by kernel_rfl) (by kernel_rfl) ?_
   exact ⟨rfl, hs_117.gr⟩
theorem how_8 (h : Int) (h0 : 0 ≤ h ∧ h ≤ 15) : decide (8 ≤ h) = (h / 8 == 1) := by
 have H : ∀ k : Fin 16, decide ((8 : Int) ≤ (k.val : Int)) = ((k.val : Int) / 8 == 1) := by decide +kernel
 have := H ⟨h.toNat, by omega⟩
 simpa only [Int.toNat_of_nonneg h0.1] using this
abbrev qStV_8 (c : Cor) : Array Value := #[iv c.clean.g0, iv c.clean.g1, iv c.clean.g2, iv c.clean.g3, iv c.clean.gl, iv c.clean.gr, iv c.clean.sg]
theorem rrst_cur (c : Cor) (f0 f1 f2 f3 f4 f5 f6 f7 f8 f9 : List Int) (Z : S7 × Bool) (hZ : curS7 c f0 f1 f2 f3 f4 f5 f6 f7 f8 f9 = Z) (hn : f9.length ≤ 300) (w : World) :
  Calls Tryz.prog 37 #[.agg (qStV_8 c), iv (numV f6), iv (numV f7), .int .u8 (64 + (bitV f8 15)), .string (strOf f9)] w fun e w' => e = .returned (.tuple #[.agg #[iv (Z.1.a0), iv (Z.1.a1), iv (Z.1.a2), iv (Z.1.a3), iv (Z.1.a4), iv (Z.1.a5), iv (Z.1.a6)], .bool (Z.2)]) ∧ Gr w w' := by
 have a8 := bitV_in f8 (m := 15) (by decide)
 have h := rrst_any (s7 c.clean) (numV f6) (numV f7) (64 + bitV f8 15) (f9.map fun c => UInt8.ofNat c.toNat) w (by omega) (by simp only [maxLen, List.length_map]; omega)
 unfold curS7 at hZ
 rw [hZ] at h
 exact h
abbrev qStV_0 (c : Cor) (f0 : List Int) (f1 : List Int) (f2 : List Int) (f3 : List Int) (f4 : List Int) (f5 : List Int) (f6 : List Int) (f7 : List Int) (f8 : List Int) (f9 : List Int) (Z : S7 × Bool) : Array Value := #[iv ((ccur c f0 f1 f2 f3 f4 f5 f6 f7 f8 f9 Z.1 ((((bitV f5 15) / 2) % 4) + 1)).clean.row), iv ((ccur c f0 f1 f2 f3 f4 f5 f6 f7 f8 f9 Z.1 ((((bitV f5 15) / 2) % 4) + 1)).clean.col), .int .u8 ((ccur c f0 f1 f2 f3 f4 f5 f6 f7 f8 f9 Z.1 ((((bitV f5 15) / 2) % 4) + 1)).clean.rend), .bool ((ccur c f0 f1 f2 f3 f4 f5 f6 f7 f8 f9 Z.1 ((((bitV f5 15) / 2) % 4) + 1)).clean.kept), .bool ((ccur c f0 f1 f2 f3 f4 f5 f6 f7 f8 f9 Z.1 ((((bitV f5 15) / 2) % 4) + 1)).clean.wrap), .bool ((ccur c f0 f1 f2 f3 f4 f5 f6 f7 f8 f9 Z.1 ((((bitV f5 15) / 2) % 4) + 1)).clean.origin), iv ((ccur c f0 f1 f2 f3 f4 f5 f6 f7 f8 f9 Z.1 ((((bitV f5 15) / 2) % 4) + 1)).clean.g0), iv ((ccur c f0 f1 f2 f3 f4 f5 f6 f7 f8 f9 Z.1 ((((bitV f5 15) / 2) % 4) + 1)).clean.g1), iv ((ccur c f0 f1 f2 f3 f4 f5 f6 f7 f8 f9 Z.1 ((((bitV f5 15) / 2) % 4) + 1)).clean.g2), iv ((ccur c f0 f1 f2 f3 f4 f5 f6 f7 f8 f9 Z.1 ((((bitV f5 15) / 2) % 4) + 1)).clean.g3), iv ((ccur c f0 f1 f2 f3 f4 f5 f6 f7 f8 f9 Z.1 ((((bitV f5 15) / 2) % 4) + 1)).clean.gl), iv ((ccur c f0 f1 f2 f3 f4 f5 f6 f7 f8 f9 Z.1 ((((bitV f5 15) / 2) % 4) + 1)).clean.gr), iv ((ccur c f0 f1 f2 f3 f4 f5 f6 f7 f8 f9 Z.1 ((((bitV f5 15) / 2) % 4) + 1)).clean.sg), iv ((ccur c f0 f1 f2 f3 f4 f5 f6 f7 f8 f9 Z.1 ((((bitV f5 15) / 2) % 4) + 1)).clean.pt), iv ((ccur c f0 f1 f2 f3 f4 f5 f6 f7 f8 f9 Z.1 ((((bitV f5 15) / 2) % 4) + 1)).clean.pl), iv ((ccur c f0 f1 f2 f3 f4 f5 f6 f7 f8 f9 Z.1 ((((bitV f5 15) / 2) % 4) + 1)).clean.pb), iv ((ccur c f0 f1 f2 f3 f4 f5 f6 f7 f8 f9 Z.1 ((((bitV f5 15) / 2) % 4) + 1)).clean.pr), iv ((ccur c f0 f1 f2 f3 f4 f5 f6 f7 f8 f9 Z.1 ((((bitV f5 15) / 2) % 4) + 1)).clean.mt), iv ((ccur c f0 f1 f2 f3 f4 f5 f6 f7 f8 f9 Z.1 ((((bitV f5 15) / 2) % 4) + 1)).clean.ml), iv ((ccur c f0 f1 f2 f3 f4 f5 f6 f7 f8 f9 Z.1 ((((bitV f5 15) / 2) % 4) + 1)).clean.mb), iv ((ccur c f0 f1 f2 f3 f4 f5 f6 f7 f8 f9 Z.1 ((((bitV f5 15) / 2) % 4) + 1)).clean.mr), iv ((ccur c f0 f1 f2 f3 f4 f5 f6 f7 f8 f9 Z.1 ((((bitV f5 15) / 2) % 4) + 1)).clean.modes), iv ((ccur c f0 f1 f2 f3 f4 f5 f6 f7 f8 f9 Z.1 ((((bitV f5 15) / 2) % 4) + 1)).clean.level), .bool ((ccur c f0 f1 f2 f3 f4 f5 f6 f7 f8 f9 Z.1 ((((bitV f5 15) / 2) % 4) + 1)).clean.eight), .bool ((ccur c f0 f1 f2 f3 f4 f5 f6 f7 f8 f9 Z.1 ((((bitV f5 15) / 2) % 4) + 1)).clean.stream), iv ((ccur c f0 f1 f2 f3 f4 f5 f6 f7 f8 f9 Z.1 ((((bitV f5 15) / 2) % 4) + 1)).clean.status), .bool ((ccur c f0 f1 f2 f3 f4 f5 f6 f7 f8 f9 Z.1 ((((bitV f5 15) / 2) % 4) + 1)).clean.below), iv ((ccur c f0 f1 f2 f3 f4 f5 f6 f7 f8 f9 Z.1 ((((bitV f5 15) / 2) % 4) + 1)).clean.page), iv ((ccur c f0 f1 f2 f3 f4 f5 f6 f7 f8 f9 Z.1 ((((bitV f5 15) / 2) % 4) + 1)).clean.pages)]
abbrev qStV_1 (c : Cor) (f0 : List Int) (f1 : List Int) (f2 : List Int) (f3 : List Int) (f4 : List Int) (f5 : List Int) (f6 : List Int) (f7 : List Int) (f8 : List Int) (f9 : List Int) (Z : S7 × Bool) : Array Value := #[iv ((ccur c f0 f1 f2 f3 f4 f5 f6 f7 f8 f9 Z.1 0).clean.row), iv ((ccur c f0 f1 f2 f3 f4 f5 f6 f7 f8 f9 Z.1 0).clean.col), .int .u8 ((ccur c f0 f1 f2 f3 f4 f5 f6 f7 f8 f9 Z.1 0).clean.rend), .bool ((ccur c f0 f1 f2 f3 f4 f5 f6 f7 f8 f9 Z.1 0).clean.kept), .bool ((ccur c f0 f1 f2 f3 f4 f5 f6 f7 f8 f9 Z.1 0).clean.wrap), .bool ((ccur c f0 f1 f2 f3 f4 f5 f6 f7 f8 f9 Z.1 0).clean.origin), iv ((ccur c f0 f1 f2 f3 f4 f5 f6 f7 f8 f9 Z.1 0).clean.g0), iv ((ccur c f0 f1 f2 f3 f4 f5 f6 f7 f8 f9 Z.1 0).clean.g1), iv ((ccur c f0 f1 f2 f3 f4 f5 f6 f7 f8 f9 Z.1 0).clean.g2), iv ((ccur c f0 f1 f2 f3 f4 f5 f6 f7 f8 f9 Z.1 0).clean.g3), iv ((ccur c f0 f1 f2 f3 f4 f5 f6 f7 f8 f9 Z.1 0).clean.gl), iv ((ccur c f0 f1 f2 f3 f4 f5 f6 f7 f8 f9 Z.1 0).clean.gr), iv ((ccur c f0 f1 f2 f3 f4 f5 f6 f7 f8 f9 Z.1 0).clean.sg), iv ((ccur c f0 f1 f2 f3 f4 f5 f6 f7 f8 f9 Z.1 0).clean.pt), iv ((ccur c f0 f1 f2 f3 f4 f5 f6 f7 f8 f9 Z.1 0).clean.pl), iv ((ccur c f0 f1 f2 f3 f4 f5 f6 f7 f8 f9 Z.1 0).clean.pb), iv ((ccur c f0 f1 f2 f3 f4 f5 f6 f7 f8 f9 Z.1 0).clean.pr), iv ((ccur c f0 f1 f2 f3 f4 f5 f6 f7 f8 f9 Z.1 0).clean.mt), iv ((ccur c f0 f1 f2 f3 f4 f5 f6 f7 f8 f9 Z.1 0).clean.ml), iv ((ccur c f0 f1 f2 f3 f4 f5 f6 f7 f8 f9 Z.1 0).clean.mb), iv ((ccur c f0 f1 f2 f3 f4 f5 f6 f7 f8 f9 Z.1 0).clean.mr), iv ((ccur c f0 f1 f2 f3 f4 f5 f6 f7 f8 f9 Z.1 0).clean.modes), iv ((ccur c f0 f1 f2 f3 f4 f5 f6 f7 f8 f9 Z.1 0).clean.level), .bool ((ccur c f0 f1 f2 f3 f4 f5 f6 f7 f8 f9 Z.1 0).clean.eight), .bool ((ccur c f0 f1 f2 f3 f4 f5 f6 f7 f8 f9 Z.1 0).clean.stream), iv ((ccur c f0 f1 f2 f3 f4 f5 f6 f7 f8 f9 Z.1 0).clean.status), .bool ((ccur c f0 f1 f2 f3 f4 f5 f6 f7 f8 f9 Z.1 0).clean.below), iv ((ccur c f0 f1 f2 f3 f4 f5 f6 f7 f8 f9 Z.1 0).clean.page), iv ((ccur c f0 f1 f2 f3 f4 f5 f6 f7 f8 f9 Z.1 0).clean.pages)]
abbrev qStV_3 (Z : S7 × Bool) : Array Value := #[iv Z.1.a0, iv Z.1.a1, iv Z.1.a2, iv Z.1.a3, iv Z.1.a4, iv Z.1.a5, iv Z.1.a6]
abbrev qStV_4 (f0 : List Int) (f1 : List Int) (f2 : List Int) (f3 : List Int) (f4 : List Int) (f5 : List Int) (f6 : List Int) (f7 : List Int) (f8 : List Int) : Array Value := #[iv (numV f0), iv (numV f1), iv (numV f2), iv (bitV f3 31), iv (bitV f4 1), iv (bitV f5 15), iv (numV f6), iv (numV f7), iv (bitV f8 15)]
abbrev qStV_6 (f0 : List Int) (f1 : List Int) (f3 : List Int) (f4 : List Int) (f5 : List Int) (Z : S7 × Bool) (c : Cor) (f2 : List Int) : Array Value := #[iv ((numV f0) - 1), iv ((numV f1) - 1), .int .u8 (bitV f3 31), .bool ((bitV f4 1) == 1), .bool (bitV f5 15 / 8 == 1), .bool (((bitV f5 15) % 2) == 1), iv Z.1.a0, iv Z.1.a1, iv Z.1.a2, iv Z.1.a3, iv Z.1.a4, iv Z.1.a5, iv ((((bitV f5 15) / 2) % 4) + 1), iv c.clean.pt, iv c.clean.pl, iv c.clean.pb, iv c.clean.pr, iv c.clean.mt, iv c.clean.ml, iv c.clean.mb, iv c.clean.mr, iv c.clean.modes, iv c.clean.level, .bool c.clean.eight, .bool c.clean.stream, iv c.clean.status, .bool c.clean.below, iv ((numV f2) - 1), iv c.clean.pages]
abbrev qStV_7 (f0 : List Int) (f1 : List Int) (f3 : List Int) (f4 : List Int) (f5 : List Int) (Z : S7 × Bool) (c : Cor) (f2 : List Int) : Array Value := #[iv ((numV f0) - 1), iv ((numV f1) - 1), .int .u8 (bitV f3 31), .bool ((bitV f4 1) == 1), .bool (bitV f5 15 / 8 == 1), .bool (((bitV f5 15) % 2) == 1), iv Z.1.a0, iv Z.1.a1, iv Z.1.a2, iv Z.1.a3, iv Z.1.a4, iv Z.1.a5, iv 0, iv c.clean.pt, iv c.clean.pl, iv c.clean.pb, iv c.clean.pr, iv c.clean.mt, iv c.clean.ml, iv c.clean.mb, iv c.clean.mr, iv c.clean.modes, iv c.clean.level, .bool c.clean.eight, .bool c.clean.stream, iv c.clean.status, .bool c.clean.below, iv ((numV f2) - 1), iv c.clean.pages]
abbrev qStV_10 (c : Cor) (f0 : List Int) (f1 : List Int) (f2 : List Int) (f3 : List Int) (f4 : List Int) (f5 : List Int) (f6 : List Int) (f7 : List Int) (f8 : List Int) (f9 : List Int) (Z : S7 × Bool) : Cor := (ccur c f0 f1 f2 f3 f4 f5 f6 f7 f8 f9 Z.1 ((((bitV f5 15) / 2) % 4) + 1))
abbrev qStV_12 (Z : S7 × Bool) (f5 : List Int) : Array Value := #[iv Z.1.a0, iv Z.1.a1, iv Z.1.a2, iv Z.1.a3, iv Z.1.a4, iv Z.1.a5, iv ((((bitV f5 15) / 2) % 4) + 1)]
set_option maxRecDepth 100000 in
set_option maxHeartbeats 8000000 in
theorem dsc_y (c : Cor) (l : List Int) (f0 f1 f2 f3 f4 f5 f6 f7 f8 f9 : List Int) (Z : S7 × Bool) (hZ : curS7 c f0 f1 f2 f3 f4 f5 f6 f7 f8 f9 = Z) (w : World) (hok : c.Ok) (hl : ∀ c ∈ l, 0 ≤ c ∧ c < 256) (hn : l.length ≤ 300) (hx : splitSemi l = [f0, f1, f2, f3, f4, f5, f6, f7, f8, f9]) (hf0 : ∀ c ∈ f0, 0 ≤ c ∧ c < 256) (hf1 : ∀ c ∈ f1, 0 ≤ c ∧ c < 256) (hf2 : ∀ c ∈ f2, 0 ≤ c ∧ c < 256) (hf3 : ∀ c ∈ f3, 0 ≤ c ∧ c < 256) (hf4 : ∀ c ∈ f4, 0 ≤ c ∧ c < 256) (hf5 : ∀ c ∈ f5, 0 ≤ c ∧ c < 256) (hf6 : ∀ c ∈ f6, 0 ≤ c ∧ c < 256) (hf7 : ∀ c ∈ f7, 0 ≤ c ∧ c < 256) (hf8 : ∀ c ∈ f8, 0 ≤ c ∧ c < 256) (hf9 : ∀ c ∈ f9, 0 ≤ c ∧ c < 256) (nf0 : f0.length ≤ 300) (nf1 : f1.length ≤ 300) (nf2 : f2.length ≤ 300) (nf3 : f3.length ≤ 300) (nf4 : f4.length ≤ 300) (nf5 : f5.length ≤ 300) (nf6 : f6.length ≤ 300) (nf7 : f7.length ≤ 300) (nf8 : f8.length ≤ 300) (nf9 : f9.length ≤ 300) (k0 : numK f0 = true) (k1 : numK f1 = true) (k2 : numK f2 = true) (k3 : bitK f3 31 = true) (k4 : bitK f4 1 = true) (k5 : bitK f5 15 = true) (k6 : numK f6 = true) (k7 : numK f7 = true) (k8 : bitK f8 15 = true) :
  Calls Tryz.prog 11 #[.agg (cdA c), .string (strOf l)] w fun e w' => e = .returned (.tuple #[.agg (bif okCur c f0 f1 f2 f3 f4 f5 f6 f7 f8 f9 then cdA (ccur c f0 f1 f2 f3 f4 f5 f6 f7 f8 f9 Z.1 (sgl (bitV f5 15))).clean else cdA c.clean), .bool (okCur c f0 f1 f2 f3 f4 f5 f6 f7 f8 f9)]) ∧ Gr w w' := by
 have hk_ : curK f0 f1 f2 f3 f4 f5 f6 f7 f8 f9 = true := by unfold curK; rw [k0, k1, k2, k3, k4, k5, k6, k7, k8]; rfl
 have a0 := numV_in (l := f0)
 have a1 := numV_in (l := f1)
 have a2 := numV_in (l := f2)
 have a6 := numV_in (l := f6)
 have a7 := numV_in (l := f7)
 have a3 := bitV_in f3 (m := 31) (by decide)
 have a4 := bitV_in f4 (m := 1) (by decide)
 have a5 := bitV_in f5 (m := 15) (by decide)
 have a8 := bitV_in f8 (m := 15) (by decide)
 have hh : 0 ≤ bitV f5 15 ∧ bitV f5 15 ≤ 15 := a5
 have hsgl : ∀ x : Int, (0 ≤ x ∧ x ≤ 100) → I6 x := fun x h => by unfold I6; omega
 refine calls_sx (n := 129) (args := [.agg (cdA c), .string (strOf l)]) Tryz.func11 rfl rfl rfl ?_
 have hs0 := SH.none w
 refine CW.seq ?_
 refine CW.region ?_
 refine SL.newH (mk := fun g => pv g 0) (C := (cdA c)) (T := 33) hs0 rfl rfl (by kernel_rfl) (fun g_1 w_2 hs_3 => ?_)
 have hs_3 : SH [] w w_2 [pt g_1 (cdA c) 33] := hs_3
 refine SL.newH (mk := fun g => pv g 0) (C := czD) (T := 33) hs_3 rfl rfl (by kernel_rfl) (fun g_4 w_5 hs_6 => ?_)
 have hs_6 : SH [] w w_5 [pt g_1 (cdA c) 33, pt g_4 czD 33] := hs_6
 refine SL.v (.bool false) ?_
 refine SL.nil ?_
 refine CW.seq ?_
 refine CW.region ?_
 refine SL.load (g := g_1) (off := 0) (v := .agg (cdA c)) rfl rfl rfl (by kernel_rfl) (hs_6.pt_at (i := 0) rfl) (by kernel_rfl) ?_
 refine SL.call (f := 13) (args := #[.agg (cdA c)]) (w1 := w_5) rfl rfl (by kernel_rfl) (rclean_any c w_5 hok) ?_
 rintro x w_7 ⟨rfl, hc_8⟩
 refine ⟨_, rfl, ?_⟩
 have hs_9 := hs_6.grow hc_8
 refine SL.storeH (i := 0) (g := g_1) (off := 0) (v := .agg (cdA c.clean)) (L' := [pt g_1 (cdA c.clean) 33, pt g_4 czD 33]) hs_9 rfl rfl rfl (by kernel_rfl) (by kernel_rfl) rfl (by kernel_rfl) (by kernel_rfl) rfl (by kernel_rfl) rfl (fun w_10 hs_11 => ?_)
 refine SL.nil ?_
 refine CW.seq ?_
 refine CW.region ?_
 refine SL.v (.string (strOf l)) ?_
 refine SL.callH (f := 34) (args := #[.string (strOf l)]) (Pre := []) (Rest := [pt g_1 (cdA c.clean) 33, pt g_4 czD 33]) [] hs_11 rfl rfl (by kernel_rfl) rfl (fields_10 l f0 f1 f2 f3 f4 f5 f6 f7 f8 f9 w_10 hl (by omega) hx) ?_
 rintro v_ Q_ w_15 ⟨g_12, c_13, pad_14, rfl, rfl⟩ hs_17
 have hs_17 : SH [] w w_15 [pt g_12 ⟨(qStV_2 f0 f1 f2 f3 f4 f5 f6 f7 f8 f9) ++ pad_14⟩ 9, pt g_1 (cdA c.clean) 33, pt g_4 czD 33] := hs_17
 refine SL.v (sv g_12 0 10 c_13) ?_
 refine SL.nil ?_
 refine CW.seq ?_
 refine CW.seq ?_
 refine CW.region ?_
 refine SL.v (sv g_12 0 10 c_13) ?_
 refine SL.val (v := iv 10) (w' := w_15) rfl rfl (by kernel_rfl) ?_
 refine SL.v (.bool false) ?_
 refine SL.nil ?_
 refine CW.cond_false (by kernel_rfl) ?_
 refine CW.skip ?_
 refine CW.seq ?_
 have HGR : GrL [fun v _ => v = sv g_12 0 10 c_13, fun v _ => v = pv g_12 0, fun v _ => v = .string (strOf f0), fun v _ => v = iv (numV f0), fun v _ => v = sv g_12 0 10 c_13, fun v _ => v = pv g_12 1, fun v _ => v = .string (strOf f1), fun v _ => v = iv (numV f1), fun v _ => v = sv g_12 0 10 c_13, fun v _ => v = pv g_12 2, fun v _ => v = .string (strOf f2), fun v _ => v = iv (numV f2), fun v _ => v = sv g_12 0 10 c_13, fun v _ => v = pv g_12 3, fun v _ => v = .string (strOf f3), fun v _ => v = iv (bitV f3 31), fun v _ => v = sv g_12 0 10 c_13, fun v _ => v = pv g_12 4, fun v _ => v = .string (strOf f4), fun v _ => v = iv (bitV f4 1), fun v _ => v = sv g_12 0 10 c_13, fun v _ => v = pv g_12 5, fun v _ => v = .string (strOf f5), fun v _ => v = iv (bitV f5 15), fun v _ => v = sv g_12 0 10 c_13, fun v _ => v = pv g_12 6, fun v _ => v = .string (strOf f6), fun v _ => v = iv (numV f6), fun v _ => v = sv g_12 0 10 c_13, fun v _ => v = pv g_12 7, fun v _ => v = .string (strOf f7), fun v _ => v = iv (numV f7), fun v _ => v = sv g_12 0 10 c_13, fun v _ => v = pv g_12 8, fun v _ => v = .string (strOf f8), fun v _ => v = iv (bitV f8 15), fun v _ => v = .agg (qStV_4 f0 f1 f2 f3 f4 f5 f6 f7 f8), NewB w_15 (fun g => pv g 0) (.cells (qStV_9) 90 (0, 0))] := ⟨fun _ _ _ _ h => h, ⟨fun _ _ _ _ h => h, ⟨fun _ _ _ _ h => h, ⟨fun _ _ _ _ h => h, ⟨fun _ _ _ _ h => h, ⟨fun _ _ _ _ h => h, ⟨fun _ _ _ _ h => h, ⟨fun _ _ _ _ h => h, ⟨fun _ _ _ _ h => h, ⟨fun _ _ _ _ h => h, ⟨fun _ _ _ _ h => h, ⟨fun _ _ _ _ h => h, ⟨fun _ _ _ _ h => h, ⟨fun _ _ _ _ h => h, ⟨fun _ _ _ _ h => h, ⟨fun _ _ _ _ h => h, ⟨fun _ _ _ _ h => h, ⟨fun _ _ _ _ h => h, ⟨fun _ _ _ _ h => h, ⟨fun _ _ _ _ h => h, ⟨fun _ _ _ _ h => h, ⟨fun _ _ _ _ h => h, ⟨fun _ _ _ _ h => h, ⟨fun _ _ _ _ h => h, ⟨fun _ _ _ _ h => h, ⟨fun _ _ _ _ h => h, ⟨fun _ _ _ _ h => h, ⟨fun _ _ _ _ h => h, ⟨fun _ _ _ _ h => h, ⟨fun _ _ _ _ h => h, ⟨fun _ _ _ _ h => h, ⟨fun _ _ _ _ h => h, ⟨fun _ _ _ _ h => h, ⟨fun _ _ _ _ h => h, ⟨fun _ _ _ _ h => h, ⟨fun _ _ _ _ h => h, ⟨fun _ _ _ _ h => h, ⟨fun _ _ _ hg h => NewB.gr hg h, trivial⟩⟩⟩⟩⟩⟩⟩⟩⟩⟩⟩⟩⟩⟩⟩⟩⟩⟩⟩⟩⟩⟩⟩⟩⟩⟩⟩⟩⟩⟩⟩⟩⟩⟩⟩⟩⟩⟩
 refine CW.draw 38 (FW [fun v _ => v = sv g_12 0 10 c_13, fun v _ => v = pv g_12 0, fun v _ => v = .string (strOf f0), fun v _ => v = iv (numV f0), fun v _ => v = sv g_12 0 10 c_13, fun v _ => v = pv g_12 1, fun v _ => v = .string (strOf f1), fun v _ => v = iv (numV f1), fun v _ => v = sv g_12 0 10 c_13, fun v _ => v = pv g_12 2, fun v _ => v = .string (strOf f2), fun v _ => v = iv (numV f2), fun v _ => v = sv g_12 0 10 c_13, fun v _ => v = pv g_12 3, fun v _ => v = .string (strOf f3), fun v _ => v = iv (bitV f3 31), fun v _ => v = sv g_12 0 10 c_13, fun v _ => v = pv g_12 4, fun v _ => v = .string (strOf f4), fun v _ => v = iv (bitV f4 1), fun v _ => v = sv g_12 0 10 c_13, fun v _ => v = pv g_12 5, fun v _ => v = .string (strOf f5), fun v _ => v = iv (bitV f5 15), fun v _ => v = sv g_12 0 10 c_13, fun v _ => v = pv g_12 6, fun v _ => v = .string (strOf f6), fun v _ => v = iv (numV f6), fun v _ => v = sv g_12 0 10 c_13, fun v _ => v = pv g_12 7, fun v _ => v = .string (strOf f7), fun v _ => v = iv (numV f7), fun v _ => v = sv g_12 0 10 c_13, fun v _ => v = pv g_12 8, fun v _ => v = .string (strOf f8), fun v _ => v = iv (bitV f8 15), fun v _ => v = .agg (qStV_4 f0 f1 f2 f3 f4 f5 f6 f7 f8), NewB w_15 (fun g => pv g 0) (.cells (qStV_9) 90 (0, 0))]) (fun W => Gr w_15 W) (by kernel_rfl) (by kernel_rfl) (by kernel_rfl) (by kernel_rfl) (by kernel_rfl) (Gr.refl _).drew ?_ ?_
 ·refine ⟨?_, ⟨?_, ⟨?_, ⟨?_, ⟨?_, ⟨?_, ⟨?_, ⟨?_, ⟨?_, ⟨?_, ⟨?_, ⟨?_, ⟨?_, ⟨?_, ⟨?_, ⟨?_, ⟨?_, ⟨?_, ⟨?_, ⟨?_, ⟨?_, ⟨?_, ⟨?_, ⟨?_, ⟨?_, ⟨?_, ⟨?_, ⟨?_, ⟨?_, ⟨?_, ⟨?_, ⟨?_, ⟨?_, ⟨?_, ⟨?_, ⟨?_, ⟨?_, ⟨?_, trivial⟩⟩⟩⟩⟩⟩⟩⟩⟩⟩⟩⟩⟩⟩⟩⟩⟩⟩⟩⟩⟩⟩⟩⟩⟩⟩⟩⟩⟩⟩⟩⟩⟩⟩⟩⟩⟩⟩
  ·intro L ys W hB hF hP K hK
   show OpE _ _ _ W K
   exact OpE.val (sv g_12 0 10 c_13) W (by kernel_rfl) (hK _ W hB rfl (fun _ _ h => h))
  ·intro L ys W hB hF hP K hK
   show OpE _ _ _ W K
   exact OpE.known (j := 0) (v := sv g_12 0 10 c_13) (hF 0 (hP.1 rfl)) (OpE.val (pv g_12 0) W (by kernel_rfl) (hK _ W hB rfl (fun _ _ h => h)))
  ·intro L ys W hB hF hP K hK
   show OpE _ _ _ W K
   exact OpE.known (j := 1) (v := pv g_12 0) (hF 1 (hP.1 rfl)) (OpE.load (g := g_12) (off := 0) (v := .string (strOf f0)) rfl (by kernel_rfl) ((hs_17.grow hB).pt_at (i := 0) rfl) (by kernel_rfl) (hK _ W hB rfl (fun _ _ h => h)))
  ·intro L ys W hB hF hP K hK
   show OpE _ _ _ W K
   exact OpE.known (j := 2) (v := .string (strOf f0)) (hF 2 (hP.1 rfl)) (OpE.call 35 #[.string (strOf f0)] W _ (by kernel_rfl) (dnum_y f0 W hf0 nf0 k0) (fun x w' hx => by obtain ⟨rfl, hg⟩ := hx; exact ⟨_, rfl, hK _ w' (hB.trans hg) rfl (fun _ _ h => FW.gr HGR hg h)⟩))
  ·intro L ys W hB hF hP K hK
   show OpE _ _ _ W K
   exact OpE.val (sv g_12 0 10 c_13) W (by kernel_rfl) (hK _ W hB rfl (fun _ _ h => h))
  ·intro L ys W hB hF hP K hK
   show OpE _ _ _ W K
   exact OpE.known (j := 4) (v := sv g_12 0 10 c_13) (hF 4 (hP.1 rfl)) (OpE.val (pv g_12 1) W (by kernel_rfl) (hK _ W hB rfl (fun _ _ h => h)))
  ·intro L ys W hB hF hP K hK
   show OpE _ _ _ W K
   exact OpE.known (j := 5) (v := pv g_12 1) (hF 5 (hP.1 rfl)) (OpE.load (g := g_12) (off := 1) (v := .string (strOf f1)) rfl (by kernel_rfl) ((hs_17.grow hB).pt_at (i := 0) rfl) (by kernel_rfl) (hK _ W hB rfl (fun _ _ h => h)))
  ·intro L ys W hB hF hP K hK
   show OpE _ _ _ W K
   exact OpE.known (j := 6) (v := .string (strOf f1)) (hF 6 (hP.1 rfl)) (OpE.call 35 #[.string (strOf f1)] W _ (by kernel_rfl) (dnum_y f1 W hf1 nf1 k1) (fun x w' hx => by obtain ⟨rfl, hg⟩ := hx; exact ⟨_, rfl, hK _ w' (hB.trans hg) rfl (fun _ _ h => FW.gr HGR hg h)⟩))
  ·intro L ys W hB hF hP K hK
   show OpE _ _ _ W K
   exact OpE.val (sv g_12 0 10 c_13) W (by kernel_rfl) (hK _ W hB rfl (fun _ _ h => h))
  ·intro L ys W hB hF hP K hK
   show OpE _ _ _ W K
   exact OpE.known (j := 8) (v := sv g_12 0 10 c_13) (hF 8 (hP.1 rfl)) (OpE.val (pv g_12 2) W (by kernel_rfl) (hK _ W hB rfl (fun _ _ h => h)))
  ·intro L ys W hB hF hP K hK
   show OpE _ _ _ W K
   exact OpE.known (j := 9) (v := pv g_12 2) (hF 9 (hP.1 rfl)) (OpE.load (g := g_12) (off := 2) (v := .string (strOf f2)) rfl (by kernel_rfl) ((hs_17.grow hB).pt_at (i := 0) rfl) (by kernel_rfl) (hK _ W hB rfl (fun _ _ h => h)))
  ·intro L ys W hB hF hP K hK
   show OpE _ _ _ W K
   exact OpE.known (j := 10) (v := .string (strOf f2)) (hF 10 (hP.1 rfl)) (OpE.call 35 #[.string (strOf f2)] W _ (by kernel_rfl) (dnum_y f2 W hf2 nf2 k2) (fun x w' hx => by obtain ⟨rfl, hg⟩ := hx; exact ⟨_, rfl, hK _ w' (hB.trans hg) rfl (fun _ _ h => FW.gr HGR hg h)⟩))
  ·intro L ys W hB hF hP K hK
   show OpE _ _ _ W K
   exact OpE.val (sv g_12 0 10 c_13) W (by kernel_rfl) (hK _ W hB rfl (fun _ _ h => h))
  ·intro L ys W hB hF hP K hK
   show OpE _ _ _ W K
   exact OpE.known (j := 12) (v := sv g_12 0 10 c_13) (hF 12 (hP.1 rfl)) (OpE.val (pv g_12 3) W (by kernel_rfl) (hK _ W hB rfl (fun _ _ h => h)))
  ·intro L ys W hB hF hP K hK
   show OpE _ _ _ W K
   exact OpE.known (j := 13) (v := pv g_12 3) (hF 13 (hP.1 rfl)) (OpE.load (g := g_12) (off := 3) (v := .string (strOf f3)) rfl (by kernel_rfl) ((hs_17.grow hB).pt_at (i := 0) rfl) (by kernel_rfl) (hK _ W hB rfl (fun _ _ h => h)))
  ·intro L ys W hB hF hP K hK
   show OpE _ _ _ W K
   exact OpE.known (j := 14) (v := .string (strOf f3)) (hF 14 (hP.1 rfl)) (OpE.call 36 #[.string (strOf f3), iv 31] W _ (by kernel_rfl) (few_y f3 31 W hf3 (by decide) (by omega) k3) (fun x w' hx => by obtain ⟨rfl, hg⟩ := hx; exact ⟨_, rfl, hK _ w' (hB.trans hg) rfl (fun _ _ h => FW.gr HGR hg h)⟩))
  ·intro L ys W hB hF hP K hK
   show OpE _ _ _ W K
   exact OpE.val (sv g_12 0 10 c_13) W (by kernel_rfl) (hK _ W hB rfl (fun _ _ h => h))
  ·intro L ys W hB hF hP K hK
   show OpE _ _ _ W K
   exact OpE.known (j := 16) (v := sv g_12 0 10 c_13) (hF 16 (hP.1 rfl)) (OpE.val (pv g_12 4) W (by kernel_rfl) (hK _ W hB rfl (fun _ _ h => h)))
  ·intro L ys W hB hF hP K hK
   show OpE _ _ _ W K
   exact OpE.known (j := 17) (v := pv g_12 4) (hF 17 (hP.1 rfl)) (OpE.load (g := g_12) (off := 4) (v := .string (strOf f4)) rfl (by kernel_rfl) ((hs_17.grow hB).pt_at (i := 0) rfl) (by kernel_rfl) (hK _ W hB rfl (fun _ _ h => h)))
  ·intro L ys W hB hF hP K hK
   show OpE _ _ _ W K
   exact OpE.known (j := 18) (v := .string (strOf f4)) (hF 18 (hP.1 rfl)) (OpE.call 36 #[.string (strOf f4), iv 1] W _ (by kernel_rfl) (few_y f4 1 W hf4 (by decide) (by omega) k4) (fun x w' hx => by obtain ⟨rfl, hg⟩ := hx; exact ⟨_, rfl, hK _ w' (hB.trans hg) rfl (fun _ _ h => FW.gr HGR hg h)⟩))
  ·intro L ys W hB hF hP K hK
   show OpE _ _ _ W K
   exact OpE.val (sv g_12 0 10 c_13) W (by kernel_rfl) (hK _ W hB rfl (fun _ _ h => h))
  ·intro L ys W hB hF hP K hK
   show OpE _ _ _ W K
   exact OpE.known (j := 20) (v := sv g_12 0 10 c_13) (hF 20 (hP.1 rfl)) (OpE.val (pv g_12 5) W (by kernel_rfl) (hK _ W hB rfl (fun _ _ h => h)))
  ·intro L ys W hB hF hP K hK
   show OpE _ _ _ W K
   exact OpE.known (j := 21) (v := pv g_12 5) (hF 21 (hP.1 rfl)) (OpE.load (g := g_12) (off := 5) (v := .string (strOf f5)) rfl (by kernel_rfl) ((hs_17.grow hB).pt_at (i := 0) rfl) (by kernel_rfl) (hK _ W hB rfl (fun _ _ h => h)))
  ·intro L ys W hB hF hP K hK
   show OpE _ _ _ W K
   exact OpE.known (j := 22) (v := .string (strOf f5)) (hF 22 (hP.1 rfl)) (OpE.call 36 #[.string (strOf f5), iv 15] W _ (by kernel_rfl) (few_y f5 15 W hf5 (by decide) (by omega) k5) (fun x w' hx => by obtain ⟨rfl, hg⟩ := hx; exact ⟨_, rfl, hK _ w' (hB.trans hg) rfl (fun _ _ h => FW.gr HGR hg h)⟩))
  ·intro L ys W hB hF hP K hK
   show OpE _ _ _ W K
   exact OpE.val (sv g_12 0 10 c_13) W (by kernel_rfl) (hK _ W hB rfl (fun _ _ h => h))
  ·intro L ys W hB hF hP K hK
   show OpE _ _ _ W K
   exact OpE.known (j := 24) (v := sv g_12 0 10 c_13) (hF 24 (hP.1 rfl)) (OpE.val (pv g_12 6) W (by kernel_rfl) (hK _ W hB rfl (fun _ _ h => h)))
  ·intro L ys W hB hF hP K hK
   show OpE _ _ _ W K
   exact OpE.known (j := 25) (v := pv g_12 6) (hF 25 (hP.1 rfl)) (OpE.load (g := g_12) (off := 6) (v := .string (strOf f6)) rfl (by kernel_rfl) ((hs_17.grow hB).pt_at (i := 0) rfl) (by kernel_rfl) (hK _ W hB rfl (fun _ _ h => h)))
  ·intro L ys W hB hF hP K hK
   show OpE _ _ _ W K
   exact OpE.known (j := 26) (v := .string (strOf f6)) (hF 26 (hP.1 rfl)) (OpE.call 35 #[.string (strOf f6)] W _ (by kernel_rfl) (dnum_y f6 W hf6 nf6 k6) (fun x w' hx => by obtain ⟨rfl, hg⟩ := hx; exact ⟨_, rfl, hK _ w' (hB.trans hg) rfl (fun _ _ h => FW.gr HGR hg h)⟩))
  ·intro L ys W hB hF hP K hK
   show OpE _ _ _ W K
   exact OpE.val (sv g_12 0 10 c_13) W (by kernel_rfl) (hK _ W hB rfl (fun _ _ h => h))
  ·intro L ys W hB hF hP K hK
   show OpE _ _ _ W K
   exact OpE.known (j := 28) (v := sv g_12 0 10 c_13) (hF 28 (hP.1 rfl)) (OpE.val (pv g_12 7) W (by kernel_rfl) (hK _ W hB rfl (fun _ _ h => h)))
  ·intro L ys W hB hF hP K hK
   show OpE _ _ _ W K
   exact OpE.known (j := 29) (v := pv g_12 7) (hF 29 (hP.1 rfl)) (OpE.load (g := g_12) (off := 7) (v := .string (strOf f7)) rfl (by kernel_rfl) ((hs_17.grow hB).pt_at (i := 0) rfl) (by kernel_rfl) (hK _ W hB rfl (fun _ _ h => h)))
  ·intro L ys W hB hF hP K hK
   show OpE _ _ _ W K
   exact OpE.known (j := 30) (v := .string (strOf f7)) (hF 30 (hP.1 rfl)) (OpE.call 35 #[.string (strOf f7)] W _ (by kernel_rfl) (dnum_y f7 W hf7 nf7 k7) (fun x w' hx => by obtain ⟨rfl, hg⟩ := hx; exact ⟨_, rfl, hK _ w' (hB.trans hg) rfl (fun _ _ h => FW.gr HGR hg h)⟩))
  ·intro L ys W hB hF hP K hK
   show OpE _ _ _ W K
   exact OpE.val (sv g_12 0 10 c_13) W (by kernel_rfl) (hK _ W hB rfl (fun _ _ h => h))
  ·intro L ys W hB hF hP K hK
   show OpE _ _ _ W K
   exact OpE.known (j := 32) (v := sv g_12 0 10 c_13) (hF 32 (hP.1 rfl)) (OpE.val (pv g_12 8) W (by kernel_rfl) (hK _ W hB rfl (fun _ _ h => h)))
  ·intro L ys W hB hF hP K hK
   show OpE _ _ _ W K
   exact OpE.known (j := 33) (v := pv g_12 8) (hF 33 (hP.1 rfl)) (OpE.load (g := g_12) (off := 8) (v := .string (strOf f8)) rfl (by kernel_rfl) ((hs_17.grow hB).pt_at (i := 0) rfl) (by kernel_rfl) (hK _ W hB rfl (fun _ _ h => h)))
  ·intro L ys W hB hF hP K hK
   show OpE _ _ _ W K
   exact OpE.known (j := 34) (v := .string (strOf f8)) (hF 34 (hP.1 rfl)) (OpE.call 36 #[.string (strOf f8), iv 15] W _ (by kernel_rfl) (few_y f8 15 W hf8 (by decide) (by omega) k8) (fun x w' hx => by obtain ⟨rfl, hg⟩ := hx; exact ⟨_, rfl, hK _ w' (hB.trans hg) rfl (fun _ _ h => FW.gr HGR hg h)⟩))
  ·intro L ys W hB hF hP K hK
   show OpE _ _ _ W K
   exact OpE.known (j := 3) (v := iv (numV f0)) (hF 3 (hP.1 rfl)) (OpE.known (j := 7) (v := iv (numV f1)) (hF 7 (hP.2.1 rfl)) (OpE.known (j := 11) (v := iv (numV f2)) (hF 11 (hP.2.2.1 rfl)) (OpE.known (j := 15) (v := iv (bitV f3 31)) (hF 15 (hP.2.2.2.1 rfl)) (OpE.known (j := 19) (v := iv (bitV f4 1)) (hF 19 (hP.2.2.2.2.1 rfl)) (OpE.known (j := 23) (v := iv (bitV f5 15)) (hF 23 (hP.2.2.2.2.2.1 rfl)) (OpE.known (j := 27) (v := iv (numV f6)) (hF 27 (hP.2.2.2.2.2.2.1 rfl)) (OpE.known (j := 31) (v := iv (numV f7)) (hF 31 (hP.2.2.2.2.2.2.2.1 rfl)) (OpE.known (j := 35) (v := iv (bitV f8 15)) (hF 35 (hP.2.2.2.2.2.2.2.2.1 rfl)) (OpE.val (.agg (qStV_4 f0 f1 f2 f3 f4 f5 f6 f7 f8)) W (by kernel_rfl) (hK _ W hB rfl (fun _ _ h => h)))))))))))
  ·intro L ys W hB hF hP K hK
   show OpE _ _ _ W K
   exact OpE.new (mk := fun g => pv g 0) (C := (qStV_9)) (T := 90) (by kernel_rfl) (hK _ _ (hB.alloc _) ⟨W.heap.size, rfl, heap_alloc_new _ _, hB.size⟩ (fun _ _ h => FW.gr HGR ((Gr.refl W).alloc _) h))
 ·intro ys_21 w_18 hs_19 hF_20
  have hg_22 := hs_19
  have hs_19 : SH [] w w_18 [pt g_12 ⟨(qStV_2 f0 f1 f2 f3 f4 f5 f6 f7 f8 f9) ++ pad_14⟩ 9, pt g_1 (cdA c.clean) 33, pt g_4 czD 33] := hs_17.grow hg_22
  obtain ⟨g_23, hvq37, hbq37, hgq37⟩ := hF_20 37 (by decide)
  have hs_24 := hs_17.fresh hg_22 hbq37 hgq37
  have hs_24 : SH [] w w_18 [pt g_12 ⟨(qStV_2 f0 f1 f2 f3 f4 f5 f6 f7 f8 f9) ++ pad_14⟩ 9, pt g_1 (cdA c.clean) 33, pt g_4 czD 33, pt g_23 (qStV_9) 90] := hs_24
  refine SL.knownY (j := 36) (v := .agg (qStV_4 f0 f1 f2 f3 f4 f5 f6 f7 f8)) (show ys_21 36 = .agg (qStV_4 f0 f1 f2 f3 f4 f5 f6 f7 f8) from hF_20 36 (by decide)) (SL.knownY (j := 37) (v := pv g_23 0) hvq37 (?_))
  clear hF_20 HGR
  refine SL.storeH (i := 3) (g := g_23) (off := 0) (v := .agg (qStV_4 f0 f1 f2 f3 f4 f5 f6 f7 f8)) (L' := [pt g_12 ⟨(qStV_2 f0 f1 f2 f3 f4 f5 f6 f7 f8 f9) ++ pad_14⟩ 9, pt g_1 (cdA c.clean) 33, pt g_4 czD 33, pt g_23 (qStV_4 f0 f1 f2 f3 f4 f5 f6 f7 f8) 90]) hs_24 rfl rfl rfl (by kernel_rfl) (by kernel_rfl) rfl (by kernel_rfl) (by kernel_rfl) rfl (by kernel_rfl) rfl (fun w_25 hs_26 => ?_)
  refine SL.nil ?_
  refine CW.seq ?_
  refine CW.seq ?_
  refine CW.region ?_
  refine SL.v (iv 0) ?_
  refine SL.nil ?_
  refine CW.block ?_
  refine CW.loopN 10 ?_
  refine CR.more ?_
  refine CW.seq ?_
  refine CW.seq ?_
  refine CW.region ?_
  refine SL.v (iv 0) ?_
  refine SL.v (.bool true) ?_
  refine SL.nil ?_
  refine CW.cond_true (by kernel_rfl) ?_
  refine CW.skip ?_
  refine CW.seq ?_
  refine CW.block ?_
  refine CW.seq ?_
  refine CW.region ?_
  refine SL.v (iv 0) ?_
  refine SL.v (pv g_23 0) ?_
  refine SL.load (g := g_23) (off := 0) (v := iv (numV f0)) rfl rfl rfl (by kernel_rfl) (hs_26.pt_at (i := 3) rfl) (by kernel_rfl) ?_
  refine SL.v (.bool (decide ((numV f0) < 0))) ?_
  refine SL.nil ?_
  have hb_27 : (decide ((numV f0) < 0)) = false := (by simp; omega)
  rw [hb_27]
  have hqhb_27 := of_decide_eq_false hb_27
  refine CW.cond_false (by kernel_rfl) ?_
  refine CW.skip ?_
  refine CW.region ?_
  refine SL.v (iv 0) ?_
  refine SL.v (iv 1) ?_
  refine SL.v (iv 1) ?_
  refine SL.nil ?_
  refine CR.fresh (fun e9 => e9 2 = pv g_1 0 ∧ e9 4 = pv g_4 0 ∧ e9 5 = .bool false ∧ e9 6 = sv g_12 0 10 c_13 ∧ e9 7 = pv g_23 0 ∧ e9 8 = iv 1) ⟨(by kernel_rfl), (by kernel_rfl), (by kernel_rfl), (by kernel_rfl), (by kernel_rfl), (by kernel_rfl)⟩ ?_
  rintro e_28 ⟨hv_30, hv_31, hv_32, hv_33, hv_34, hv_35⟩
  obtain ⟨e_29, rfl⟩ : ∃ e_29, e_28 = put1 (put1 (put1 (put1 (put1 (put1 e_29 2 (pv g_1 0)) 4 (pv g_4 0)) 5 (.bool false)) 6 (sv g_12 0 10 c_13)) 7 (pv g_23 0)) 8 (iv 1) := ⟨e_28, (put_self hv_35).trans (congrArg (fun z => put1 z 8 (iv 1)) ((put_self hv_34).trans (congrArg (fun z => put1 z 7 (pv g_23 0)) ((put_self hv_33).trans (congrArg (fun z => put1 z 6 (sv g_12 0 10 c_13)) ((put_self hv_32).trans (congrArg (fun z => put1 z 5 (.bool false)) ((put_self hv_31).trans (congrArg (fun z => put1 z 4 (pv g_4 0)) (put_self hv_30))))))))))⟩
  clear hv_30 hv_31 hv_32 hv_33 hv_34 hv_35
  refine CR.more ?_
  refine CW.seq ?_
  refine CW.seq ?_
  refine CW.region ?_
  refine SL.v (iv 1) ?_
  refine SL.v (.bool true) ?_
  refine SL.nil ?_
  refine CW.cond_true (by kernel_rfl) ?_
  refine CW.skip ?_
  refine CW.seq ?_
  refine CW.block ?_
  refine CW.seq ?_
  refine CW.region ?_
  refine SL.v (iv 1) ?_
  refine SL.v (pv g_23 1) ?_
  refine SL.load (g := g_23) (off := 1) (v := iv (numV f1)) rfl rfl rfl (by kernel_rfl) (hs_26.pt_at (i := 3) rfl) (by kernel_rfl) ?_
  refine SL.v (.bool (decide ((numV f1) < 0))) ?_
  refine SL.nil ?_
  have hb_36 : (decide ((numV f1) < 0)) = false := (by simp; omega)
  rw [hb_36]
  have hqhb_36 := of_decide_eq_false hb_36
  refine CW.cond_false (by kernel_rfl) ?_
  refine CW.skip ?_
  refine CW.region ?_
  refine SL.v (iv 1) ?_
  refine SL.v (iv 2) ?_
  refine SL.v (iv 2) ?_
  refine SL.nil ?_
  refine CR.fresh (fun e9 => e9 2 = pv g_1 0 ∧ e9 4 = pv g_4 0 ∧ e9 5 = .bool false ∧ e9 6 = sv g_12 0 10 c_13 ∧ e9 7 = pv g_23 0 ∧ e9 8 = iv 2) ⟨(by kernel_rfl), (by kernel_rfl), (by kernel_rfl), (by kernel_rfl), (by kernel_rfl), (by kernel_rfl)⟩ ?_
  rintro e_37 ⟨hv_39, hv_40, hv_41, hv_42, hv_43, hv_44⟩
  obtain ⟨e_38, rfl⟩ : ∃ e_38, e_37 = put1 (put1 (put1 (put1 (put1 (put1 e_38 2 (pv g_1 0)) 4 (pv g_4 0)) 5 (.bool false)) 6 (sv g_12 0 10 c_13)) 7 (pv g_23 0)) 8 (iv 2) := ⟨e_37, (put_self hv_44).trans (congrArg (fun z => put1 z 8 (iv 2)) ((put_self hv_43).trans (congrArg (fun z => put1 z 7 (pv g_23 0)) ((put_self hv_42).trans (congrArg (fun z => put1 z 6 (sv g_12 0 10 c_13)) ((put_self hv_41).trans (congrArg (fun z => put1 z 5 (.bool false)) ((put_self hv_40).trans (congrArg (fun z => put1 z 4 (pv g_4 0)) (put_self hv_39))))))))))⟩
  clear hv_39 hv_40 hv_41 hv_42 hv_43 hv_44
  refine CR.more ?_
  refine CW.seq ?_
  refine CW.seq ?_
  refine CW.region ?_
  refine SL.v (iv 2) ?_
  refine SL.v (.bool true) ?_
  refine SL.nil ?_
  refine CW.cond_true (by kernel_rfl) ?_
  refine CW.skip ?_
  refine CW.seq ?_
  refine CW.block ?_
  refine CW.seq ?_
  refine CW.region ?_
  refine SL.v (iv 2) ?_
  refine SL.v (pv g_23 2) ?_
  refine SL.load (g := g_23) (off := 2) (v := iv (numV f2)) rfl rfl rfl (by kernel_rfl) (hs_26.pt_at (i := 3) rfl) (by kernel_rfl) ?_
  refine SL.v (.bool (decide ((numV f2) < 0))) ?_
  refine SL.nil ?_
  have hb_45 : (decide ((numV f2) < 0)) = false := (by simp; omega)
  rw [hb_45]
  have hqhb_45 := of_decide_eq_false hb_45
  refine CW.cond_false (by kernel_rfl) ?_
  refine CW.skip ?_
  refine CW.region ?_
  refine SL.v (iv 2) ?_
  refine SL.v (iv 3) ?_
  refine SL.v (iv 3) ?_
  refine SL.nil ?_
  refine CR.fresh (fun e9 => e9 2 = pv g_1 0 ∧ e9 4 = pv g_4 0 ∧ e9 5 = .bool false ∧ e9 6 = sv g_12 0 10 c_13 ∧ e9 7 = pv g_23 0 ∧ e9 8 = iv 3) ⟨(by kernel_rfl), (by kernel_rfl), (by kernel_rfl), (by kernel_rfl), (by kernel_rfl), (by kernel_rfl)⟩ ?_
  rintro e_46 ⟨hv_48, hv_49, hv_50, hv_51, hv_52, hv_53⟩
  obtain ⟨e_47, rfl⟩ : ∃ e_47, e_46 = put1 (put1 (put1 (put1 (put1 (put1 e_47 2 (pv g_1 0)) 4 (pv g_4 0)) 5 (.bool false)) 6 (sv g_12 0 10 c_13)) 7 (pv g_23 0)) 8 (iv 3) := ⟨e_46, (put_self hv_53).trans (congrArg (fun z => put1 z 8 (iv 3)) ((put_self hv_52).trans (congrArg (fun z => put1 z 7 (pv g_23 0)) ((put_self hv_51).trans (congrArg (fun z => put1 z 6 (sv g_12 0 10 c_13)) ((put_self hv_50).trans (congrArg (fun z => put1 z 5 (.bool false)) ((put_self hv_49).trans (congrArg (fun z => put1 z 4 (pv g_4 0)) (put_self hv_48))))))))))⟩
  clear hv_48 hv_49 hv_50 hv_51 hv_52 hv_53
  refine CR.more ?_
  refine CW.seq ?_
  refine CW.seq ?_
  refine CW.region ?_
  refine SL.v (iv 3) ?_
  refine SL.v (.bool true) ?_
  refine SL.nil ?_
  refine CW.cond_true (by kernel_rfl) ?_
  refine CW.skip ?_
  refine CW.seq ?_
  refine CW.block ?_
  refine CW.seq ?_
  refine CW.region ?_
  refine SL.v (iv 3) ?_
  refine SL.v (pv g_23 3) ?_
  refine SL.load (g := g_23) (off := 3) (v := iv (bitV f3 31)) rfl rfl rfl (by kernel_rfl) (hs_26.pt_at (i := 3) rfl) (by kernel_rfl) ?_
  refine SL.v (.bool (decide ((bitV f3 31) < 0))) ?_
  refine SL.nil ?_
  have hb_54 : (decide ((bitV f3 31) < 0)) = false := (by simp; omega)
  rw [hb_54]
  have hqhb_54 := of_decide_eq_false hb_54
  refine CW.cond_false (by kernel_rfl) ?_
  refine CW.skip ?_
  refine CW.region ?_
  refine SL.v (iv 3) ?_
  refine SL.v (iv 4) ?_
  refine SL.v (iv 4) ?_
  refine SL.nil ?_
  refine CR.fresh (fun e9 => e9 2 = pv g_1 0 ∧ e9 4 = pv g_4 0 ∧ e9 5 = .bool false ∧ e9 6 = sv g_12 0 10 c_13 ∧ e9 7 = pv g_23 0 ∧ e9 8 = iv 4) ⟨(by kernel_rfl), (by kernel_rfl), (by kernel_rfl), (by kernel_rfl), (by kernel_rfl), (by kernel_rfl)⟩ ?_
  rintro e_55 ⟨hv_57, hv_58, hv_59, hv_60, hv_61, hv_62⟩
  obtain ⟨e_56, rfl⟩ : ∃ e_56, e_55 = put1 (put1 (put1 (put1 (put1 (put1 e_56 2 (pv g_1 0)) 4 (pv g_4 0)) 5 (.bool false)) 6 (sv g_12 0 10 c_13)) 7 (pv g_23 0)) 8 (iv 4) := ⟨e_55, (put_self hv_62).trans (congrArg (fun z => put1 z 8 (iv 4)) ((put_self hv_61).trans (congrArg (fun z => put1 z 7 (pv g_23 0)) ((put_self hv_60).trans (congrArg (fun z => put1 z 6 (sv g_12 0 10 c_13)) ((put_self hv_59).trans (congrArg (fun z => put1 z 5 (.bool false)) ((put_self hv_58).trans (congrArg (fun z => put1 z 4 (pv g_4 0)) (put_self hv_57))))))))))⟩
  clear hv_57 hv_58 hv_59 hv_60 hv_61 hv_62
  refine CR.more ?_
  refine CW.seq ?_
  refine CW.seq ?_
  refine CW.region ?_
  refine SL.v (iv 4) ?_
  refine SL.v (.bool true) ?_
  refine SL.nil ?_
  refine CW.cond_true (by kernel_rfl) ?_
  refine CW.skip ?_
  refine CW.seq ?_
  refine CW.block ?_
  refine CW.seq ?_
  refine CW.region ?_
  refine SL.v (iv 4) ?_
  refine SL.v (pv g_23 4) ?_
  refine SL.load (g := g_23) (off := 4) (v := iv (bitV f4 1)) rfl rfl rfl (by kernel_rfl) (hs_26.pt_at (i := 3) rfl) (by kernel_rfl) ?_
  refine SL.v (.bool (decide ((bitV f4 1) < 0))) ?_
  refine SL.nil ?_
  have hb_63 : (decide ((bitV f4 1) < 0)) = false := (by simp; omega)
  rw [hb_63]
  have hqhb_63 := of_decide_eq_false hb_63
  refine CW.cond_false (by kernel_rfl) ?_
  refine CW.skip ?_
  refine CW.region ?_
  refine SL.v (iv 4) ?_
  refine SL.v (iv 5) ?_
  refine SL.v (iv 5) ?_
  refine SL.nil ?_
  refine CR.fresh (fun e9 => e9 2 = pv g_1 0 ∧ e9 4 = pv g_4 0 ∧ e9 5 = .bool false ∧ e9 6 = sv g_12 0 10 c_13 ∧ e9 7 = pv g_23 0 ∧ e9 8 = iv 5) ⟨(by kernel_rfl), (by kernel_rfl), (by kernel_rfl), (by kernel_rfl), (by kernel_rfl), (by kernel_rfl)⟩ ?_
  rintro e_64 ⟨hv_66, hv_67, hv_68, hv_69, hv_70, hv_71⟩
  obtain ⟨e_65, rfl⟩ : ∃ e_65, e_64 = put1 (put1 (put1 (put1 (put1 (put1 e_65 2 (pv g_1 0)) 4 (pv g_4 0)) 5 (.bool false)) 6 (sv g_12 0 10 c_13)) 7 (pv g_23 0)) 8 (iv 5) := ⟨e_64, (put_self hv_71).trans (congrArg (fun z => put1 z 8 (iv 5)) ((put_self hv_70).trans (congrArg (fun z => put1 z 7 (pv g_23 0)) ((put_self hv_69).trans (congrArg (fun z => put1 z 6 (sv g_12 0 10 c_13)) ((put_self hv_68).trans (congrArg (fun z => put1 z 5 (.bool false)) ((put_self hv_67).trans (congrArg (fun z => put1 z 4 (pv g_4 0)) (put_self hv_66))))))))))⟩
  clear hv_66 hv_67 hv_68 hv_69 hv_70 hv_71
  refine CR.more ?_
  refine CW.seq ?_
  refine CW.seq ?_
  refine CW.region ?_
  refine SL.v (iv 5) ?_
  refine SL.v (.bool true) ?_
  refine SL.nil ?_
  refine CW.cond_true (by kernel_rfl) ?_
  refine CW.skip ?_
  refine CW.seq ?_
  refine CW.block ?_
  refine CW.seq ?_
  refine CW.region ?_
  refine SL.v (iv 5) ?_
  refine SL.v (pv g_23 5) ?_
  refine SL.load (g := g_23) (off := 5) (v := iv (bitV f5 15)) rfl rfl rfl (by kernel_rfl) (hs_26.pt_at (i := 3) rfl) (by kernel_rfl) ?_
  refine SL.v (.bool (decide ((bitV f5 15) < 0))) ?_
  refine SL.nil ?_
  have hb_72 : (decide ((bitV f5 15) < 0)) = false := (by simp; omega)
  rw [hb_72]
  have hqhb_72 := of_decide_eq_false hb_72
  refine CW.cond_false (by kernel_rfl) ?_
  refine CW.skip ?_
  refine CW.region ?_
  refine SL.v (iv 5) ?_
  refine SL.v (iv 6) ?_
  refine SL.v (iv 6) ?_
  refine SL.nil ?_
  refine CR.fresh (fun e9 => e9 2 = pv g_1 0 ∧ e9 4 = pv g_4 0 ∧ e9 5 = .bool false ∧ e9 6 = sv g_12 0 10 c_13 ∧ e9 7 = pv g_23 0 ∧ e9 8 = iv 6) ⟨(by kernel_rfl), (by kernel_rfl), (by kernel_rfl), (by kernel_rfl), (by kernel_rfl), (by kernel_rfl)⟩ ?_
  rintro e_73 ⟨hv_75, hv_76, hv_77, hv_78, hv_79, hv_80⟩
  obtain ⟨e_74, rfl⟩ : ∃ e_74, e_73 = put1 (put1 (put1 (put1 (put1 (put1 e_74 2 (pv g_1 0)) 4 (pv g_4 0)) 5 (.bool false)) 6 (sv g_12 0 10 c_13)) 7 (pv g_23 0)) 8 (iv 6) := ⟨e_73, (put_self hv_80).trans (congrArg (fun z => put1 z 8 (iv 6)) ((put_self hv_79).trans (congrArg (fun z => put1 z 7 (pv g_23 0)) ((put_self hv_78).trans (congrArg (fun z => put1 z 6 (sv g_12 0 10 c_13)) ((put_self hv_77).trans (congrArg (fun z => put1 z 5 (.bool false)) ((put_self hv_76).trans (congrArg (fun z => put1 z 4 (pv g_4 0)) (put_self hv_75))))))))))⟩
  clear hv_75 hv_76 hv_77 hv_78 hv_79 hv_80
  refine CR.more ?_
  refine CW.seq ?_
  refine CW.seq ?_
  refine CW.region ?_
  refine SL.v (iv 6) ?_
  refine SL.v (.bool true) ?_
  refine SL.nil ?_
  refine CW.cond_true (by kernel_rfl) ?_
  refine CW.skip ?_
  refine CW.seq ?_
  refine CW.block ?_
  refine CW.seq ?_
  refine CW.region ?_
  refine SL.v (iv 6) ?_
  refine SL.v (pv g_23 6) ?_
  refine SL.load (g := g_23) (off := 6) (v := iv (numV f6)) rfl rfl rfl (by kernel_rfl) (hs_26.pt_at (i := 3) rfl) (by kernel_rfl) ?_
  refine SL.v (.bool (decide ((numV f6) < 0))) ?_
  refine SL.nil ?_
  have hb_81 : (decide ((numV f6) < 0)) = false := (by simp; omega)
  rw [hb_81]
  have hqhb_81 := of_decide_eq_false hb_81
  refine CW.cond_false (by kernel_rfl) ?_
  refine CW.skip ?_
  refine CW.region ?_
  refine SL.v (iv 6) ?_
  refine SL.v (iv 7) ?_
  refine SL.v (iv 7) ?_
  refine SL.nil ?_
  refine CR.fresh (fun e9 => e9 2 = pv g_1 0 ∧ e9 4 = pv g_4 0 ∧ e9 5 = .bool false ∧ e9 6 = sv g_12 0 10 c_13 ∧ e9 7 = pv g_23 0 ∧ e9 8 = iv 7) ⟨(by kernel_rfl), (by kernel_rfl), (by kernel_rfl), (by kernel_rfl), (by kernel_rfl), (by kernel_rfl)⟩ ?_
  rintro e_82 ⟨hv_84, hv_85, hv_86, hv_87, hv_88, hv_89⟩
  obtain ⟨e_83, rfl⟩ : ∃ e_83, e_82 = put1 (put1 (put1 (put1 (put1 (put1 e_83 2 (pv g_1 0)) 4 (pv g_4 0)) 5 (.bool false)) 6 (sv g_12 0 10 c_13)) 7 (pv g_23 0)) 8 (iv 7) := ⟨e_82, (put_self hv_89).trans (congrArg (fun z => put1 z 8 (iv 7)) ((put_self hv_88).trans (congrArg (fun z => put1 z 7 (pv g_23 0)) ((put_self hv_87).trans (congrArg (fun z => put1 z 6 (sv g_12 0 10 c_13)) ((put_self hv_86).trans (congrArg (fun z => put1 z 5 (.bool false)) ((put_self hv_85).trans (congrArg (fun z => put1 z 4 (pv g_4 0)) (put_self hv_84))))))))))⟩
  clear hv_84 hv_85 hv_86 hv_87 hv_88 hv_89
  refine CR.more ?_
  refine CW.seq ?_
  refine CW.seq ?_
  refine CW.region ?_
  refine SL.v (iv 7) ?_
  refine SL.v (.bool true) ?_
  refine SL.nil ?_
  refine CW.cond_true (by kernel_rfl) ?_
  refine CW.skip ?_
  refine CW.seq ?_
  refine CW.block ?_
  refine CW.seq ?_
  refine CW.region ?_
  refine SL.v (iv 7) ?_
  refine SL.v (pv g_23 7) ?_
  refine SL.load (g := g_23) (off := 7) (v := iv (numV f7)) rfl rfl rfl (by kernel_rfl) (hs_26.pt_at (i := 3) rfl) (by kernel_rfl) ?_
  refine SL.v (.bool (decide ((numV f7) < 0))) ?_
  refine SL.nil ?_
  have hb_90 : (decide ((numV f7) < 0)) = false := (by simp; omega)
  rw [hb_90]
  have hqhb_90 := of_decide_eq_false hb_90
  refine CW.cond_false (by kernel_rfl) ?_
  refine CW.skip ?_
  refine CW.region ?_
  refine SL.v (iv 7) ?_
  refine SL.v (iv 8) ?_
  refine SL.v (iv 8) ?_
  refine SL.nil ?_
  refine CR.fresh (fun e9 => e9 2 = pv g_1 0 ∧ e9 4 = pv g_4 0 ∧ e9 5 = .bool false ∧ e9 6 = sv g_12 0 10 c_13 ∧ e9 7 = pv g_23 0 ∧ e9 8 = iv 8) ⟨(by kernel_rfl), (by kernel_rfl), (by kernel_rfl), (by kernel_rfl), (by kernel_rfl), (by kernel_rfl)⟩ ?_
  rintro e_91 ⟨hv_93, hv_94, hv_95, hv_96, hv_97, hv_98⟩
  obtain ⟨e_92, rfl⟩ : ∃ e_92, e_91 = put1 (put1 (put1 (put1 (put1 (put1 e_92 2 (pv g_1 0)) 4 (pv g_4 0)) 5 (.bool false)) 6 (sv g_12 0 10 c_13)) 7 (pv g_23 0)) 8 (iv 8) := ⟨e_91, (put_self hv_98).trans (congrArg (fun z => put1 z 8 (iv 8)) ((put_self hv_97).trans (congrArg (fun z => put1 z 7 (pv g_23 0)) ((put_self hv_96).trans (congrArg (fun z => put1 z 6 (sv g_12 0 10 c_13)) ((put_self hv_95).trans (congrArg (fun z => put1 z 5 (.bool false)) ((put_self hv_94).trans (congrArg (fun z => put1 z 4 (pv g_4 0)) (put_self hv_93))))))))))⟩
  clear hv_93 hv_94 hv_95 hv_96 hv_97 hv_98
  refine CR.more ?_
  refine CW.seq ?_
  refine CW.seq ?_
  refine CW.region ?_
  refine SL.v (iv 8) ?_
  refine SL.v (.bool true) ?_
  refine SL.nil ?_
  refine CW.cond_true (by kernel_rfl) ?_
  refine CW.skip ?_
  refine CW.seq ?_
  refine CW.block ?_
  refine CW.seq ?_
  refine CW.region ?_
  refine SL.v (iv 8) ?_
  refine SL.v (pv g_23 8) ?_
  refine SL.load (g := g_23) (off := 8) (v := iv (bitV f8 15)) rfl rfl rfl (by kernel_rfl) (hs_26.pt_at (i := 3) rfl) (by kernel_rfl) ?_
  refine SL.v (.bool (decide ((bitV f8 15) < 0))) ?_
  refine SL.nil ?_
  have hb_99 : (decide ((bitV f8 15) < 0)) = false := (by simp; omega)
  rw [hb_99]
  have hqhb_99 := of_decide_eq_false hb_99
  refine CW.cond_false (by kernel_rfl) ?_
  refine CW.skip ?_
  refine CW.region ?_
  refine SL.v (iv 8) ?_
  refine SL.v (iv 9) ?_
  refine SL.v (iv 9) ?_
  refine SL.nil ?_
  refine CR.fresh (fun e9 => e9 2 = pv g_1 0 ∧ e9 4 = pv g_4 0 ∧ e9 5 = .bool false ∧ e9 6 = sv g_12 0 10 c_13 ∧ e9 7 = pv g_23 0 ∧ e9 8 = iv 9) ⟨(by kernel_rfl), (by kernel_rfl), (by kernel_rfl), (by kernel_rfl), (by kernel_rfl), (by kernel_rfl)⟩ ?_
  rintro e_100 ⟨hv_102, hv_103, hv_104, hv_105, hv_106, hv_107⟩
  obtain ⟨e_101, rfl⟩ : ∃ e_101, e_100 = put1 (put1 (put1 (put1 (put1 (put1 e_101 2 (pv g_1 0)) 4 (pv g_4 0)) 5 (.bool false)) 6 (sv g_12 0 10 c_13)) 7 (pv g_23 0)) 8 (iv 9) := ⟨e_100, (put_self hv_107).trans (congrArg (fun z => put1 z 8 (iv 9)) ((put_self hv_106).trans (congrArg (fun z => put1 z 7 (pv g_23 0)) ((put_self hv_105).trans (congrArg (fun z => put1 z 6 (sv g_12 0 10 c_13)) ((put_self hv_104).trans (congrArg (fun z => put1 z 5 (.bool false)) ((put_self hv_103).trans (congrArg (fun z => put1 z 4 (pv g_4 0)) (put_self hv_102))))))))))⟩
  clear hv_102 hv_103 hv_104 hv_105 hv_106 hv_107
  refine CR.more ?_
  refine CW.seq ?_
  refine CW.seq ?_
  refine CW.region ?_
  refine SL.v (iv 9) ?_
  refine SL.v (.bool false) ?_
  refine SL.nil ?_
  refine CW.cond_false (by kernel_rfl) ?_
  refine CW.exit ?_
  repeat with_reducible first | refine PThen.exit ?_ | refine PBlock.out rfl ?_
  with_reducible refine PBlock.here ?_
  repeat with_reducible refine PBlock.normal ?_
  refine CW.seq ?_
  have KPY : KeepY 19 18 0 [fun ys _ => ys 0 = pv g_1 0, fun ys _ => ys 1 = pv g_1 6, fun ys _ => ys 2 = .agg (qStV_8 c), fun ys _ => ys 3 = pv g_23 6, fun ys _ => ys 4 = iv (numV f6), fun ys _ => ys 5 = pv g_23 7, fun ys _ => ys 6 = iv (numV f7), fun ys _ => ys 7 = pv g_23 8, fun ys _ => ys 8 = iv (bitV f8 15), fun ys _ => ys 9 = iv (64 + (bitV f8 15)), fun ys _ => ys 10 = .int .u8 (64 + (bitV f8 15)), fun ys _ => ys 11 = sv g_12 0 10 c_13, fun ys _ => ys 12 = pv g_12 9, fun ys _ => ys 13 = .string (strOf f9), fun ys _ => ys 14 = .tuple #[.agg (qStV_3 Z), .bool Z.2], fun ys _ => ys 15 = .tuple #[.agg (qStV_3 Z), .bool Z.2], fun ys _ => ys 16 = .agg (qStV_3 Z), fun ys _ => ys 17 = .bool Z.2, OwnB w_25 18 7 25, PutB w_25 18 (qStV_3 Z) 25] := ⟨fun i_ hne hal ys v W W1 hg hf => (setYne hne).trans hf, ⟨fun i_ hne hal ys v W W1 hg hf => (setYne hne).trans hf, ⟨fun i_ hne hal ys v W W1 hg hf => (setYne hne).trans hf, ⟨fun i_ hne hal ys v W W1 hg hf => (setYne hne).trans hf, ⟨fun i_ hne hal ys v W W1 hg hf => (setYne hne).trans hf, ⟨fun i_ hne hal ys v W W1 hg hf => (setYne hne).trans hf, ⟨fun i_ hne hal ys v W W1 hg hf => (setYne hne).trans hf, ⟨fun i_ hne hal ys v W W1 hg hf => (setYne hne).trans hf, ⟨fun i_ hne hal ys v W W1 hg hf => (setYne hne).trans hf, ⟨fun i_ hne hal ys v W W1 hg hf => (setYne hne).trans hf, ⟨fun i_ hne hal ys v W W1 hg hf => (setYne hne).trans hf, ⟨fun i_ hne hal ys v W W1 hg hf => (setYne hne).trans hf, ⟨fun i_ hne hal ys v W W1 hg hf => (setYne hne).trans hf, ⟨fun i_ hne hal ys v W W1 hg hf => (setYne hne).trans hf, ⟨fun i_ hne hal ys v W W1 hg hf => (setYne hne).trans hf, ⟨fun i_ hne hal ys v W W1 hg hf => (setYne hne).trans hf, ⟨fun i_ hne hal ys v W W1 hg hf => (setYne hne).trans hf, ⟨fun i_ hne hal ys v W W1 hg hf => (setYne hne).trans hf, ⟨fun i_ hne hal ys v W W1 hg hf => OwnB.keep hf hne hg, ⟨fun i_ hne hal ys v W W1 hg hf => PutB.keep hf (hal rfl).symm hg, trivial⟩⟩⟩⟩⟩⟩⟩⟩⟩⟩⟩⟩⟩⟩⟩⟩⟩⟩⟩⟩
  have KPS : PutY 19 18 w_25 (qStV_3 Z) 25 0 [fun ys _ => ys 0 = pv g_1 0, fun ys _ => ys 1 = pv g_1 6, fun ys _ => ys 2 = .agg (qStV_8 c), fun ys _ => ys 3 = pv g_23 6, fun ys _ => ys 4 = iv (numV f6), fun ys _ => ys 5 = pv g_23 7, fun ys _ => ys 6 = iv (numV f7), fun ys _ => ys 7 = pv g_23 8, fun ys _ => ys 8 = iv (bitV f8 15), fun ys _ => ys 9 = iv (64 + (bitV f8 15)), fun ys _ => ys 10 = .int .u8 (64 + (bitV f8 15)), fun ys _ => ys 11 = sv g_12 0 10 c_13, fun ys _ => ys 12 = pv g_12 9, fun ys _ => ys 13 = .string (strOf f9), fun ys _ => ys 14 = .tuple #[.agg (qStV_3 Z), .bool Z.2], fun ys _ => ys 15 = .tuple #[.agg (qStV_3 Z), .bool Z.2], fun ys _ => ys 16 = .agg (qStV_3 Z), fun ys _ => ys 17 = .bool Z.2, OwnB w_25 18 7 25, PutB w_25 18 (qStV_3 Z) 25] := ⟨fun hne ys v W W1 g hv hge hb hf => (setYne hne).trans hf, ⟨fun hne ys v W W1 g hv hge hb hf => (setYne hne).trans hf, ⟨fun hne ys v W W1 g hv hge hb hf => (setYne hne).trans hf, ⟨fun hne ys v W W1 g hv hge hb hf => (setYne hne).trans hf, ⟨fun hne ys v W W1 g hv hge hb hf => (setYne hne).trans hf, ⟨fun hne ys v W W1 g hv hge hb hf => (setYne hne).trans hf, ⟨fun hne ys v W W1 g hv hge hb hf => (setYne hne).trans hf, ⟨fun hne ys v W W1 g hv hge hb hf => (setYne hne).trans hf, ⟨fun hne ys v W W1 g hv hge hb hf => (setYne hne).trans hf, ⟨fun hne ys v W W1 g hv hge hb hf => (setYne hne).trans hf, ⟨fun hne ys v W W1 g hv hge hb hf => (setYne hne).trans hf, ⟨fun hne ys v W W1 g hv hge hb hf => (setYne hne).trans hf, ⟨fun hne ys v W W1 g hv hge hb hf => (setYne hne).trans hf, ⟨fun hne ys v W W1 g hv hge hb hf => (setYne hne).trans hf, ⟨fun hne ys v W W1 g hv hge hb hf => (setYne hne).trans hf, ⟨fun hne ys v W W1 g hv hge hb hf => (setYne hne).trans hf, ⟨fun hne ys v W W1 g hv hge hb hf => (setYne hne).trans hf, ⟨fun hne ys v W W1 g hv hge hb hf => (setYne hne).trans hf, ⟨fun hne ys v W W1 g hv hge hb hf => OwnB.put hf (by decide) hv hge hb rfl, ⟨fun hne ys v W W1 g hv hge hb hf => absurd rfl hne, trivial⟩⟩⟩⟩⟩⟩⟩⟩⟩⟩⟩⟩⟩⟩⟩⟩⟩⟩⟩⟩
  refine CW.drawY 20 (FWY [fun ys _ => ys 0 = pv g_1 0, fun ys _ => ys 1 = pv g_1 6, fun ys _ => ys 2 = .agg (qStV_8 c), fun ys _ => ys 3 = pv g_23 6, fun ys _ => ys 4 = iv (numV f6), fun ys _ => ys 5 = pv g_23 7, fun ys _ => ys 6 = iv (numV f7), fun ys _ => ys 7 = pv g_23 8, fun ys _ => ys 8 = iv (bitV f8 15), fun ys _ => ys 9 = iv (64 + (bitV f8 15)), fun ys _ => ys 10 = .int .u8 (64 + (bitV f8 15)), fun ys _ => ys 11 = sv g_12 0 10 c_13, fun ys _ => ys 12 = pv g_12 9, fun ys _ => ys 13 = .string (strOf f9), fun ys _ => ys 14 = .tuple #[.agg (qStV_3 Z), .bool Z.2], fun ys _ => ys 15 = .tuple #[.agg (qStV_3 Z), .bool Z.2], fun ys _ => ys 16 = .agg (qStV_3 Z), fun ys _ => ys 17 = .bool Z.2, OwnB w_25 18 7 25, PutB w_25 18 (qStV_3 Z) 25]) (fun _ W => Gr w_25 W) (by kernel_rfl) (by kernel_rfl) (by kernel_rfl) (by kernel_rfl) (by kernel_rfl) (Gr.refl _).drew ?_ ?_
  ·refine ⟨?_, ⟨?_, ⟨?_, ⟨?_, ⟨?_, ⟨?_, ⟨?_, ⟨?_, ⟨?_, ⟨?_, ⟨?_, ⟨?_, ⟨?_, ⟨?_, ⟨?_, ⟨?_, ⟨?_, ⟨?_, ⟨?_, ⟨?_, trivial⟩⟩⟩⟩⟩⟩⟩⟩⟩⟩⟩⟩⟩⟩⟩⟩⟩⟩⟩⟩
   ·intro L ys W hC hn hB hF hP K hK
    show OpE _ _ _ W K
    exact OpE.val (pv g_1 0) W (by kernel_rfl) (hK _ W hB setYat (by intro k_ hk_ hf_; have hne_ : k_ ≠ 0 := (fun e => hn (by subst e; exact hk_)); exact FWY.keep KPY (by rw [Nat.zero_add]; exact hne_) (by rw [Nat.zero_add]; exact fun _ => by decide) (Gr.refl W) hf_))
   ·intro L ys W hC hn hB hF hP K hK
    show OpE _ _ _ W K
    exact OpE.known (j := 0) (v := pv g_1 0) (hF 0 (hP.1 rfl)) (OpE.val (pv g_1 6) W (by kernel_rfl) (hK _ W hB setYat (by intro k_ hk_ hf_; have hne_ : k_ ≠ 1 := (fun e => hn (by subst e; exact hk_)); exact FWY.keep KPY (by rw [Nat.zero_add]; exact hne_) (by rw [Nat.zero_add]; exact fun _ => by decide) (Gr.refl W) hf_)))
   ·intro L ys W hC hn hB hF hP K hK
    show OpE _ _ _ W K
    exact OpE.known (j := 1) (v := pv g_1 6) (hF 1 (hP.1 rfl)) (OpE.load (g := g_1) (off := 6) (v := .agg (qStV_8 c)) rfl (by kernel_rfl) ((hs_26.grow hB).pt_at (i := 1) rfl) (by kernel_rfl) (hK _ W hB setYat (by intro k_ hk_ hf_; have hne_ : k_ ≠ 2 := (fun e => hn (by subst e; exact hk_)); exact FWY.keep KPY (by rw [Nat.zero_add]; exact hne_) (by rw [Nat.zero_add]; exact fun _ => by decide) (Gr.refl W) hf_)))
   ·intro L ys W hC hn hB hF hP K hK
    show OpE _ _ _ W K
    exact OpE.val (pv g_23 6) W (by kernel_rfl) (hK _ W hB setYat (by intro k_ hk_ hf_; have hne_ : k_ ≠ 3 := (fun e => hn (by subst e; exact hk_)); exact FWY.keep KPY (by rw [Nat.zero_add]; exact hne_) (by rw [Nat.zero_add]; exact fun _ => by decide) (Gr.refl W) hf_))
   ·intro L ys W hC hn hB hF hP K hK
    show OpE _ _ _ W K
    exact OpE.known (j := 3) (v := pv g_23 6) (hF 3 (hP.1 rfl)) (OpE.load (g := g_23) (off := 6) (v := iv (numV f6)) rfl (by kernel_rfl) ((hs_26.grow hB).pt_at (i := 3) rfl) (by kernel_rfl) (hK _ W hB setYat (by intro k_ hk_ hf_; have hne_ : k_ ≠ 4 := (fun e => hn (by subst e; exact hk_)); exact FWY.keep KPY (by rw [Nat.zero_add]; exact hne_) (by rw [Nat.zero_add]; exact fun _ => by decide) (Gr.refl W) hf_)))
   ·intro L ys W hC hn hB hF hP K hK
    show OpE _ _ _ W K
    exact OpE.val (pv g_23 7) W (by kernel_rfl) (hK _ W hB setYat (by intro k_ hk_ hf_; have hne_ : k_ ≠ 5 := (fun e => hn (by subst e; exact hk_)); exact FWY.keep KPY (by rw [Nat.zero_add]; exact hne_) (by rw [Nat.zero_add]; exact fun _ => by decide) (Gr.refl W) hf_))
   ·intro L ys W hC hn hB hF hP K hK
    show OpE _ _ _ W K
    exact OpE.known (j := 5) (v := pv g_23 7) (hF 5 (hP.1 rfl)) (OpE.load (g := g_23) (off := 7) (v := iv (numV f7)) rfl (by kernel_rfl) ((hs_26.grow hB).pt_at (i := 3) rfl) (by kernel_rfl) (hK _ W hB setYat (by intro k_ hk_ hf_; have hne_ : k_ ≠ 6 := (fun e => hn (by subst e; exact hk_)); exact FWY.keep KPY (by rw [Nat.zero_add]; exact hne_) (by rw [Nat.zero_add]; exact fun _ => by decide) (Gr.refl W) hf_)))
   ·intro L ys W hC hn hB hF hP K hK
    show OpE _ _ _ W K
    exact OpE.val (pv g_23 8) W (by kernel_rfl) (hK _ W hB setYat (by intro k_ hk_ hf_; have hne_ : k_ ≠ 7 := (fun e => hn (by subst e; exact hk_)); exact FWY.keep KPY (by rw [Nat.zero_add]; exact hne_) (by rw [Nat.zero_add]; exact fun _ => by decide) (Gr.refl W) hf_))
   ·intro L ys W hC hn hB hF hP K hK
    show OpE _ _ _ W K
    exact OpE.known (j := 7) (v := pv g_23 8) (hF 7 (hP.1 rfl)) (OpE.load (g := g_23) (off := 8) (v := iv (bitV f8 15)) rfl (by kernel_rfl) ((hs_26.grow hB).pt_at (i := 3) rfl) (by kernel_rfl) (hK _ W hB setYat (by intro k_ hk_ hf_; have hne_ : k_ ≠ 8 := (fun e => hn (by subst e; exact hk_)); exact FWY.keep KPY (by rw [Nat.zero_add]; exact hne_) (by rw [Nat.zero_add]; exact fun _ => by decide) (Gr.refl W) hf_)))
   ·intro L ys W hC hn hB hF hP K hK
    show OpE _ _ _ W K
    exact OpE.known (j := 8) (v := iv (bitV f8 15)) (hF 8 (hP.1 rfl)) (OpE.val (iv (64 + (bitV f8 15))) W (by have hw : IntKind.i64.wrap (64 + (bitV f8 15)) = 64 + (bitV f8 15) := IntWalk.i64_in _ (by omega); exact run_eqv (by kernel_rfl) (congrArg (fun z => Value.int .i64 z) hw)) (hK _ W hB setYat (by intro k_ hk_ hf_; have hne_ : k_ ≠ 9 := (fun e => hn (by subst e; exact hk_)); exact FWY.keep KPY (by rw [Nat.zero_add]; exact hne_) (by rw [Nat.zero_add]; exact fun _ => by decide) (Gr.refl W) hf_)))
   ·intro L ys W hC hn hB hF hP K hK
    show OpE _ _ _ W K
    exact OpE.known (j := 9) (v := iv (64 + (bitV f8 15))) (hF 9 (hP.1 rfl)) (OpE.val (.int .u8 (64 + (bitV f8 15))) W (by have hw : IntKind.u8.wrap (64 + (bitV f8 15)) = 64 + (bitV f8 15) := wrap_u8 (by omega) (by omega); exact run_eqv (by kernel_rfl) (congrArg (fun z => Value.int .u8 z) hw)) (hK _ W hB setYat (by intro k_ hk_ hf_; have hne_ : k_ ≠ 10 := (fun e => hn (by subst e; exact hk_)); exact FWY.keep KPY (by rw [Nat.zero_add]; exact hne_) (by rw [Nat.zero_add]; exact fun _ => by decide) (Gr.refl W) hf_)))
   ·intro L ys W hC hn hB hF hP K hK
    show OpE _ _ _ W K
    exact OpE.val (sv g_12 0 10 c_13) W (by kernel_rfl) (hK _ W hB setYat (by intro k_ hk_ hf_; have hne_ : k_ ≠ 11 := (fun e => hn (by subst e; exact hk_)); exact FWY.keep KPY (by rw [Nat.zero_add]; exact hne_) (by rw [Nat.zero_add]; exact fun _ => by decide) (Gr.refl W) hf_))
   ·intro L ys W hC hn hB hF hP K hK
    show OpE _ _ _ W K
    exact OpE.known (j := 11) (v := sv g_12 0 10 c_13) (hF 11 (hP.1 rfl)) (OpE.val (pv g_12 9) W (by kernel_rfl) (hK _ W hB setYat (by intro k_ hk_ hf_; have hne_ : k_ ≠ 12 := (fun e => hn (by subst e; exact hk_)); exact FWY.keep KPY (by rw [Nat.zero_add]; exact hne_) (by rw [Nat.zero_add]; exact fun _ => by decide) (Gr.refl W) hf_)))
   ·intro L ys W hC hn hB hF hP K hK
    show OpE _ _ _ W K
    exact OpE.known (j := 12) (v := pv g_12 9) (hF 12 (hP.1 rfl)) (OpE.load (g := g_12) (off := 9) (v := .string (strOf f9)) rfl (by kernel_rfl) ((hs_26.grow hB).pt_at (i := 0) rfl) (by kernel_rfl) (hK _ W hB setYat (by intro k_ hk_ hf_; have hne_ : k_ ≠ 13 := (fun e => hn (by subst e; exact hk_)); exact FWY.keep KPY (by rw [Nat.zero_add]; exact hne_) (by rw [Nat.zero_add]; exact fun _ => by decide) (Gr.refl W) hf_)))
   ·intro L ys W hC hn hB hF hP K hK
    show OpE _ _ _ W K
    exact OpE.known (j := 2) (v := .agg (qStV_8 c)) (hF 2 (hP.1 rfl)) (OpE.known (j := 4) (v := iv (numV f6)) (hF 4 (hP.2.1 rfl)) (OpE.known (j := 6) (v := iv (numV f7)) (hF 6 (hP.2.2.1 rfl)) (OpE.known (j := 10) (v := .int .u8 (64 + (bitV f8 15))) (hF 10 (hP.2.2.2.1 rfl)) (OpE.known (j := 13) (v := .string (strOf f9)) (hF 13 (hP.2.2.2.2.1 rfl)) (OpE.call 37 #[.agg (qStV_8 c), iv (numV f6), iv (numV f7), .int .u8 (64 + (bitV f8 15)), .string (strOf f9)] W _ (by kernel_rfl) (rrst_cur c f0 f1 f2 f3 f4 f5 f6 f7 f8 f9 Z hZ nf9 W) (fun x w' hx => by obtain ⟨rfl, hg⟩ := hx; exact ⟨_, rfl, hK _ w' (hB.trans hg) setYat (by intro k_ hk_ hf_; have hne_ : k_ ≠ 14 := (fun e => hn (by subst e; exact hk_)); exact FWY.keep KPY (by rw [Nat.zero_add]; exact hne_) (by rw [Nat.zero_add]; exact fun _ => by decide) hg hf_)⟩))))))
   ·intro L ys W hC hn hB hF hP K hK
    show OpE _ _ _ W K
    exact OpE.known (j := 14) (v := .tuple #[.agg (qStV_3 Z), .bool Z.2]) (hF 14 (hP.1 rfl)) (OpE.val (.tuple #[.agg (qStV_3 Z), .bool Z.2]) W (by kernel_rfl) (hK _ W hB setYat (by intro k_ hk_ hf_; have hne_ : k_ ≠ 15 := (fun e => hn (by subst e; exact hk_)); exact FWY.keep KPY (by rw [Nat.zero_add]; exact hne_) (by rw [Nat.zero_add]; exact fun _ => by decide) (Gr.refl W) hf_)))
   ·intro L ys W hC hn hB hF hP K hK
    show OpE _ _ _ W K
    exact OpE.known (j := 15) (v := .tuple #[.agg (qStV_3 Z), .bool Z.2]) (hF 15 (hP.1 rfl)) (OpE.val (.agg (qStV_3 Z)) W (by kernel_rfl) (hK _ W hB setYat (by intro k_ hk_ hf_; have hne_ : k_ ≠ 16 := (fun e => hn (by subst e; exact hk_)); exact FWY.keep KPY (by rw [Nat.zero_add]; exact hne_) (by rw [Nat.zero_add]; exact fun _ => by decide) (Gr.refl W) hf_)))
   ·intro L ys W hC hn hB hF hP K hK
    show OpE _ _ _ W K
    exact OpE.known (j := 15) (v := .tuple #[.agg (qStV_3 Z), .bool Z.2]) (hF 15 (hP.1 rfl)) (OpE.val (.bool Z.2) W (by kernel_rfl) (hK _ W hB setYat (by intro k_ hk_ hf_; have hne_ : k_ ≠ 17 := (fun e => hn (by subst e; exact hk_)); exact FWY.keep KPY (by rw [Nat.zero_add]; exact hne_) (by rw [Nat.zero_add]; exact fun _ => by decide) (Gr.refl W) hf_)))
   ·intro L ys W hC hn hB hF hP K hK
    show OpE _ _ _ W K
    exact OpE.new (mk := fun g => pv g 0) (C := #[iv 0, iv 0, iv 0, iv 0, iv 0, iv 0, iv 0]) (T := 25) (by kernel_rfl) (hK _ _ (hB.alloc _) (⟨W.heap.size, _, setYat, hB.size, heap_alloc_new _ _, rfl⟩) (by intro k_ hk_ hf_; have hne_ : k_ ≠ 18 := (fun e => hn (by subst e; exact hk_)); exact FWY.keep KPY (by rw [Nat.zero_add]; exact hne_) (by rw [Nat.zero_add]; exact fun e => absurd (hC 19 (by subst e; exact hk_) 18 (by decide)) hn) ((Gr.refl W).alloc _) hf_))
   ·intro L ys W hC hn hB hF hP K hK
    obtain ⟨g_, C_, hv_, hge_, hb_, hsz_⟩ := hF 18 (hP.2.2.2.2.2.2.2.2.2.2.2.2.2.2.2.2.2.2.2.2.2.1 rfl)
    show OpE _ _ _ W K
    obtain ⟨q1_, q2_, q3_⟩ := setCells_blk (t := 25) ((.agg (qStV_3 Z) : Value).cells.toList) 0 W C_ hb_
    have hset_ : setL C_ 0 ((.agg (qStV_3 Z) : Value).cells.toList) = (qStV_3 Z) := setL_allY (by rw [hsz_]; rfl)
    rw [hset_] at q1_
    have hg_ : Gr w_25 (W.setCells g_ 0 ((.agg (qStV_3 Z) : Value).cells.toList)) := hB.upd q2_ (by simpa using hge_)
    exact OpE.known (j := 18) (v := pv g_ 0) hv_ (OpE.known (j := 16) (v := .agg (qStV_3 Z)) (hF 16 (hP.2.2.2.2.2.2.2.2.2.2.2.2.2.2.2.2.2.2.2.1 rfl)) (OpE.store (g := g_) (off := 0) (C := C_) (T := 25) (v := .agg (qStV_3 Z)) rfl (by kernel_rfl) (by kernel_rfl) hb_ (by kernel_rfl) (by kernel_rfl) (by rw [hsz_]; rfl) (hK _ _ hg_ (⟨g_, by rw [setYne (by decide)]; exact hv_, hge_, q1_⟩) (by intro k_ hk_ hf_; have hne_ : k_ ≠ 19 := (fun e => hn (by subst e; exact hk_)); exact FWY.put KPS (by rw [Nat.zero_add]; exact hne_) hv_ hge_ (q1_) hf_))))
  ·intro ys_112 w_108 hg_109 hF_111
   obtain ⟨g_113, hv_, hge_, hb_⟩ := hF_111 19 (by decide)
   have hs_114 := hs_26.fresh hg_109 hb_ hge_
   have hs_114 : SH [] w w_108 [pt g_12 ⟨(qStV_2 f0 f1 f2 f3 f4 f5 f6 f7 f8 f9) ++ pad_14⟩ 9, pt g_1 (cdA c.clean) 33, pt g_4 czD 33, pt g_23 (qStV_4 f0 f1 f2 f3 f4 f5 f6 f7 f8) 90, pt g_113 (qStV_3 Z) 25] := hs_114
   refine SL.knownY (j := 17) (v := .bool Z.2) (hF_111 17 (by decide)) (SL.knownY (j := 18) (v := pv g_113 0) hv_ (?_))
   clear hF_111 KPY KPS
   refine SL.v (.bool Z.2) ?_
   refine SL.nil ?_
   refine CW.seq ?_
   refine CW.region ?_
   refine SL.v (pv g_23 5) ?_
   refine SL.load (g := g_23) (off := 5) (v := iv (bitV f5 15)) rfl rfl rfl (by kernel_rfl) (hs_114.pt_at (i := 3) rfl) (by kernel_rfl) ?_
   refine SL.val (v := iv ((bitV f5 15) / 2)) (w' := w_108) rfl rfl (by have hw : IntKind.i64.wrap (Int.tdiv (bitV f5 15) 2) = (bitV f5 15) / 2 := (by rw [Int.tdiv_eq_ediv_of_nonneg (by omega)]; exact IntWalk.i64_in _ (by omega)); exact run_eqv (by kernel_rfl) (congrArg (Value.int .i64) hw)) ?_
   refine SL.val (v := iv (((bitV f5 15) / 2) % 4)) (w' := w_108) rfl rfl (run_eqv (by kernel_rfl) (congrArg (Value.int .i64) (Int.tmod_eq_emod_of_nonneg (a := ((bitV f5 15) / 2)) (b := 4) (by omega)))) ?_
   refine SL.v (iv (((bitV f5 15) / 2) % 4)) ?_
   refine SL.nil ?_
   refine CW.seq ?_
   refine CW.seq ?_
   refine CW.region ?_
   refine SL.v (.bool Z.2) ?_
   refine SL.v (.bool (!Z.2)) ?_
   refine SL.v (.bool (!Z.2)) ?_
   rcases Bool.eq_false_or_eq_true (Z.2) with hb_115 | hb_115
   ·try rw [hb_115]
    refine SL.go ?_
    refine SL.v (iv (((bitV f5 15) / 2) % 4)) ?_
    refine SL.go ?_
    refine SL.v (.bool ((((bitV f5 15) / 2) % 4) == 3)) ?_
    refine SL.v (.bool ((((bitV f5 15) / 2) % 4) == 3)) ?_
    refine SL.nil ?_
    rcases Bool.eq_false_or_eq_true ((((bitV f5 15) / 2) % 4) == 3) with hb_116 | hb_116
    ·try rw [hb_116]
     refine CW.cond_true (by kernel_rfl) ?_
     refine CW.seq ?_
     refine CW.region ?_
     refine SL.load (g := g_1) (off := 0) (v := .agg (cdA c.clean)) rfl rfl rfl (by kernel_rfl) (hs_114.pt_at (i := 1) rfl) (by kernel_rfl) ?_
     refine SL.storeH (i := 2) (g := g_4) (off := 0) (v := .agg (cdA c.clean)) (L' := [pt g_12 ⟨(qStV_2 f0 f1 f2 f3 f4 f5 f6 f7 f8 f9) ++ pad_14⟩ 9, pt g_1 (cdA c.clean) 33, pt g_4 (cdA c.clean) 33, pt g_23 (qStV_4 f0 f1 f2 f3 f4 f5 f6 f7 f8) 90, pt g_113 (qStV_3 Z) 25]) hs_114 rfl rfl rfl (by kernel_rfl) (by kernel_rfl) rfl (by kernel_rfl) (by kernel_rfl) rfl (by kernel_rfl) rfl (fun w_117 hs_118 => ?_)
     refine SL.v (.bool false) ?_
     refine SL.nil ?_
     refine CW.ret ?_
     repeat with_reducible first | refine PThen.ret ?_ | refine PBlock.ret ?_
     refine PRet.cellTmp (t := 4) (u := 5) (ty := 33) (g := g_4) (v := .agg (cdA c.clean)) (v' := .bool false) rfl rfl rfl (by kernel_rfl) (hs_118.pt_at (i := 2) rfl) (by kernel_rfl) (by kernel_rfl) ?_
     have hq_ : okCur c f0 f1 f2 f3 f4 f5 f6 f7 f8 f9 = false := by unfold okCur; rw [hk_, hZ, hb_115, hb_116]; rfl
     exact ⟨by rw [hq_]; rfl, hs_118.gr⟩
    ·try rw [hb_116]
     refine CW.cond_false (by kernel_rfl) ?_
     refine CW.skip ?_
     refine CW.seq ?_
     refine CW.region ?_
     refine SL.v (pv g_113 6) ?_
     refine SL.storeH (i := 4) (g := g_113) (off := 6) (v := iv 0) (L' := [pt g_12 ⟨(qStV_2 f0 f1 f2 f3 f4 f5 f6 f7 f8 f9) ++ pad_14⟩ 9, pt g_1 (cdA c.clean) 33, pt g_4 czD 33, pt g_23 (qStV_4 f0 f1 f2 f3 f4 f5 f6 f7 f8) 90, pt g_113 #[iv Z.1.a0, iv Z.1.a1, iv Z.1.a2, iv Z.1.a3, iv Z.1.a4, iv Z.1.a5, iv 0] 25]) hs_114 rfl rfl rfl (by kernel_rfl) (by kernel_rfl) rfl (by kernel_rfl) (by kernel_rfl) rfl (by kernel_rfl) rfl (fun w_119 hs_120 => ?_)
     refine SL.nil ?_
     refine CW.seq ?_
     refine CW.seq ?_
     refine CW.region ?_
     refine SL.v (iv (((bitV f5 15) / 2) % 4)) ?_
     refine SL.v (.bool (decide (0 < (((bitV f5 15) / 2) % 4)))) ?_
     refine SL.nil ?_
     rcases Bool.eq_false_or_eq_true (decide (0 < (((bitV f5 15) / 2) % 4))) with hb_121 | hb_121
     ·try rw [hb_121]
      have hqhb_121 := of_decide_eq_true hb_121
      refine CW.cond_true (by kernel_rfl) ?_
      refine CW.region ?_
      refine SL.v (iv (((bitV f5 15) / 2) % 4)) ?_
      refine SL.val (v := iv ((((bitV f5 15) / 2) % 4) + 1)) (w' := w_119) rfl rfl (by have hw : IntKind.i64.wrap ((((bitV f5 15) / 2) % 4) + 1) = (((bitV f5 15) / 2) % 4) + 1 := IntWalk.i64_in _ (by omega); exact run_eqv (by kernel_rfl) (congrArg (fun z => Value.int .i64 z) hw)) ?_
      refine SL.v (pv g_113 6) ?_
      refine SL.storeH (i := 4) (g := g_113) (off := 6) (v := iv ((((bitV f5 15) / 2) % 4) + 1)) (L' := [pt g_12 ⟨(qStV_2 f0 f1 f2 f3 f4 f5 f6 f7 f8 f9) ++ pad_14⟩ 9, pt g_1 (cdA c.clean) 33, pt g_4 czD 33, pt g_23 (qStV_4 f0 f1 f2 f3 f4 f5 f6 f7 f8) 90, pt g_113 (qStV_12 Z f5) 25]) hs_120 rfl rfl rfl (by kernel_rfl) (by kernel_rfl) rfl (by kernel_rfl) (by kernel_rfl) rfl (by kernel_rfl) rfl (fun w_122 hs_123 => ?_)
      refine SL.nil ?_
      refine CW.seq ?_
      refine CW.region ?_
      refine SL.v (pv g_23 0) ?_
      refine SL.load (g := g_23) (off := 0) (v := iv (numV f0)) rfl rfl rfl (by kernel_rfl) (hs_123.pt_at (i := 3) rfl) (by kernel_rfl) ?_
      refine SL.val (v := iv ((numV f0) - 1)) (w' := w_122) rfl rfl (by have hw : IntKind.i64.wrap ((numV f0) - 1) = (numV f0) - 1 := IntWalk.i64_in _ (by omega); exact run_eqv (by kernel_rfl) (congrArg (fun z => Value.int .i64 z) hw)) ?_
      refine SL.v (pv g_23 1) ?_
      refine SL.load (g := g_23) (off := 1) (v := iv (numV f1)) rfl rfl rfl (by kernel_rfl) (hs_123.pt_at (i := 3) rfl) (by kernel_rfl) ?_
      refine SL.val (v := iv ((numV f1) - 1)) (w' := w_122) rfl rfl (by have hw : IntKind.i64.wrap ((numV f1) - 1) = (numV f1) - 1 := IntWalk.i64_in _ (by omega); exact run_eqv (by kernel_rfl) (congrArg (fun z => Value.int .i64 z) hw)) ?_
      refine SL.v (pv g_23 3) ?_
      refine SL.load (g := g_23) (off := 3) (v := iv (bitV f3 31)) rfl rfl rfl (by kernel_rfl) (hs_123.pt_at (i := 3) rfl) (by kernel_rfl) ?_
      refine SL.val (v := .int .u8 (bitV f3 31)) (w' := w_122) rfl rfl (by have hw : IntKind.u8.wrap (bitV f3 31) = bitV f3 31 := wrap_u8 (by omega) (by omega); exact run_eqv (by kernel_rfl) (congrArg (fun z => Value.int .u8 z) hw)) ?_
      refine SL.v (pv g_23 4) ?_
      refine SL.load (g := g_23) (off := 4) (v := iv (bitV f4 1)) rfl rfl rfl (by kernel_rfl) (hs_123.pt_at (i := 3) rfl) (by kernel_rfl) ?_
      refine SL.v (.bool ((bitV f4 1) == 1)) ?_
      refine SL.v (pv g_23 5) ?_
      refine SL.load (g := g_23) (off := 5) (v := iv (bitV f5 15)) rfl rfl rfl (by kernel_rfl) (hs_123.pt_at (i := 3) rfl) (by kernel_rfl) ?_
      refine SL.val (v := iv ((bitV f5 15) % 2)) (w' := w_122) rfl rfl (run_eqv (by kernel_rfl) (congrArg (Value.int .i64) (Int.tmod_eq_emod_of_nonneg (a := (bitV f5 15)) (b := 2) (by omega)))) ?_
      refine SL.v (.bool (((bitV f5 15) % 2) == 1)) ?_
      refine SL.v (pv g_23 5) ?_
      refine SL.load (g := g_23) (off := 5) (v := iv (bitV f5 15)) rfl rfl rfl (by kernel_rfl) (hs_123.pt_at (i := 3) rfl) (by kernel_rfl) ?_
      refine SL.val (v := .bool (bitV f5 15 / 8 == 1)) (w' := w_122) rfl rfl (run_eqv (by kernel_rfl) (congrArg Value.bool (show (decide (8 ≤ (bitV f5 15))) = (bitV f5 15 / 8 == 1) from (how_8 _ hh)))) ?_
      refine SL.load (g := g_113) (off := 0) (v := .agg (qStV_12 Z f5)) rfl rfl rfl (by kernel_rfl) (hs_123.pt_at (i := 4) rfl) (by kernel_rfl) ?_
      refine SL.v (.agg #[iv ((numV f0) - 1), iv ((numV f1) - 1), .int .u8 (bitV f3 31), .bool ((bitV f4 1) == 1), .bool (bitV f5 15 / 8 == 1), .bool (((bitV f5 15) % 2) == 1), iv Z.1.a0, iv Z.1.a1, iv Z.1.a2, iv Z.1.a3, iv Z.1.a4, iv Z.1.a5, iv ((((bitV f5 15) / 2) % 4) + 1)]) ?_
      refine SL.v (pv g_1 0) ?_
      refine SL.storeH (i := 1) (g := g_1) (off := 0) (v := .agg #[iv ((numV f0) - 1), iv ((numV f1) - 1), .int .u8 (bitV f3 31), .bool ((bitV f4 1) == 1), .bool (bitV f5 15 / 8 == 1), .bool (((bitV f5 15) % 2) == 1), iv Z.1.a0, iv Z.1.a1, iv Z.1.a2, iv Z.1.a3, iv Z.1.a4, iv Z.1.a5, iv ((((bitV f5 15) / 2) % 4) + 1)]) (L' := [pt g_12 ⟨(qStV_2 f0 f1 f2 f3 f4 f5 f6 f7 f8 f9) ++ pad_14⟩ 9, pt g_1 #[iv ((numV f0) - 1), iv ((numV f1) - 1), .int .u8 (bitV f3 31), .bool ((bitV f4 1) == 1), .bool (bitV f5 15 / 8 == 1), .bool (((bitV f5 15) % 2) == 1), iv Z.1.a0, iv Z.1.a1, iv Z.1.a2, iv Z.1.a3, iv Z.1.a4, iv Z.1.a5, iv ((((bitV f5 15) / 2) % 4) + 1), iv c.clean.pt, iv c.clean.pl, iv c.clean.pb, iv c.clean.pr, iv c.clean.mt, iv c.clean.ml, iv c.clean.mb, iv c.clean.mr, iv c.clean.modes, iv c.clean.level, .bool c.clean.eight, .bool c.clean.stream, iv c.clean.status, .bool c.clean.below, iv c.clean.page, iv c.clean.pages] 33, pt g_4 czD 33, pt g_23 (qStV_4 f0 f1 f2 f3 f4 f5 f6 f7 f8) 90, pt g_113 (qStV_12 Z f5) 25]) hs_123 rfl rfl rfl (by kernel_rfl) (by kernel_rfl) rfl (by kernel_rfl) (by kernel_rfl) rfl (by kernel_rfl) rfl (fun w_124 hs_125 => ?_)
      refine SL.nil ?_
      refine CW.seq ?_
      refine CW.region ?_
      refine SL.v (pv g_23 2) ?_
      refine SL.load (g := g_23) (off := 2) (v := iv (numV f2)) rfl rfl rfl (by kernel_rfl) (hs_125.pt_at (i := 3) rfl) (by kernel_rfl) ?_
      refine SL.val (v := iv ((numV f2) - 1)) (w' := w_124) rfl rfl (by have hw : IntKind.i64.wrap ((numV f2) - 1) = (numV f2) - 1 := IntWalk.i64_in _ (by omega); exact run_eqv (by kernel_rfl) (congrArg (fun z => Value.int .i64 z) hw)) ?_
      refine SL.v (pv g_1 27) ?_
      refine SL.storeH (i := 1) (g := g_1) (off := 27) (v := iv ((numV f2) - 1)) (L' := [pt g_12 ⟨(qStV_2 f0 f1 f2 f3 f4 f5 f6 f7 f8 f9) ++ pad_14⟩ 9, pt g_1 (qStV_6 f0 f1 f3 f4 f5 Z c f2) 33, pt g_4 czD 33, pt g_23 (qStV_4 f0 f1 f2 f3 f4 f5 f6 f7 f8) 90, pt g_113 (qStV_12 Z f5) 25]) hs_125 rfl rfl rfl (by kernel_rfl) (by kernel_rfl) rfl (by kernel_rfl) (by kernel_rfl) rfl (by kernel_rfl) rfl (fun w_126 hs_127 => ?_)
      refine SL.nil ?_
      refine CW.seq ?_
      refine CW.region ?_
      refine SL.load (g := g_1) (off := 0) (v := .agg (qStV_6 f0 f1 f3 f4 f5 Z c f2)) rfl rfl rfl (by kernel_rfl) (hs_127.pt_at (i := 1) rfl) (by kernel_rfl) ?_
      refine SL.call (f := 13) (args := #[.agg (qStV_6 f0 f1 f3 f4 f5 Z c f2)]) (w1 := w_126) rfl rfl (by kernel_rfl) (rclean_any (qStV_10 c f0 f1 f2 f3 f4 f5 f6 f7 f8 f9 Z) w_126 (ccur_ok hok f0 f1 f2 f3 f4 f5 f6 f7 f8 f9 (by rw [← hZ]; exact rstR_in (s7_in hok)) (hsgl _ (by omega)))) ?_
      rintro x w_128 ⟨rfl, hc_129⟩
      refine ⟨_, rfl, ?_⟩
      have hs_130 := hs_127.grow hc_129
      refine SL.storeH (i := 2) (g := g_4) (off := 0) (v := .agg (qStV_0 c f0 f1 f2 f3 f4 f5 f6 f7 f8 f9 Z)) (L' := [pt g_12 ⟨(qStV_2 f0 f1 f2 f3 f4 f5 f6 f7 f8 f9) ++ pad_14⟩ 9, pt g_1 (qStV_6 f0 f1 f3 f4 f5 Z c f2) 33, pt g_4 (qStV_0 c f0 f1 f2 f3 f4 f5 f6 f7 f8 f9 Z) 33, pt g_23 (qStV_4 f0 f1 f2 f3 f4 f5 f6 f7 f8) 90, pt g_113 (qStV_12 Z f5) 25]) hs_130 rfl rfl rfl (by kernel_rfl) (by kernel_rfl) rfl (by kernel_rfl) (by kernel_rfl) rfl (by kernel_rfl) rfl (fun w_131 hs_132 => ?_)
      refine SL.v (.bool true) ?_
      refine SL.nil ?_
      refine CW.ret ?_
      repeat with_reducible first | refine PThen.ret ?_ | refine PBlock.ret ?_
      refine PRet.cellTmp (t := 4) (u := 5) (ty := 33) (g := g_4) (v := .agg (qStV_0 c f0 f1 f2 f3 f4 f5 f6 f7 f8 f9 Z)) (v' := .bool true) rfl rfl rfl (by kernel_rfl) (hs_132.pt_at (i := 2) rfl) (by kernel_rfl) (by kernel_rfl) ?_
      have hq_ : okCur c f0 f1 f2 f3 f4 f5 f6 f7 f8 f9 = true := by unfold okCur; rw [hk_, hZ, hb_115, hb_116]; rfl
      have hsg_ : bitV f5 15 / 2 % 4 + 1 = sgl (bitV f5 15) := by unfold sgl; rw [hb_121]; rfl
      exact ⟨by rw [hq_, ← hsg_]; rfl, hs_132.gr⟩
     ·try rw [hb_121]
      have hqhb_121 := of_decide_eq_false hb_121
      refine CW.cond_false (by kernel_rfl) ?_
      refine CW.skip ?_
      refine CW.seq ?_
      refine CW.region ?_
      refine SL.v (pv g_23 0) ?_
      refine SL.load (g := g_23) (off := 0) (v := iv (numV f0)) rfl rfl rfl (by kernel_rfl) (hs_120.pt_at (i := 3) rfl) (by kernel_rfl) ?_
      refine SL.val (v := iv ((numV f0) - 1)) (w' := w_119) rfl rfl (by have hw : IntKind.i64.wrap ((numV f0) - 1) = (numV f0) - 1 := IntWalk.i64_in _ (by omega); exact run_eqv (by kernel_rfl) (congrArg (fun z => Value.int .i64 z) hw)) ?_
      refine SL.v (pv g_23 1) ?_
      refine SL.load (g := g_23) (off := 1) (v := iv (numV f1)) rfl rfl rfl (by kernel_rfl) (hs_120.pt_at (i := 3) rfl) (by kernel_rfl) ?_
      refine SL.val (v := iv ((numV f1) - 1)) (w' := w_119) rfl rfl (by have hw : IntKind.i64.wrap ((numV f1) - 1) = (numV f1) - 1 := IntWalk.i64_in _ (by omega); exact run_eqv (by kernel_rfl) (congrArg (fun z => Value.int .i64 z) hw)) ?_
      refine SL.v (pv g_23 3) ?_
      refine SL.load (g := g_23) (off := 3) (v := iv (bitV f3 31)) rfl rfl rfl (by kernel_rfl) (hs_120.pt_at (i := 3) rfl) (by kernel_rfl) ?_
      refine SL.val (v := .int .u8 (bitV f3 31)) (w' := w_119) rfl rfl (by have hw : IntKind.u8.wrap (bitV f3 31) = bitV f3 31 := wrap_u8 (by omega) (by omega); exact run_eqv (by kernel_rfl) (congrArg (fun z => Value.int .u8 z) hw)) ?_
      refine SL.v (pv g_23 4) ?_
      refine SL.load (g := g_23) (off := 4) (v := iv (bitV f4 1)) rfl rfl rfl (by kernel_rfl) (hs_120.pt_at (i := 3) rfl) (by kernel_rfl) ?_
      refine SL.v (.bool ((bitV f4 1) == 1)) ?_
      refine SL.v (pv g_23 5) ?_
      refine SL.load (g := g_23) (off := 5) (v := iv (bitV f5 15)) rfl rfl rfl (by kernel_rfl) (hs_120.pt_at (i := 3) rfl) (by kernel_rfl) ?_
      refine SL.val (v := iv ((bitV f5 15) % 2)) (w' := w_119) rfl rfl (run_eqv (by kernel_rfl) (congrArg (Value.int .i64) (Int.tmod_eq_emod_of_nonneg (a := (bitV f5 15)) (b := 2) (by omega)))) ?_
      refine SL.v (.bool (((bitV f5 15) % 2) == 1)) ?_
      refine SL.v (pv g_23 5) ?_
      refine SL.load (g := g_23) (off := 5) (v := iv (bitV f5 15)) rfl rfl rfl (by kernel_rfl) (hs_120.pt_at (i := 3) rfl) (by kernel_rfl) ?_
      refine SL.val (v := .bool (bitV f5 15 / 8 == 1)) (w' := w_119) rfl rfl (run_eqv (by kernel_rfl) (congrArg Value.bool (show (decide (8 ≤ (bitV f5 15))) = (bitV f5 15 / 8 == 1) from (how_8 _ hh)))) ?_
      refine SL.load (g := g_113) (off := 0) (v := .agg #[iv Z.1.a0, iv Z.1.a1, iv Z.1.a2, iv Z.1.a3, iv Z.1.a4, iv Z.1.a5, iv 0]) rfl rfl rfl (by kernel_rfl) (hs_120.pt_at (i := 4) rfl) (by kernel_rfl) ?_
      refine SL.v (.agg #[iv ((numV f0) - 1), iv ((numV f1) - 1), .int .u8 (bitV f3 31), .bool ((bitV f4 1) == 1), .bool (bitV f5 15 / 8 == 1), .bool (((bitV f5 15) % 2) == 1), iv Z.1.a0, iv Z.1.a1, iv Z.1.a2, iv Z.1.a3, iv Z.1.a4, iv Z.1.a5, iv 0]) ?_
      refine SL.v (pv g_1 0) ?_
      refine SL.storeH (i := 1) (g := g_1) (off := 0) (v := .agg #[iv ((numV f0) - 1), iv ((numV f1) - 1), .int .u8 (bitV f3 31), .bool ((bitV f4 1) == 1), .bool (bitV f5 15 / 8 == 1), .bool (((bitV f5 15) % 2) == 1), iv Z.1.a0, iv Z.1.a1, iv Z.1.a2, iv Z.1.a3, iv Z.1.a4, iv Z.1.a5, iv 0]) (L' := [pt g_12 ⟨(qStV_2 f0 f1 f2 f3 f4 f5 f6 f7 f8 f9) ++ pad_14⟩ 9, pt g_1 #[iv ((numV f0) - 1), iv ((numV f1) - 1), .int .u8 (bitV f3 31), .bool ((bitV f4 1) == 1), .bool (bitV f5 15 / 8 == 1), .bool (((bitV f5 15) % 2) == 1), iv Z.1.a0, iv Z.1.a1, iv Z.1.a2, iv Z.1.a3, iv Z.1.a4, iv Z.1.a5, iv 0, iv c.clean.pt, iv c.clean.pl, iv c.clean.pb, iv c.clean.pr, iv c.clean.mt, iv c.clean.ml, iv c.clean.mb, iv c.clean.mr, iv c.clean.modes, iv c.clean.level, .bool c.clean.eight, .bool c.clean.stream, iv c.clean.status, .bool c.clean.below, iv c.clean.page, iv c.clean.pages] 33, pt g_4 czD 33, pt g_23 (qStV_4 f0 f1 f2 f3 f4 f5 f6 f7 f8) 90, pt g_113 #[iv Z.1.a0, iv Z.1.a1, iv Z.1.a2, iv Z.1.a3, iv Z.1.a4, iv Z.1.a5, iv 0] 25]) hs_120 rfl rfl rfl (by kernel_rfl) (by kernel_rfl) rfl (by kernel_rfl) (by kernel_rfl) rfl (by kernel_rfl) rfl (fun w_133 hs_134 => ?_)
      refine SL.nil ?_
      refine CW.seq ?_
      refine CW.region ?_
      refine SL.v (pv g_23 2) ?_
      refine SL.load (g := g_23) (off := 2) (v := iv (numV f2)) rfl rfl rfl (by kernel_rfl) (hs_134.pt_at (i := 3) rfl) (by kernel_rfl) ?_
      refine SL.val (v := iv ((numV f2) - 1)) (w' := w_133) rfl rfl (by have hw : IntKind.i64.wrap ((numV f2) - 1) = (numV f2) - 1 := IntWalk.i64_in _ (by omega); exact run_eqv (by kernel_rfl) (congrArg (fun z => Value.int .i64 z) hw)) ?_
      refine SL.v (pv g_1 27) ?_
      refine SL.storeH (i := 1) (g := g_1) (off := 27) (v := iv ((numV f2) - 1)) (L' := [pt g_12 ⟨(qStV_2 f0 f1 f2 f3 f4 f5 f6 f7 f8 f9) ++ pad_14⟩ 9, pt g_1 (qStV_7 f0 f1 f3 f4 f5 Z c f2) 33, pt g_4 czD 33, pt g_23 (qStV_4 f0 f1 f2 f3 f4 f5 f6 f7 f8) 90, pt g_113 #[iv Z.1.a0, iv Z.1.a1, iv Z.1.a2, iv Z.1.a3, iv Z.1.a4, iv Z.1.a5, iv 0] 25]) hs_134 rfl rfl rfl (by kernel_rfl) (by kernel_rfl) rfl (by kernel_rfl) (by kernel_rfl) rfl (by kernel_rfl) rfl (fun w_135 hs_136 => ?_)
      refine SL.nil ?_
      refine CW.seq ?_
      refine CW.region ?_
      refine SL.load (g := g_1) (off := 0) (v := .agg (qStV_7 f0 f1 f3 f4 f5 Z c f2)) rfl rfl rfl (by kernel_rfl) (hs_136.pt_at (i := 1) rfl) (by kernel_rfl) ?_
      refine SL.call (f := 13) (args := #[.agg (qStV_7 f0 f1 f3 f4 f5 Z c f2)]) (w1 := w_135) rfl rfl (by kernel_rfl) (rclean_any (ccur c f0 f1 f2 f3 f4 f5 f6 f7 f8 f9 Z.1 0) w_135 (ccur_ok hok f0 f1 f2 f3 f4 f5 f6 f7 f8 f9 (by rw [← hZ]; exact rstR_in (s7_in hok)) (hsgl _ (by omega)))) ?_
      rintro x w_137 ⟨rfl, hc_138⟩
      refine ⟨_, rfl, ?_⟩
      have hs_139 := hs_136.grow hc_138
      refine SL.storeH (i := 2) (g := g_4) (off := 0) (v := .agg (qStV_1 c f0 f1 f2 f3 f4 f5 f6 f7 f8 f9 Z)) (L' := [pt g_12 ⟨(qStV_2 f0 f1 f2 f3 f4 f5 f6 f7 f8 f9) ++ pad_14⟩ 9, pt g_1 (qStV_7 f0 f1 f3 f4 f5 Z c f2) 33, pt g_4 (qStV_1 c f0 f1 f2 f3 f4 f5 f6 f7 f8 f9 Z) 33, pt g_23 (qStV_4 f0 f1 f2 f3 f4 f5 f6 f7 f8) 90, pt g_113 #[iv Z.1.a0, iv Z.1.a1, iv Z.1.a2, iv Z.1.a3, iv Z.1.a4, iv Z.1.a5, iv 0] 25]) hs_139 rfl rfl rfl (by kernel_rfl) (by kernel_rfl) rfl (by kernel_rfl) (by kernel_rfl) rfl (by kernel_rfl) rfl (fun w_140 hs_141 => ?_)
      refine SL.v (.bool true) ?_
      refine SL.nil ?_
      refine CW.ret ?_
      repeat with_reducible first | refine PThen.ret ?_ | refine PBlock.ret ?_
      refine PRet.cellTmp (t := 4) (u := 5) (ty := 33) (g := g_4) (v := .agg (qStV_1 c f0 f1 f2 f3 f4 f5 f6 f7 f8 f9 Z)) (v' := .bool true) rfl rfl rfl (by kernel_rfl) (hs_141.pt_at (i := 2) rfl) (by kernel_rfl) (by kernel_rfl) ?_
      have hq_ : okCur c f0 f1 f2 f3 f4 f5 f6 f7 f8 f9 = true := by unfold okCur; rw [hk_, hZ, hb_115, hb_116]; rfl
      have hsg_ : (0 : Int) = sgl (bitV f5 15) := by unfold sgl; rw [hb_121]; rfl
      exact ⟨by rw [hq_, ← hsg_]; rfl, hs_141.gr⟩
   ·try rw [hb_115]
    refine SL.no true ?_
    refine SL.no true ?_
    refine SL.v (.bool true) ?_
    refine SL.nil ?_
    refine CW.cond_true (by kernel_rfl) ?_
    refine CW.seq ?_
    refine CW.region ?_
    refine SL.load (g := g_1) (off := 0) (v := .agg (cdA c.clean)) rfl rfl rfl (by kernel_rfl) (hs_114.pt_at (i := 1) rfl) (by kernel_rfl) ?_
    refine SL.storeH (i := 2) (g := g_4) (off := 0) (v := .agg (cdA c.clean)) (L' := [pt g_12 ⟨(qStV_2 f0 f1 f2 f3 f4 f5 f6 f7 f8 f9) ++ pad_14⟩ 9, pt g_1 (cdA c.clean) 33, pt g_4 (cdA c.clean) 33, pt g_23 (qStV_4 f0 f1 f2 f3 f4 f5 f6 f7 f8) 90, pt g_113 (qStV_3 Z) 25]) hs_114 rfl rfl rfl (by kernel_rfl) (by kernel_rfl) rfl (by kernel_rfl) (by kernel_rfl) rfl (by kernel_rfl) rfl (fun w_142 hs_143 => ?_)
    refine SL.v (.bool false) ?_
    refine SL.nil ?_
    refine CW.ret ?_
    repeat with_reducible first | refine PThen.ret ?_ | refine PBlock.ret ?_
    refine PRet.cellTmp (t := 4) (u := 5) (ty := 33) (g := g_4) (v := .agg (cdA c.clean)) (v' := .bool false) rfl rfl rfl (by kernel_rfl) (hs_143.pt_at (i := 2) rfl) (by kernel_rfl) (by kernel_rfl) ?_
    have hq_ : okCur c f0 f1 f2 f3 f4 f5 f6 f7 f8 f9 = false := by unfold okCur; rw [hk_, hZ, hb_115]; rfl
    exact ⟨by rw [hq_]; rfl, hs_143.gr⟩
end Go.Proofs.YtfkecgkfcldffaaGreatDoor
