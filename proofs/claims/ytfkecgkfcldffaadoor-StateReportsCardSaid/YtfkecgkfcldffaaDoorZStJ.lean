/-
  A setting of a state, the program (gen_sti.py).
-/
import Derived.Test.YtfkecgkfcldffaaDoorZStI
namespace Go.Proofs.YtfkecgkfcldffaaDoor
set_option linter.unusedSimpArgs false
set_option linter.unusedVariables false
open Go.RowKit
set_option linter.unusedVariables false

set_option maxRecDepth 100000 in
set_option maxHeartbeats 4000000 in
theorem set_1 (c : Cor) (w : World) (hok : c.Ok) (hT : tabT w) : Calls Tryd.prog 14 #[.agg (cvA c), .string ⟨#[114]⟩] w fun e w' => e = .returned (.tuple #[.string (strOf (fmtR ([c.clean.mt + 1, c.clean.mb])) ++ ⟨#[114]⟩), .bool true]) ∧ Gr w w' := by
  have hcm := hok.clean.modes
  have hcl := clean_nice hok
  have hf1 := flag_in c.clean.stream
  have hf2 := flag_in (!c.clean.stream)
  refine calls_sx (n := 89) (args := [.agg (cvA c), .string ⟨#[114]⟩]) Tryd.func14 rfl rfl rfl ?_
  have hs0 := SH.none w
  refine CW.seq ?_
  refine CW.region ?_
  refine SL.newH (mk := fun g => .pointer (some ⟨g, 0, none⟩)) (C := (cvA c)) (T := 46) hs0 rfl rfl (by kernel_rfl) (fun g_1 w_2 hs_3 => ?_)
  have hs_3 : SH [] w w_2 [pt g_1 (cvA c) 46] := hs_3
  refine SL.v (.string ⟨#[]⟩) ?_
  refine SL.v (.bool false) ?_
  refine SL.nil ?_
  refine CW.seq ?_
  refine CW.region ?_
  refine SL.load (g := g_1) (off := 0) (v := .agg (cvA c)) rfl rfl rfl (by kernel_rfl) (hs_3.pt_at (i := 0) rfl) (by kernel_rfl) ?_
  refine SL.call (f := 10) (args := #[.agg (cvA c)]) (w1 := w_2) rfl rfl (by kernel_rfl) (clean_any c w_2 hok) ?_
  rintro x w_4 ⟨rfl, hc_5⟩
  refine ⟨.agg (cvA c.clean), rfl, ?_⟩
  have hs_6 := hs_3.grow hc_5
  refine SL.storeH (i := 0) (g := g_1) (off := 0) (v := .agg (cvA c.clean)) (L' := [pt g_1 (cvA c.clean) 46]) hs_6 rfl rfl rfl (by kernel_rfl) (by kernel_rfl) rfl (by kernel_rfl) (by kernel_rfl) rfl (by kernel_rfl) rfl (fun w_7 hs_8 => ?_)
  refine SL.nil ?_
  refine CW.seq ?_
  refine CW.region ?_
  refine SL.v (.pointer (some ⟨g_1, 13, none⟩)) ?_
  refine SL.v (.pointer (some ⟨g_1, 17, none⟩)) ?_
  refine SL.load (g := g_1) (off := 17) (v := .agg #[.int .i64 c.clean.mt, .int .i64 c.clean.ml, .int .i64 c.clean.mb, .int .i64 c.clean.mr]) rfl rfl rfl (by kernel_rfl) (hs_8.pt_at (i := 0) rfl) (by kernel_rfl) ?_
  refine SL.newH (mk := fun g => .pointer (some ⟨g, 0, none⟩)) (C := #[.int .i64 0, .int .i64 0, .int .i64 0, .int .i64 0]) (T := 29) hs_8 rfl rfl (by kernel_rfl) (fun g_9 w_10 hs_11 => ?_)
  have hs_11 : SH [] w w_10 [pt g_1 (cvA c.clean) 46, pt g_9 #[.int .i64 0, .int .i64 0, .int .i64 0, .int .i64 0] 29] := hs_11
  refine SL.storeH (i := 1) (g := g_9) (off := 0) (v := .agg #[.int .i64 c.clean.mt, .int .i64 c.clean.ml, .int .i64 c.clean.mb, .int .i64 c.clean.mr]) (L' := [pt g_1 (cvA c.clean) 46, pt g_9 #[.int .i64 c.clean.mt, .int .i64 c.clean.ml, .int .i64 c.clean.mb, .int .i64 c.clean.mr] 29]) hs_11 rfl rfl rfl (by kernel_rfl) (by kernel_rfl) rfl (by kernel_rfl) (by kernel_rfl) rfl (by kernel_rfl) rfl (fun w_12 hs_13 => ?_)
  refine SL.nil ?_
  refine CW.seq ?_
  refine CW.region ?_
  refine SL.v (.slice none 0 0) ?_
  refine SL.nil ?_
  refine CW.seq ?_
  refine CW.seq ?_
  refine CW.region ?_
  refine SL.v (.string ⟨#[114]⟩) ?_
  refine SL.nil ?_
  refine CW.block ?_
  refine CW.seq ?_
  refine CW.region ?_
  refine SL.val (v := .bool false) (w' := w_12) rfl rfl (run_streqB (a := ⟨#[114]⟩) (b := ⟨#[109]⟩) (c := false) rfl (by kernel_rfl) (by kernel_rfl) (by kernel_rfl)) ?_
  refine SL.v (.bool false) ?_
  refine SL.nil ?_
  refine CW.cond_false (by kernel_rfl) ?_
  refine CW.seq ?_
  refine CW.region ?_
  refine SL.val (v := .bool true) (w' := w_12) rfl rfl (run_streqB (a := ⟨#[114]⟩) (b := ⟨#[114]⟩) (c := true) rfl (by kernel_rfl) (by kernel_rfl) (by kernel_rfl)) ?_
  refine SL.v (.bool true) ?_
  refine SL.nil ?_
  refine CW.cond_true (by kernel_rfl) ?_
  refine CW.region ?_
  refine SL.v (.pointer (some ⟨g_9, 0, none⟩)) ?_
  refine SL.load (g := g_9) (off := 0) (v := .int .i64 c.clean.mt) rfl rfl rfl (by kernel_rfl) (hs_13.pt_at (i := 1) rfl) (by kernel_rfl) ?_
  refine SL.val (v := .int .i64 (c.clean.mt + 1)) (w' := w_12) rfl rfl (by have hw : IntKind.i64.wrap (c.clean.mt + 1) = c.clean.mt + 1 := IntWalk.i64_in _ (by omega); exact run_eqv (by kernel_rfl) (congrArg (fun z => Value.int .i64 z) hw)) ?_
  refine SL.v (.pointer (some ⟨g_9, 2, none⟩)) ?_
  refine SL.load (g := g_9) (off := 2) (v := .int .i64 c.clean.mb) rfl rfl rfl (by kernel_rfl) (hs_13.pt_at (i := 1) rfl) (by kernel_rfl) ?_
  refine SL.newH (mk := fun g => .slice (some ⟨g, 0, none⟩) 2 2) (C := #[.int .i64 (c.clean.mt + 1), .int .i64 c.clean.mb]) (T := 3) hs_13 rfl rfl (by kernel_rfl) (fun g_14 w_15 hs_16 => ?_)
  have hs_16 : SH [] w w_15 [pt g_1 (cvA c.clean) 46, pt g_9 #[.int .i64 c.clean.mt, .int .i64 c.clean.ml, .int .i64 c.clean.mb, .int .i64 c.clean.mr] 29, pt g_14 #[.int .i64 (c.clean.mt + 1), .int .i64 c.clean.mb] 3] := hs_16
  refine SL.v (.slice (some ⟨g_14, 0, none⟩) 2 2) ?_
  refine SL.nil ?_
  refine CW.seq ?_
  refine CW.region ?_
  refine SL.v (.slice (some ⟨g_14, 0, none⟩) 2 2) ?_
  refine SL.call (f := 45) (args := #[.slice (some ⟨g_14, 0, none⟩) 2 2]) (w1 := w_15) rfl rfl (by kernel_rfl) (fmt_walk (l := [c.clean.mt + 1, c.clean.mb]) (rd_new (hs_16.pt_at (i := 2) rfl) rfl rfl) (Nat.le_refl _) (hT.gr hs_16.gr)) ?_
  rintro x w_17 ⟨rfl, hc_18⟩
  refine ⟨.string (strOf (fmtR [c.clean.mt + 1, c.clean.mb])), rfl, ?_⟩
  have hs_19 := hs_16.grow hc_18
  refine SL.v (.string ⟨#[114]⟩) ?_
  refine SL.cat (a := strOf (fmtR [c.clean.mt + 1, c.clean.mb])) (b := ⟨#[114]⟩) (p := 12) (q := 1) (r := 13) rfl rfl rfl (by kernel_rfl) (by kernel_rfl) (fmt_sz [c.clean.mt + 1, c.clean.mb] 2 (Nat.le_refl _)) (show (⟨#[114]⟩ : ByteArray).size ≤ 1 from Nat.le_refl 1) (by kernel_rfl) (by kernel_rfl) rfl (fun s_20 he_22 hz_21 => ?_)
  refine SL.v (.string s_20) ?_
  refine SL.v (.bool true) ?_
  refine SL.nil ?_
  refine CW.ret ?_
  repeat with_reducible first | refine PThen.ret ?_ | refine PBlock.ret ?_
  refine PRet.tmp2 (t := 4) (u := 5) (v := .string s_20) (v' := .bool true) rfl rfl rfl (by kernel_rfl) (by kernel_rfl) ?_
  exact ⟨by rw [he_22], hs_19.gr⟩
end Go.Proofs.YtfkecgkfcldffaaDoor
