/-
  The law PhosphorSet (gen_sea.py).
-/
import Derived.MakeChecks
import Derived.Test.YthfipedfoofobaaDoorRows
import Derived.Test.YthfipedfoofobaaDoorZFl
import Derived.Test.YthfipedfoofobaaDoorZSeA
namespace Go.Proofs.YthfipedfoofobaaDoor
set_option linter.unusedSimpArgs false
set_option linter.unusedVariables false
open Go.ChangeShapes Go.WideShapes Go.RowKit
set_option linter.unusedVariables false

set_option maxRecDepth 100000 in
set_option maxHeartbeats 8000000 in
theorem pset_0 (c : Cor) (w : World) (h0 : c.modes < 0) : Calls Tryd.prog 3 #[.agg (cdA c)] w fun e w' => e = .returned (.bool true) ∧ Gr w w' := by
  refine calls_sx (n := 97) (args := [.agg (cdA c)]) Tryd.func3 rfl rfl rfl ?_
  have hs0 := SH.none w
  refine CW.seq ?_
  refine CW.region ?_
  refine SL.newH (mk := fun g => .pointer (some ⟨g, 0, none⟩)) (C := (cdA c)) (T := 33) hs0 rfl rfl (by kernel_rfl) (fun g_1 w_2 hs_3 => ?_)
  have hs_3 : SH [] w w_2 [pt g_1 (cdA c) 33] := hs_3
  refine SL.v (.bool false) ?_
  refine SL.nil ?_
  refine CW.seq ?_
  refine CW.seq ?_
  refine CW.region ?_
  refine SL.v (.pointer (some ⟨g_1, 21, none⟩)) ?_
  refine SL.load (g := g_1) (off := 21) (v := .int .i64 c.modes) rfl rfl rfl (by kernel_rfl) (hs_3.pt_at (i := 0) rfl) (by kernel_rfl) ?_
  refine SL.v (.bool (decide (c.modes < 0))) ?_
  refine SL.v (.bool (decide (c.modes < 0))) ?_
  have hb_4 : (decide (c.modes < 0)) = true := (decide_eq_true h0)
  rw [hb_4]
  have hqhb_4 := of_decide_eq_true hb_4
  refine SL.no true ?_
  refine SL.no true ?_
  refine SL.no true ?_
  refine SL.v (.bool true) ?_
  refine SL.v (.bool true) ?_
  refine SL.no true ?_
  refine SL.no true ?_
  refine SL.no true ?_
  refine SL.no true ?_
  refine SL.no true ?_
  refine SL.v (.bool true) ?_
  refine SL.v (.bool true) ?_
  refine SL.no true ?_
  refine SL.no true ?_
  refine SL.no true ?_
  refine SL.no true ?_
  refine SL.no true ?_
  refine SL.v (.bool true) ?_
  refine SL.nil ?_
  refine CW.cond_true (by kernel_rfl) ?_
  refine CW.seq ?_
  refine CW.region ?_
  refine SL.v (.bool true) ?_
  refine SL.nil ?_
  refine CW.ret ?_
  repeat with_reducible first | refine PThen.ret ?_ | refine PBlock.ret ?_
  refine PRet.tmp (t := 2) (v := .bool true) rfl rfl (by kernel_rfl) ?_
  exact ⟨rfl, hs_3.gr⟩
set_option maxRecDepth 100000 in
set_option maxHeartbeats 8000000 in
theorem pset_1 (c : Cor) (w : World) (h0 : 0 ≤ c.modes) (h1 : 4294967296 ≤ c.modes) : Calls Tryd.prog 3 #[.agg (cdA c)] w fun e w' => e = .returned (.bool true) ∧ Gr w w' := by
  refine calls_sx (n := 97) (args := [.agg (cdA c)]) Tryd.func3 rfl rfl rfl ?_
  have hs0 := SH.none w
  refine CW.seq ?_
  refine CW.region ?_
  refine SL.newH (mk := fun g => .pointer (some ⟨g, 0, none⟩)) (C := (cdA c)) (T := 33) hs0 rfl rfl (by kernel_rfl) (fun g_1 w_2 hs_3 => ?_)
  have hs_3 : SH [] w w_2 [pt g_1 (cdA c) 33] := hs_3
  refine SL.v (.bool false) ?_
  refine SL.nil ?_
  refine CW.seq ?_
  refine CW.seq ?_
  refine CW.region ?_
  refine SL.v (.pointer (some ⟨g_1, 21, none⟩)) ?_
  refine SL.load (g := g_1) (off := 21) (v := .int .i64 c.modes) rfl rfl rfl (by kernel_rfl) (hs_3.pt_at (i := 0) rfl) (by kernel_rfl) ?_
  refine SL.v (.bool (decide (c.modes < 0))) ?_
  refine SL.v (.bool (decide (c.modes < 0))) ?_
  have hb_4 : (decide (c.modes < 0)) = false := (decide_eq_false (by omega))
  rw [hb_4]
  have hqhb_4 := of_decide_eq_false hb_4
  refine SL.go ?_
  refine SL.v (.pointer (some ⟨g_1, 21, none⟩)) ?_
  refine SL.go ?_
  refine SL.load (g := g_1) (off := 21) (v := .int .i64 c.modes) rfl rfl rfl (by kernel_rfl) (hs_3.pt_at (i := 0) rfl) (by kernel_rfl) ?_
  refine SL.go ?_
  refine SL.v (.bool (decide (4294967296 ≤ c.modes))) ?_
  refine SL.v (.bool (decide (4294967296 ≤ c.modes))) ?_
  refine SL.v (.bool (decide (4294967296 ≤ c.modes))) ?_
  have hb_5 : (decide (4294967296 ≤ c.modes)) = true := (decide_eq_true h1)
  rw [hb_5]
  have hqhb_5 := of_decide_eq_true hb_5
  refine SL.no true ?_
  refine SL.no true ?_
  refine SL.no true ?_
  refine SL.no true ?_
  refine SL.no true ?_
  refine SL.v (.bool true) ?_
  refine SL.v (.bool true) ?_
  refine SL.no true ?_
  refine SL.no true ?_
  refine SL.no true ?_
  refine SL.no true ?_
  refine SL.no true ?_
  refine SL.v (.bool true) ?_
  refine SL.nil ?_
  refine CW.cond_true (by kernel_rfl) ?_
  refine CW.seq ?_
  refine CW.region ?_
  refine SL.v (.bool true) ?_
  refine SL.nil ?_
  refine CW.ret ?_
  repeat with_reducible first | refine PThen.ret ?_ | refine PBlock.ret ?_
  refine PRet.tmp (t := 2) (v := .bool true) rfl rfl (by kernel_rfl) ?_
  exact ⟨rfl, hs_3.gr⟩
set_option maxRecDepth 100000 in
set_option maxHeartbeats 8000000 in
theorem pset_2 (c : Cor) (w : World) (h0 : 0 ≤ c.modes) (h1 : c.modes < 4294967296) (h2 : 60000 < c.pb) : Calls Tryd.prog 3 #[.agg (cdA c)] w fun e w' => e = .returned (.bool true) ∧ Gr w w' := by
  refine calls_sx (n := 97) (args := [.agg (cdA c)]) Tryd.func3 rfl rfl rfl ?_
  have hs0 := SH.none w
  refine CW.seq ?_
  refine CW.region ?_
  refine SL.newH (mk := fun g => .pointer (some ⟨g, 0, none⟩)) (C := (cdA c)) (T := 33) hs0 rfl rfl (by kernel_rfl) (fun g_1 w_2 hs_3 => ?_)
  have hs_3 : SH [] w w_2 [pt g_1 (cdA c) 33] := hs_3
  refine SL.v (.bool false) ?_
  refine SL.nil ?_
  refine CW.seq ?_
  refine CW.seq ?_
  refine CW.region ?_
  refine SL.v (.pointer (some ⟨g_1, 21, none⟩)) ?_
  refine SL.load (g := g_1) (off := 21) (v := .int .i64 c.modes) rfl rfl rfl (by kernel_rfl) (hs_3.pt_at (i := 0) rfl) (by kernel_rfl) ?_
  refine SL.v (.bool (decide (c.modes < 0))) ?_
  refine SL.v (.bool (decide (c.modes < 0))) ?_
  have hb_4 : (decide (c.modes < 0)) = false := (decide_eq_false (by omega))
  rw [hb_4]
  have hqhb_4 := of_decide_eq_false hb_4
  refine SL.go ?_
  refine SL.v (.pointer (some ⟨g_1, 21, none⟩)) ?_
  refine SL.go ?_
  refine SL.load (g := g_1) (off := 21) (v := .int .i64 c.modes) rfl rfl rfl (by kernel_rfl) (hs_3.pt_at (i := 0) rfl) (by kernel_rfl) ?_
  refine SL.go ?_
  refine SL.v (.bool (decide (4294967296 ≤ c.modes))) ?_
  refine SL.v (.bool (decide (4294967296 ≤ c.modes))) ?_
  refine SL.v (.bool (decide (4294967296 ≤ c.modes))) ?_
  have hb_5 : (decide (4294967296 ≤ c.modes)) = false := (decide_eq_false (by omega))
  rw [hb_5]
  have hqhb_5 := of_decide_eq_false hb_5
  refine SL.go ?_
  refine SL.v (.pointer (some ⟨g_1, 13, none⟩)) ?_
  refine SL.go ?_
  refine SL.v (.pointer (some ⟨g_1, 13, none⟩)) ?_
  refine SL.go ?_
  refine SL.v (.pointer (some ⟨g_1, 15, none⟩)) ?_
  refine SL.go ?_
  refine SL.load (g := g_1) (off := 15) (v := .int .i64 c.pb) rfl rfl rfl (by kernel_rfl) (hs_3.pt_at (i := 0) rfl) (by kernel_rfl) ?_
  refine SL.go ?_
  refine SL.v (.bool (decide (60000 < c.pb))) ?_
  refine SL.v (.bool (decide (60000 < c.pb))) ?_
  refine SL.v (.bool (decide (60000 < c.pb))) ?_
  have hb_6 : (decide (60000 < c.pb)) = true := (decide_eq_true h2)
  rw [hb_6]
  have hqhb_6 := of_decide_eq_true hb_6
  refine SL.no true ?_
  refine SL.no true ?_
  refine SL.no true ?_
  refine SL.no true ?_
  refine SL.no true ?_
  refine SL.v (.bool true) ?_
  refine SL.nil ?_
  refine CW.cond_true (by kernel_rfl) ?_
  refine CW.seq ?_
  refine CW.region ?_
  refine SL.v (.bool true) ?_
  refine SL.nil ?_
  refine CW.ret ?_
  repeat with_reducible first | refine PThen.ret ?_ | refine PBlock.ret ?_
  refine PRet.tmp (t := 2) (v := .bool true) rfl rfl (by kernel_rfl) ?_
  exact ⟨rfl, hs_3.gr⟩
set_option maxRecDepth 100000 in
set_option maxHeartbeats 8000000 in
theorem pset_3 (c : Cor) (w : World) (h0 : 0 ≤ c.modes) (h1 : c.modes < 4294967296) (h2 : c.pb ≤ 60000) (h3 : 60000 < c.pr) : Calls Tryd.prog 3 #[.agg (cdA c)] w fun e w' => e = .returned (.bool true) ∧ Gr w w' := by
  refine calls_sx (n := 97) (args := [.agg (cdA c)]) Tryd.func3 rfl rfl rfl ?_
  have hs0 := SH.none w
  refine CW.seq ?_
  refine CW.region ?_
  refine SL.newH (mk := fun g => .pointer (some ⟨g, 0, none⟩)) (C := (cdA c)) (T := 33) hs0 rfl rfl (by kernel_rfl) (fun g_1 w_2 hs_3 => ?_)
  have hs_3 : SH [] w w_2 [pt g_1 (cdA c) 33] := hs_3
  refine SL.v (.bool false) ?_
  refine SL.nil ?_
  refine CW.seq ?_
  refine CW.seq ?_
  refine CW.region ?_
  refine SL.v (.pointer (some ⟨g_1, 21, none⟩)) ?_
  refine SL.load (g := g_1) (off := 21) (v := .int .i64 c.modes) rfl rfl rfl (by kernel_rfl) (hs_3.pt_at (i := 0) rfl) (by kernel_rfl) ?_
  refine SL.v (.bool (decide (c.modes < 0))) ?_
  refine SL.v (.bool (decide (c.modes < 0))) ?_
  have hb_4 : (decide (c.modes < 0)) = false := (decide_eq_false (by omega))
  rw [hb_4]
  have hqhb_4 := of_decide_eq_false hb_4
  refine SL.go ?_
  refine SL.v (.pointer (some ⟨g_1, 21, none⟩)) ?_
  refine SL.go ?_
  refine SL.load (g := g_1) (off := 21) (v := .int .i64 c.modes) rfl rfl rfl (by kernel_rfl) (hs_3.pt_at (i := 0) rfl) (by kernel_rfl) ?_
  refine SL.go ?_
  refine SL.v (.bool (decide (4294967296 ≤ c.modes))) ?_
  refine SL.v (.bool (decide (4294967296 ≤ c.modes))) ?_
  refine SL.v (.bool (decide (4294967296 ≤ c.modes))) ?_
  have hb_5 : (decide (4294967296 ≤ c.modes)) = false := (decide_eq_false (by omega))
  rw [hb_5]
  have hqhb_5 := of_decide_eq_false hb_5
  refine SL.go ?_
  refine SL.v (.pointer (some ⟨g_1, 13, none⟩)) ?_
  refine SL.go ?_
  refine SL.v (.pointer (some ⟨g_1, 13, none⟩)) ?_
  refine SL.go ?_
  refine SL.v (.pointer (some ⟨g_1, 15, none⟩)) ?_
  refine SL.go ?_
  refine SL.load (g := g_1) (off := 15) (v := .int .i64 c.pb) rfl rfl rfl (by kernel_rfl) (hs_3.pt_at (i := 0) rfl) (by kernel_rfl) ?_
  refine SL.go ?_
  refine SL.v (.bool (decide (60000 < c.pb))) ?_
  refine SL.v (.bool (decide (60000 < c.pb))) ?_
  refine SL.v (.bool (decide (60000 < c.pb))) ?_
  have hb_6 : (decide (60000 < c.pb)) = false := (decide_eq_false (by omega))
  rw [hb_6]
  have hqhb_6 := of_decide_eq_false hb_6
  refine SL.go ?_
  refine SL.v (.pointer (some ⟨g_1, 13, none⟩)) ?_
  refine SL.go ?_
  refine SL.v (.pointer (some ⟨g_1, 13, none⟩)) ?_
  refine SL.go ?_
  refine SL.v (.pointer (some ⟨g_1, 16, none⟩)) ?_
  refine SL.go ?_
  refine SL.load (g := g_1) (off := 16) (v := .int .i64 c.pr) rfl rfl rfl (by kernel_rfl) (hs_3.pt_at (i := 0) rfl) (by kernel_rfl) ?_
  refine SL.go ?_
  refine SL.v (.bool (decide (60000 < c.pr))) ?_
  refine SL.v (.bool (decide (60000 < c.pr))) ?_
  refine SL.nil ?_
  have hb_7 : (decide (60000 < c.pr)) = true := (decide_eq_true h3)
  rw [hb_7]
  have hqhb_7 := of_decide_eq_true hb_7
  refine CW.cond_true (by kernel_rfl) ?_
  refine CW.seq ?_
  refine CW.region ?_
  refine SL.v (.bool true) ?_
  refine SL.nil ?_
  refine CW.ret ?_
  repeat with_reducible first | refine PThen.ret ?_ | refine PBlock.ret ?_
  refine PRet.tmp (t := 2) (v := .bool true) rfl rfl (by kernel_rfl) ?_
  exact ⟨rfl, hs_3.gr⟩
set_option maxRecDepth 100000 in
set_option maxHeartbeats 8000000 in
theorem pset_y (c : Cor) (w : World) (hok : c.Ok) (hS : SmallS c) (hT : tabT w) : Calls Tryd.prog 3 #[.agg (cdA c)] w fun e w' => e = .returned (.bool true) ∧ Gr w w' := by
  obtain ⟨hN0, hN1, hN2, hN3, hN4, hN5, hN6, hN7, hN8, hN9⟩ := set_nums hok hS
  have hS0 := hS.modes
  have hS1 := hS.pb
  have hS2 := hS.pr
  refine calls_sx (n := 97) (args := [.agg (cdA c)]) Tryd.func3 rfl rfl rfl ?_
  have hs0 := SH.none w
  refine CW.seq ?_
  refine CW.region ?_
  refine SL.newH (mk := fun g => .pointer (some ⟨g, 0, none⟩)) (C := (cdA c)) (T := 33) hs0 rfl rfl (by kernel_rfl) (fun g_1 w_2 hs_3 => ?_)
  have hs_3 : SH [] w w_2 [pt g_1 (cdA c) 33] := hs_3
  refine SL.v (.bool false) ?_
  refine SL.nil ?_
  refine CW.seq ?_
  refine CW.seq ?_
  refine CW.region ?_
  refine SL.v (.pointer (some ⟨g_1, 21, none⟩)) ?_
  refine SL.load (g := g_1) (off := 21) (v := .int .i64 c.modes) rfl rfl rfl (by kernel_rfl) (hs_3.pt_at (i := 0) rfl) (by kernel_rfl) ?_
  refine SL.v (.bool (decide (c.modes < 0))) ?_
  refine SL.v (.bool (decide (c.modes < 0))) ?_
  have hb_4 : (decide (c.modes < 0)) = false := (decide_eq_false (by omega))
  rw [hb_4]
  have hqhb_4 := of_decide_eq_false hb_4
  refine SL.go ?_
  refine SL.v (.pointer (some ⟨g_1, 21, none⟩)) ?_
  refine SL.go ?_
  refine SL.load (g := g_1) (off := 21) (v := .int .i64 c.modes) rfl rfl rfl (by kernel_rfl) (hs_3.pt_at (i := 0) rfl) (by kernel_rfl) ?_
  refine SL.go ?_
  refine SL.v (.bool (decide (4294967296 ≤ c.modes))) ?_
  refine SL.v (.bool (decide (4294967296 ≤ c.modes))) ?_
  refine SL.v (.bool (decide (4294967296 ≤ c.modes))) ?_
  have hb_5 : (decide (4294967296 ≤ c.modes)) = false := (decide_eq_false (by omega))
  rw [hb_5]
  have hqhb_5 := of_decide_eq_false hb_5
  refine SL.go ?_
  refine SL.v (.pointer (some ⟨g_1, 13, none⟩)) ?_
  refine SL.go ?_
  refine SL.v (.pointer (some ⟨g_1, 13, none⟩)) ?_
  refine SL.go ?_
  refine SL.v (.pointer (some ⟨g_1, 15, none⟩)) ?_
  refine SL.go ?_
  refine SL.load (g := g_1) (off := 15) (v := .int .i64 c.pb) rfl rfl rfl (by kernel_rfl) (hs_3.pt_at (i := 0) rfl) (by kernel_rfl) ?_
  refine SL.go ?_
  refine SL.v (.bool (decide (60000 < c.pb))) ?_
  refine SL.v (.bool (decide (60000 < c.pb))) ?_
  refine SL.v (.bool (decide (60000 < c.pb))) ?_
  have hb_6 : (decide (60000 < c.pb)) = false := (decide_eq_false (by omega))
  rw [hb_6]
  have hqhb_6 := of_decide_eq_false hb_6
  refine SL.go ?_
  refine SL.v (.pointer (some ⟨g_1, 13, none⟩)) ?_
  refine SL.go ?_
  refine SL.v (.pointer (some ⟨g_1, 13, none⟩)) ?_
  refine SL.go ?_
  refine SL.v (.pointer (some ⟨g_1, 16, none⟩)) ?_
  refine SL.go ?_
  refine SL.load (g := g_1) (off := 16) (v := .int .i64 c.pr) rfl rfl rfl (by kernel_rfl) (hs_3.pt_at (i := 0) rfl) (by kernel_rfl) ?_
  refine SL.go ?_
  refine SL.v (.bool (decide (60000 < c.pr))) ?_
  refine SL.v (.bool (decide (60000 < c.pr))) ?_
  refine SL.nil ?_
  have hb_7 : (decide (60000 < c.pr)) = false := (decide_eq_false (by omega))
  rw [hb_7]
  have hqhb_7 := of_decide_eq_false hb_7
  refine CW.cond_false (by kernel_rfl) ?_
  refine CW.skip ?_
  refine CW.seq ?_
  refine CW.region ?_
  refine SL.load (g := g_1) (off := 0) (v := .agg (cdA c)) rfl rfl rfl (by kernel_rfl) (hs_3.pt_at (i := 0) rfl) (by kernel_rfl) ?_
  refine SL.call (f := 4) (args := #[.agg (cdA c)]) (w1 := w_2) rfl rfl (by kernel_rfl) (own19 c w_2 hS.modes) ?_
  rintro x w_8 ⟨rfl, hc_9⟩
  refine ⟨.agg (cvA c), rfl, ?_⟩
  have hs_10 := hs_3.grow hc_9
  refine SL.newH (mk := fun g => .pointer (some ⟨g, 0, none⟩)) (C := czA) (T := 43) hs_10 rfl rfl (by kernel_rfl) (fun g_11 w_12 hs_13 => ?_)
  have hs_13 : SH [] w w_12 [pt g_1 (cdA c) 33, pt g_11 czA 43] := hs_13
  refine SL.storeH (i := 1) (g := g_11) (off := 0) (v := .agg (cvA c)) (L' := [pt g_1 (cdA c) 33, pt g_11 (cvA c) 43]) hs_13 rfl rfl rfl (by kernel_rfl) (by kernel_rfl) rfl (by kernel_rfl) (by kernel_rfl) rfl (by kernel_rfl) rfl (fun w_14 hs_15 => ?_)
  refine SL.nil ?_
  refine CW.seq ?_
  refine CW.seq ?_
  refine CW.region ?_
  refine SL.newH (mk := fun g => .slice (some ⟨g, 0, none⟩) 10 10) (C := #[.string ⟨#[109]⟩, .string ⟨#[114]⟩, .string ⟨#[115]⟩, .string ⟨#[34, 113]⟩, .string ⟨#[34, 112]⟩, .string ⟨#[42, 120]⟩, .string ⟨#[116]⟩, .string ⟨#[36, 124]⟩, .string ⟨#[36, 126]⟩, .string ⟨#[36, 125]⟩]) (T := 9) hs_15 rfl rfl (by kernel_rfl) (fun g_16 w_17 hs_18 => ?_)
  have hs_18 : SH [] w w_17 [pt g_1 (cdA c) 33, pt g_11 (cvA c) 43, pt g_16 #[.string ⟨#[109]⟩, .string ⟨#[114]⟩, .string ⟨#[115]⟩, .string ⟨#[34, 113]⟩, .string ⟨#[34, 112]⟩, .string ⟨#[42, 120]⟩, .string ⟨#[116]⟩, .string ⟨#[36, 124]⟩, .string ⟨#[36, 126]⟩, .string ⟨#[36, 125]⟩] 9] := hs_18
  refine SL.val (v := .int .i64 10) (w' := w_17) rfl rfl (by kernel_rfl) ?_
  refine SL.v (.int .i64 0) ?_
  refine SL.nil ?_
  refine CW.block ?_
  refine CW.loopN 11 ?_
  refine CR.more ?_
  refine CW.seq ?_
  refine CW.region ?_
  refine SL.v (.bool true) ?_
  refine SL.nil ?_
  refine CW.seq ?_
  refine CW.cond_true (by kernel_rfl) ?_
  refine CW.skip ?_
  refine CW.seq ?_
  refine CW.block ?_
  refine CW.seq ?_
  refine CW.region ?_
  refine SL.v (.pointer (some ⟨g_16, 0, none⟩)) ?_
  refine SL.load (g := g_16) (off := 0) (v := .string ⟨#[109]⟩) rfl rfl rfl (by kernel_rfl) (hs_18.pt_at (i := 2) rfl) (by kernel_rfl) ?_
  refine SL.v (.string ⟨#[109]⟩) ?_
  refine SL.nil ?_
  refine CW.seq ?_
  refine CW.region ?_
  refine SL.load (g := g_11) (off := 0) (v := .agg (cvA c)) rfl rfl rfl (by kernel_rfl) (hs_18.pt_at (i := 1) rfl) (by kernel_rfl) ?_
  refine SL.v (.string ⟨#[109]⟩) ?_
  refine SL.call (f := 5) (args := #[.agg (cvA c), .string ⟨#[109]⟩]) (w1 := w_17) rfl rfl (by kernel_rfl) (setl_0 c w_17 hok (hT.gr hs_18.gr)) ?_
  rintro x w_19 ⟨rfl, hc_20⟩
  refine ⟨.tuple #[.string (strOf (fmtR (rpar c.clean.rend) ++ [109])), .bool true], rfl, ?_⟩
  have hs_21 := hs_18.grow hc_20
  refine SL.v (.tuple #[.string (strOf (fmtR (rpar c.clean.rend) ++ [109])), .bool true]) ?_
  refine SL.v (.string (strOf (fmtR (rpar c.clean.rend) ++ [109]))) ?_
  refine SL.v (.bool true) ?_
  refine SL.v (.string (strOf (fmtR (rpar c.clean.rend) ++ [109]))) ?_
  refine SL.v (.bool true) ?_
  refine SL.nil ?_
  refine CW.seq ?_
  refine CW.region ?_
  refine SL.v (.string (strOf (fmtR (rpar c.clean.rend) ++ [109]))) ?_
  refine SL.val (v := .string (strOf ([27, 91] ++ (fmtR (rpar c.clean.rend) ++ [109])))) (w' := w_19) rfl rfl (run_catL (a := [27, 91]) (b := fmtR (rpar c.clean.rend) ++ [109]) rfl (by kernel_rfl) (by kernel_rfl) (by decide) (Nat.le_trans (set_l (by decide)) (by decide))) ?_
  refine SL.bytesR (l := [27, 91] ++ (fmtR (rpar c.clean.rend) ++ [109])) rfl rfl rfl (Tryd.underlying9) (Tryd.underlying50) (Tryd.underlying5) (by kernel_rfl) (cat_b (by decide) (set_b (by decide))) (fun g_22 cap_23 w_24 hr_25 hg_26 => ?_)
  have hs_27 := hs_21.grow hg_26
  have hb_29 : w_24.heap[g_1]? = some (.cells (cdA c) 33 (0, 0)) := (hs_27.pt_at (i := 0) rfl)
  have hb_30 : w_24.heap[g_11]? = some (.cells (cvA c) 43 (0, 0)) := (hs_27.pt_at (i := 1) rfl)
  have hb_31 : w_24.heap[g_16]? = some (.cells #[.string ⟨#[109]⟩, .string ⟨#[114]⟩, .string ⟨#[115]⟩, .string ⟨#[34, 113]⟩, .string ⟨#[34, 112]⟩, .string ⟨#[42, 120]⟩, .string ⟨#[116]⟩, .string ⟨#[36, 124]⟩, .string ⟨#[36, 126]⟩, .string ⟨#[36, 125]⟩] 9 (0, 0)) := (hs_27.pt_at (i := 2) rfl)
  have hG_32 := hs_27.gr
  have hs_33 := SH.none w_24
  refine SL.call (f := 6) (args := #[.slice (some ⟨g_22, 0, none⟩) (([27, 91] ++ (fmtR (rpar c.clean.rend) ++ [109])).length) cap_23]) (w1 := w_24) rfl rfl (by kernel_rfl) (split_1 (t := (setT 109 [] (rpar c.clean.rend))) (setT_can (by decide) ⟨by decide, by decide⟩ hN0) (by intro c_ h_; cases h_) (setT_bytes 109 [] (rpar c.clean.rend)) (hr_25.gr hs_33.gr)) ?_
  rintro x w_44 ⟨g_34, cap_35, pad_36, a_37, c_38, a_39, c_40, rfl, hb_41, hr_42, hc_45⟩
  refine ⟨_, rfl, ?_⟩
  have hs_46 := hs_33.grow hc_45
  have hb_47 := hs_46.gr.blk hb_29
  have hb_48 := hs_46.gr.blk hb_30
  have hb_49 := hs_46.gr.blk hb_31
  have hr_50 := hr_25.gr hs_46.gr
  have hG_51 := (hG_32.trans hs_46.gr)
  have hs_52 := SH.none w_44
  refine SL.v (.slice (some ⟨g_34, 0, none⟩) 1 cap_35) ?_
  refine SL.nil ?_
  refine CW.seq ?_
  refine CW.seq ?_
  refine CW.region ?_
  refine SL.v (.bool true) ?_
  refine SL.v (.bool false) ?_
  refine SL.v (.bool false) ?_
  refine SL.go ?_
  refine SL.v (.slice (some ⟨g_34, 0, none⟩) 1 cap_35) ?_
  refine SL.go ?_
  refine SL.val (v := .int .i64 1) (w' := w_44) rfl rfl (by kernel_rfl) ?_
  refine SL.go ?_
  refine SL.v (.bool false) ?_
  refine SL.v (.bool false) ?_
  refine SL.v (.bool false) ?_
  refine SL.go ?_
  refine SL.v (.slice (some ⟨g_34, 0, none⟩) 1 cap_35) ?_
  refine SL.go ?_
  refine SL.v (.pointer (some ⟨g_34, 0, none⟩)) ?_
  refine SL.go ?_
  refine SL.v (.pointer (some ⟨g_34, 0, none⟩)) ?_
  refine SL.go ?_
  refine SL.load (g := g_34) (off := 0) (v := .int .i64 4) rfl rfl rfl (by kernel_rfl) (hs_52.gr.blk hb_41) (by kernel_rfl) ?_
  refine SL.go ?_
  refine SL.v (.bool false) ?_
  refine SL.v (.bool false) ?_
  refine SL.v (.bool false) ?_
  refine SL.go ?_
  refine SL.v (.slice (some ⟨g_34, 0, none⟩) 1 cap_35) ?_
  refine SL.go ?_
  refine SL.v (.pointer (some ⟨g_34, 0, none⟩)) ?_
  refine SL.go ?_
  refine SL.load (g := g_34) (off := 0) (v := .agg #[.int .i64 4, .int .u8 109, .int .u8 0, .slice a_37 ((rpar c.clean.rend).length) c_38, .string (strOf ([])), .slice a_39 0 c_40]) rfl rfl rfl (by kernel_rfl) (hs_52.gr.blk hb_41) (by kernel_rfl) ?_
  refine SL.go ?_
  refine SL.call (f := 7) (args := #[.agg #[.int .i64 4, .int .u8 109, .int .u8 0, .slice a_37 ((rpar c.clean.rend).length) c_38, .string (strOf ([])), .slice a_39 0 c_40]]) (w1 := w_44) rfl rfl (by kernel_rfl) (tid_any (k := 4) (c := 109) (m := 0) (l := []) (by decide) (by decide)) ?_
  rintro x w_53 ⟨rfl, hc_54⟩
  refine ⟨.string ⟨#[109]⟩, rfl, ?_⟩
  have hs_55 := hs_52.grow hc_54
  refine SL.go ?_
  refine SL.v (.string ⟨#[109]⟩) ?_
  refine SL.go ?_
  refine SL.val (v := .bool false) (w' := w_53) rfl rfl (run_strneB (a := ⟨#[109]⟩) (b := ⟨#[109]⟩) (c := true) rfl (by kernel_rfl) (by kernel_rfl) (by kernel_rfl)) ?_
  refine SL.v (.bool false) ?_
  refine SL.v (.bool false) ?_
  refine SL.go ?_
  refine SL.v (.slice (some ⟨g_34, 0, none⟩) 1 cap_35) ?_
  refine SL.go ?_
  refine SL.v (.pointer (some ⟨g_34, 0, none⟩)) ?_
  refine SL.go ?_
  refine SL.v (.pointer (some ⟨g_34, 3, none⟩)) ?_
  refine SL.go ?_
  refine SL.load (g := g_34) (off := 3) (v := .slice a_37 ((rpar c.clean.rend).length) c_38) rfl rfl rfl (by kernel_rfl) (hs_55.gr.blk hb_41) (by kernel_rfl) ?_
  refine SL.go ?_
  refine SL.val (v := .int .i64 (((rpar c.clean.rend).length : Nat) : Int)) (w' := w_53) rfl rfl (by kernel_rfl) ?_
  refine SL.go ?_
  refine SL.v (.bool ((((rpar c.clean.rend).length : Nat) : Int) == 0)) ?_
  refine SL.v (.bool ((((rpar c.clean.rend).length : Nat) : Int) == 0)) ?_
  refine SL.nil ?_
  have hb_56 : ((((rpar c.clean.rend).length : Nat) : Int) == 0) = false := (rpar_nz c.clean.rend)
  rw [hb_56]
  refine CW.cond_false (by kernel_rfl) ?_
  refine CW.skip ?_
  refine CW.seq ?_
  refine CW.region ?_
  refine SL.v (.string (strOf (fmtR (rpar c.clean.rend) ++ [109]))) ?_
  refine SL.newH (mk := fun g => .slice (some ⟨g, 0, none⟩) 1 1) (C := #[.int .i64 1]) (T := 3) hs_55 rfl rfl (by kernel_rfl) (fun g_57 w_58 hs_59 => ?_)
  have hs_59 : SH [] w_44 w_58 [pt g_57 #[.int .i64 1] 3] := hs_59
  refine SL.call (f := 8) (args := #[.bool false, .string ⟨#[36, 114]⟩, .string (strOf (fmtR (rpar c.clean.rend) ++ [109])), .slice (some ⟨g_57, 0, none⟩) 1 1]) (w1 := w_58) rfl rfl (by kernel_rfl) (dcs_set (l := fmtR (rpar c.clean.rend) ++ [109]) (hs_59.pt_at (i := 0) rfl) (set_dat (by decide) (by decide)) (set_b (by decide)) (hT.gr (hG_51.trans hs_59.gr))) ?_
  rintro x w_64 ⟨va_60, vc_61, rfl, hr_62, hc_65⟩
  refine ⟨_, rfl, ?_⟩
  have hs_66 := hs_59.grow hc_65
  have hb_67 := hs_66.gr.blk hb_47
  have hb_68 := hs_66.gr.blk hb_48
  have hb_69 := hs_66.gr.blk hb_49
  have hb_70 := hs_66.gr.blk hb_41
  have hr_71 := hr_50.gr hs_66.gr
  have hr_72 := hr_42.gr hs_66.gr
  have hb_73 : w_64.heap[g_57]? = some (.cells #[.int .i64 1] 3 (0, 0)) := (hs_66.pt_at (i := 0) rfl)
  have hG_74 := (hG_51.trans hs_66.gr)
  have hs_75 := SH.none w_64
  refine SL.call (f := 6) (args := #[.slice va_60 ((bytesR (dcsT (fmtR (rpar c.clean.rend) ++ [109])) false).length) vc_61]) (w1 := w_64) rfl rfl (by kernel_rfl) (split_1 (t := (dcsT (fmtR (rpar c.clean.rend) ++ [109]))) (dcsT_can (set_dat (by decide) (by decide))) (set_b (by decide)) rfl (hr_62.gr hs_75.gr)) ?_
  rintro x w_86 ⟨g_76, cap_77, pad_78, a_79, c_80, a_81, c_82, rfl, hb_83, hr_84, hc_87⟩
  refine ⟨_, rfl, ?_⟩
  have hs_88 := hs_75.grow hc_87
  have hb_89 := hs_88.gr.blk hb_67
  have hb_90 := hs_88.gr.blk hb_68
  have hb_91 := hs_88.gr.blk hb_69
  have hb_92 := hs_88.gr.blk hb_70
  have hb_93 := hs_88.gr.blk hb_73
  have hr_94 := hr_71.gr hs_88.gr
  have hr_95 := hr_72.gr hs_88.gr
  have hr_96 := hr_62.gr hs_88.gr
  have hG_97 := (hG_74.trans hs_88.gr)
  have hs_98 := SH.none w_86
  refine SL.v (.slice (some ⟨g_76, 0, none⟩) 1 cap_77) ?_
  refine SL.nil ?_
  refine CW.seq ?_
  refine CW.region ?_
  refine SL.v (.slice (some ⟨g_76, 0, none⟩) 1 cap_77) ?_
  refine SL.val (v := .int .i64 1) (w' := w_86) rfl rfl (by kernel_rfl) ?_
  refine SL.v (.bool false) ?_
  refine SL.v (.bool false) ?_
  refine SL.go ?_
  refine SL.v (.slice (some ⟨g_76, 0, none⟩) 1 cap_77) ?_
  refine SL.go ?_
  refine SL.v (.pointer (some ⟨g_76, 0, none⟩)) ?_
  refine SL.go ?_
  refine SL.v (.pointer (some ⟨g_76, 5, none⟩)) ?_
  refine SL.go ?_
  refine SL.load (g := g_76) (off := 5) (v := .slice a_81 ((fmtR (rpar c.clean.rend) ++ [109]).length) c_82) rfl rfl rfl (by kernel_rfl) (hs_98.gr.blk hb_83) (by kernel_rfl) ?_
  refine SL.go ?_
  refine SL.val (v := .string (strOf (fmtR (rpar c.clean.rend) ++ [109]))) (w' := w_86) rfl rfl (run_conv rfl (by kernel_rfl) (conv_row (hr_84.gr hs_98.gr))) ?_
  refine SL.go ?_
  refine SL.v (.string (strOf (fmtR (rpar c.clean.rend) ++ [109]))) ?_
  refine SL.go ?_
  refine SL.val (v := .bool false) (w' := w_86) rfl rfl (run_strneB (a := strOf (fmtR (rpar c.clean.rend) ++ [109])) (b := strOf (fmtR (rpar c.clean.rend) ++ [109])) (c := true) rfl (by kernel_rfl) (by kernel_rfl) (seqB_self _)) ?_
  refine SL.v (.bool false) ?_
  refine SL.nil ?_
  refine CW.cond_false (by kernel_rfl) ?_
  refine CW.skip ?_
  refine CW.region ?_
  refine SL.v (.int .i64 1) ?_
  refine SL.v (.int .i64 1) ?_
  refine SL.nil ?_
  refine CR.fresh (fun e9 => e9 2 = .bool false ∧ e9 3 = .pointer (some ⟨g_11, 0, none⟩) ∧ e9 34 = .slice (some ⟨g_16, 0, none⟩) 10 10 ∧ e9 35 = .int .i64 10 ∧ e9 36 = .int .i64 1) ⟨(by kernel_rfl), (by kernel_rfl), (by kernel_rfl), (by kernel_rfl), (by kernel_rfl)⟩ ?_
  rintro e_99 ⟨hv_101, hv_102, hv_103, hv_104, hv_105⟩
  obtain ⟨e_100, rfl⟩ : ∃ e_100, e_99 = put1 (put1 (put1 (put1 (put1 e_100 2 (.bool false)) 3 (.pointer (some ⟨g_11, 0, none⟩))) 34 (.slice (some ⟨g_16, 0, none⟩) 10 10)) 35 (.int .i64 10)) 36 (.int .i64 1) := ⟨e_99, (put_self hv_105).trans (congrArg (fun z => put1 z 36 (.int .i64 1)) ((put_self hv_104).trans (congrArg (fun z => put1 z 35 (.int .i64 10)) ((put_self hv_103).trans (congrArg (fun z => put1 z 34 (.slice (some ⟨g_16, 0, none⟩) 10 10)) ((put_self hv_102).trans (congrArg (fun z => put1 z 3 (.pointer (some ⟨g_11, 0, none⟩))) (put_self hv_101))))))))⟩
  clear hv_101 hv_102 hv_103 hv_104 hv_105
  refine CR.more ?_
  refine CW.seq ?_
  refine CW.region ?_
  refine SL.v (.bool true) ?_
  refine SL.nil ?_
  refine CW.seq ?_
  refine CW.cond_true (by kernel_rfl) ?_
  refine CW.skip ?_
  refine CW.seq ?_
  refine CW.block ?_
  refine CW.seq ?_
  refine CW.region ?_
  refine SL.v (.pointer (some ⟨g_16, 1, none⟩)) ?_
  refine SL.load (g := g_16) (off := 1) (v := .string ⟨#[114]⟩) rfl rfl rfl (by kernel_rfl) (hs_98.gr.blk hb_91) (by kernel_rfl) ?_
  refine SL.v (.string ⟨#[114]⟩) ?_
  refine SL.nil ?_
  refine CW.seq ?_
  refine CW.region ?_
  refine SL.load (g := g_11) (off := 0) (v := .agg (cvA c)) rfl rfl rfl (by kernel_rfl) (hs_98.gr.blk hb_90) (by kernel_rfl) ?_
  refine SL.v (.string ⟨#[114]⟩) ?_
  refine SL.call (f := 5) (args := #[.agg (cvA c), .string ⟨#[114]⟩]) (w1 := w_86) rfl rfl (by kernel_rfl) (setl_1 c w_86 hok (hT.gr (hG_97.trans hs_98.gr))) ?_
  rintro x w_106 ⟨rfl, hc_107⟩
  refine ⟨.tuple #[.string (strOf (fmtR ([c.clean.mt + 1, c.clean.mb]) ++ [114])), .bool true], rfl, ?_⟩
  have hs_108 := hs_98.grow hc_107
  refine SL.v (.tuple #[.string (strOf (fmtR ([c.clean.mt + 1, c.clean.mb]) ++ [114])), .bool true]) ?_
  refine SL.v (.string (strOf (fmtR ([c.clean.mt + 1, c.clean.mb]) ++ [114]))) ?_
  refine SL.v (.bool true) ?_
  refine SL.v (.string (strOf (fmtR ([c.clean.mt + 1, c.clean.mb]) ++ [114]))) ?_
  refine SL.v (.bool true) ?_
  refine SL.nil ?_
  refine CW.seq ?_
  refine CW.region ?_
  refine SL.v (.string (strOf (fmtR ([c.clean.mt + 1, c.clean.mb]) ++ [114]))) ?_
  refine SL.val (v := .string (strOf ([27, 91] ++ (fmtR ([c.clean.mt + 1, c.clean.mb]) ++ [114])))) (w' := w_106) rfl rfl (run_catL (a := [27, 91]) (b := fmtR ([c.clean.mt + 1, c.clean.mb]) ++ [114]) rfl (by kernel_rfl) (by kernel_rfl) (by decide) (Nat.le_trans (set_l (by decide)) (by decide))) ?_
  refine SL.bytesR (l := [27, 91] ++ (fmtR ([c.clean.mt + 1, c.clean.mb]) ++ [114])) rfl rfl rfl (Tryd.underlying9) (Tryd.underlying50) (Tryd.underlying5) (by kernel_rfl) (cat_b (by decide) (set_b (by decide))) (fun g_109 cap_110 w_111 hr_112 hg_113 => ?_)
  have hs_114 := hs_108.grow hg_113
  have hb_116 := hs_114.gr.blk hb_89
  have hb_117 := hs_114.gr.blk hb_90
  have hb_118 := hs_114.gr.blk hb_91
  have hb_119 := hs_114.gr.blk hb_92
  have hb_120 := hs_114.gr.blk hb_93
  have hb_121 := hs_114.gr.blk hb_83
  have hr_122 := hr_94.gr hs_114.gr
  have hr_123 := hr_95.gr hs_114.gr
  have hr_124 := hr_96.gr hs_114.gr
  have hr_125 := hr_84.gr hs_114.gr
  have hG_126 := (hG_97.trans hs_114.gr)
  have hs_127 := SH.none w_111
  refine SL.call (f := 6) (args := #[.slice (some ⟨g_109, 0, none⟩) (([27, 91] ++ (fmtR ([c.clean.mt + 1, c.clean.mb]) ++ [114])).length) cap_110]) (w1 := w_111) rfl rfl (by kernel_rfl) (split_1 (t := (setT 114 [] ([c.clean.mt + 1, c.clean.mb]))) (setT_can (by decide) ⟨by decide, by decide⟩ hN1) (by intro c_ h_; cases h_) (setT_bytes 114 [] ([c.clean.mt + 1, c.clean.mb])) (hr_112.gr hs_127.gr)) ?_
  rintro x w_138 ⟨g_128, cap_129, pad_130, a_131, c_132, a_133, c_134, rfl, hb_135, hr_136, hc_139⟩
  refine ⟨_, rfl, ?_⟩
  have hs_140 := hs_127.grow hc_139
  have hb_141 := hs_140.gr.blk hb_116
  have hb_142 := hs_140.gr.blk hb_117
  have hb_143 := hs_140.gr.blk hb_118
  have hb_144 := hs_140.gr.blk hb_119
  have hb_145 := hs_140.gr.blk hb_120
  have hb_146 := hs_140.gr.blk hb_121
  have hr_147 := hr_122.gr hs_140.gr
  have hr_148 := hr_123.gr hs_140.gr
  have hr_149 := hr_124.gr hs_140.gr
  have hr_150 := hr_125.gr hs_140.gr
  have hr_151 := hr_112.gr hs_140.gr
  have hG_152 := (hG_126.trans hs_140.gr)
  have hs_153 := SH.none w_138
  refine SL.v (.slice (some ⟨g_128, 0, none⟩) 1 cap_129) ?_
  refine SL.nil ?_
  refine CW.seq ?_
  refine CW.seq ?_
  refine CW.region ?_
  refine SL.v (.bool true) ?_
  refine SL.v (.bool false) ?_
  refine SL.v (.bool false) ?_
  refine SL.go ?_
  refine SL.v (.slice (some ⟨g_128, 0, none⟩) 1 cap_129) ?_
  refine SL.go ?_
  refine SL.val (v := .int .i64 1) (w' := w_138) rfl rfl (by kernel_rfl) ?_
  refine SL.go ?_
  refine SL.v (.bool false) ?_
  refine SL.v (.bool false) ?_
  refine SL.v (.bool false) ?_
  refine SL.go ?_
  refine SL.v (.slice (some ⟨g_128, 0, none⟩) 1 cap_129) ?_
  refine SL.go ?_
  refine SL.v (.pointer (some ⟨g_128, 0, none⟩)) ?_
  refine SL.go ?_
  refine SL.v (.pointer (some ⟨g_128, 0, none⟩)) ?_
  refine SL.go ?_
  refine SL.load (g := g_128) (off := 0) (v := .int .i64 4) rfl rfl rfl (by kernel_rfl) (hs_153.gr.blk hb_135) (by kernel_rfl) ?_
  refine SL.go ?_
  refine SL.v (.bool false) ?_
  refine SL.v (.bool false) ?_
  refine SL.v (.bool false) ?_
  refine SL.go ?_
  refine SL.v (.slice (some ⟨g_128, 0, none⟩) 1 cap_129) ?_
  refine SL.go ?_
  refine SL.v (.pointer (some ⟨g_128, 0, none⟩)) ?_
  refine SL.go ?_
  refine SL.load (g := g_128) (off := 0) (v := .agg #[.int .i64 4, .int .u8 114, .int .u8 0, .slice a_131 2 c_132, .string (strOf ([])), .slice a_133 0 c_134]) rfl rfl rfl (by kernel_rfl) (hs_153.gr.blk hb_135) (by kernel_rfl) ?_
  refine SL.go ?_
  refine SL.call (f := 7) (args := #[.agg #[.int .i64 4, .int .u8 114, .int .u8 0, .slice a_131 2 c_132, .string (strOf ([])), .slice a_133 0 c_134]]) (w1 := w_138) rfl rfl (by kernel_rfl) (tid_any (k := 4) (c := 114) (m := 0) (l := []) (by decide) (by decide)) ?_
  rintro x w_154 ⟨rfl, hc_155⟩
  refine ⟨.string ⟨#[114]⟩, rfl, ?_⟩
  have hs_156 := hs_153.grow hc_155
  refine SL.go ?_
  refine SL.v (.string ⟨#[114]⟩) ?_
  refine SL.go ?_
  refine SL.val (v := .bool false) (w' := w_154) rfl rfl (run_strneB (a := ⟨#[114]⟩) (b := ⟨#[114]⟩) (c := true) rfl (by kernel_rfl) (by kernel_rfl) (by kernel_rfl)) ?_
  refine SL.v (.bool false) ?_
  refine SL.v (.bool false) ?_
  refine SL.go ?_
  refine SL.v (.slice (some ⟨g_128, 0, none⟩) 1 cap_129) ?_
  refine SL.go ?_
  refine SL.v (.pointer (some ⟨g_128, 0, none⟩)) ?_
  refine SL.go ?_
  refine SL.v (.pointer (some ⟨g_128, 3, none⟩)) ?_
  refine SL.go ?_
  refine SL.load (g := g_128) (off := 3) (v := .slice a_131 2 c_132) rfl rfl rfl (by kernel_rfl) (hs_156.gr.blk hb_135) (by kernel_rfl) ?_
  refine SL.go ?_
  refine SL.val (v := .int .i64 2) (w' := w_154) rfl rfl (by kernel_rfl) ?_
  refine SL.go ?_
  refine SL.v (.bool false) ?_
  refine SL.v (.bool false) ?_
  refine SL.nil ?_
  refine CW.cond_false (by kernel_rfl) ?_
  refine CW.skip ?_
  refine CW.seq ?_
  refine CW.region ?_
  refine SL.v (.string (strOf (fmtR ([c.clean.mt + 1, c.clean.mb]) ++ [114]))) ?_
  refine SL.newH (mk := fun g => .slice (some ⟨g, 0, none⟩) 1 1) (C := #[.int .i64 1]) (T := 3) hs_156 rfl rfl (by kernel_rfl) (fun g_157 w_158 hs_159 => ?_)
  have hs_159 : SH [] w_138 w_158 [pt g_157 #[.int .i64 1] 3] := hs_159
  refine SL.call (f := 8) (args := #[.bool false, .string ⟨#[36, 114]⟩, .string (strOf (fmtR ([c.clean.mt + 1, c.clean.mb]) ++ [114])), .slice (some ⟨g_157, 0, none⟩) 1 1]) (w1 := w_158) rfl rfl (by kernel_rfl) (dcs_set (l := fmtR ([c.clean.mt + 1, c.clean.mb]) ++ [114]) (hs_159.pt_at (i := 0) rfl) (set_dat (by decide) (by decide)) (set_b (by decide)) (hT.gr (hG_152.trans hs_159.gr))) ?_
  rintro x w_164 ⟨va_160, vc_161, rfl, hr_162, hc_165⟩
  refine ⟨_, rfl, ?_⟩
  have hs_166 := hs_159.grow hc_165
  have hb_167 := hs_166.gr.blk hb_141
  have hb_168 := hs_166.gr.blk hb_142
  have hb_169 := hs_166.gr.blk hb_143
  have hb_170 := hs_166.gr.blk hb_144
  have hb_171 := hs_166.gr.blk hb_145
  have hb_172 := hs_166.gr.blk hb_146
  have hb_173 := hs_166.gr.blk hb_135
  have hr_174 := hr_147.gr hs_166.gr
  have hr_175 := hr_148.gr hs_166.gr
  have hr_176 := hr_149.gr hs_166.gr
  have hr_177 := hr_150.gr hs_166.gr
  have hr_178 := hr_151.gr hs_166.gr
  have hr_179 := hr_136.gr hs_166.gr
  have hb_180 : w_164.heap[g_157]? = some (.cells #[.int .i64 1] 3 (0, 0)) := (hs_166.pt_at (i := 0) rfl)
  have hG_181 := (hG_152.trans hs_166.gr)
  have hs_182 := SH.none w_164
  refine SL.call (f := 6) (args := #[.slice va_160 ((bytesR (dcsT (fmtR ([c.clean.mt + 1, c.clean.mb]) ++ [114])) false).length) vc_161]) (w1 := w_164) rfl rfl (by kernel_rfl) (split_1 (t := (dcsT (fmtR ([c.clean.mt + 1, c.clean.mb]) ++ [114]))) (dcsT_can (set_dat (by decide) (by decide))) (set_b (by decide)) rfl (hr_162.gr hs_182.gr)) ?_
  rintro x w_193 ⟨g_183, cap_184, pad_185, a_186, c_187, a_188, c_189, rfl, hb_190, hr_191, hc_194⟩
  refine ⟨_, rfl, ?_⟩
  have hs_195 := hs_182.grow hc_194
  have hb_196 := hs_195.gr.blk hb_167
  have hb_197 := hs_195.gr.blk hb_168
  have hb_198 := hs_195.gr.blk hb_169
  have hb_199 := hs_195.gr.blk hb_170
  have hb_200 := hs_195.gr.blk hb_171
  have hb_201 := hs_195.gr.blk hb_172
  have hb_202 := hs_195.gr.blk hb_173
  have hb_203 := hs_195.gr.blk hb_180
  have hr_204 := hr_174.gr hs_195.gr
  have hr_205 := hr_175.gr hs_195.gr
  have hr_206 := hr_176.gr hs_195.gr
  have hr_207 := hr_177.gr hs_195.gr
  have hr_208 := hr_178.gr hs_195.gr
  have hr_209 := hr_179.gr hs_195.gr
  have hr_210 := hr_162.gr hs_195.gr
  have hG_211 := (hG_181.trans hs_195.gr)
  have hs_212 := SH.none w_193
  refine SL.v (.slice (some ⟨g_183, 0, none⟩) 1 cap_184) ?_
  refine SL.nil ?_
  refine CW.seq ?_
  refine CW.region ?_
  refine SL.v (.slice (some ⟨g_183, 0, none⟩) 1 cap_184) ?_
  refine SL.val (v := .int .i64 1) (w' := w_193) rfl rfl (by kernel_rfl) ?_
  refine SL.v (.bool false) ?_
  refine SL.v (.bool false) ?_
  refine SL.go ?_
  refine SL.v (.slice (some ⟨g_183, 0, none⟩) 1 cap_184) ?_
  refine SL.go ?_
  refine SL.v (.pointer (some ⟨g_183, 0, none⟩)) ?_
  refine SL.go ?_
  refine SL.v (.pointer (some ⟨g_183, 5, none⟩)) ?_
  refine SL.go ?_
  refine SL.load (g := g_183) (off := 5) (v := .slice a_188 ((fmtR ([c.clean.mt + 1, c.clean.mb]) ++ [114]).length) c_189) rfl rfl rfl (by kernel_rfl) (hs_212.gr.blk hb_190) (by kernel_rfl) ?_
  refine SL.go ?_
  refine SL.val (v := .string (strOf (fmtR ([c.clean.mt + 1, c.clean.mb]) ++ [114]))) (w' := w_193) rfl rfl (run_conv rfl (by kernel_rfl) (conv_row (hr_191.gr hs_212.gr))) ?_
  refine SL.go ?_
  refine SL.v (.string (strOf (fmtR ([c.clean.mt + 1, c.clean.mb]) ++ [114]))) ?_
  refine SL.go ?_
  refine SL.val (v := .bool false) (w' := w_193) rfl rfl (run_strneB (a := strOf (fmtR ([c.clean.mt + 1, c.clean.mb]) ++ [114])) (b := strOf (fmtR ([c.clean.mt + 1, c.clean.mb]) ++ [114])) (c := true) rfl (by kernel_rfl) (by kernel_rfl) (seqB_self _)) ?_
  refine SL.v (.bool false) ?_
  refine SL.nil ?_
  refine CW.cond_false (by kernel_rfl) ?_
  refine CW.skip ?_
  refine CW.region ?_
  refine SL.v (.int .i64 2) ?_
  refine SL.v (.int .i64 2) ?_
  refine SL.nil ?_
  refine CR.fresh (fun e9 => e9 2 = .bool false ∧ e9 3 = .pointer (some ⟨g_11, 0, none⟩) ∧ e9 34 = .slice (some ⟨g_16, 0, none⟩) 10 10 ∧ e9 35 = .int .i64 10 ∧ e9 36 = .int .i64 2) ⟨(by kernel_rfl), (by kernel_rfl), (by kernel_rfl), (by kernel_rfl), (by kernel_rfl)⟩ ?_
  rintro e_213 ⟨hv_215, hv_216, hv_217, hv_218, hv_219⟩
  obtain ⟨e_214, rfl⟩ : ∃ e_214, e_213 = put1 (put1 (put1 (put1 (put1 e_214 2 (.bool false)) 3 (.pointer (some ⟨g_11, 0, none⟩))) 34 (.slice (some ⟨g_16, 0, none⟩) 10 10)) 35 (.int .i64 10)) 36 (.int .i64 2) := ⟨e_213, (put_self hv_219).trans (congrArg (fun z => put1 z 36 (.int .i64 2)) ((put_self hv_218).trans (congrArg (fun z => put1 z 35 (.int .i64 10)) ((put_self hv_217).trans (congrArg (fun z => put1 z 34 (.slice (some ⟨g_16, 0, none⟩) 10 10)) ((put_self hv_216).trans (congrArg (fun z => put1 z 3 (.pointer (some ⟨g_11, 0, none⟩))) (put_self hv_215))))))))⟩
  clear hv_215 hv_216 hv_217 hv_218 hv_219
  refine CR.more ?_
  refine CW.seq ?_
  refine CW.region ?_
  refine SL.v (.bool true) ?_
  refine SL.nil ?_
  refine CW.seq ?_
  refine CW.cond_true (by kernel_rfl) ?_
  refine CW.skip ?_
  refine CW.seq ?_
  refine CW.block ?_
  refine CW.seq ?_
  refine CW.region ?_
  refine SL.v (.pointer (some ⟨g_16, 2, none⟩)) ?_
  refine SL.load (g := g_16) (off := 2) (v := .string ⟨#[115]⟩) rfl rfl rfl (by kernel_rfl) (hs_212.gr.blk hb_198) (by kernel_rfl) ?_
  refine SL.v (.string ⟨#[115]⟩) ?_
  refine SL.nil ?_
  refine CW.seq ?_
  refine CW.region ?_
  refine SL.load (g := g_11) (off := 0) (v := .agg (cvA c)) rfl rfl rfl (by kernel_rfl) (hs_212.gr.blk hb_197) (by kernel_rfl) ?_
  refine SL.v (.string ⟨#[115]⟩) ?_
  refine SL.call (f := 5) (args := #[.agg (cvA c), .string ⟨#[115]⟩]) (w1 := w_193) rfl rfl (by kernel_rfl) (setl_2 c w_193 hok (hT.gr (hG_211.trans hs_212.gr))) ?_
  rintro x w_220 ⟨rfl, hc_221⟩
  refine ⟨.tuple #[.string (strOf (fmtR ([c.clean.ml + 1, c.clean.mr]) ++ [115])), .bool true], rfl, ?_⟩
  have hs_222 := hs_212.grow hc_221
  refine SL.v (.tuple #[.string (strOf (fmtR ([c.clean.ml + 1, c.clean.mr]) ++ [115])), .bool true]) ?_
  refine SL.v (.string (strOf (fmtR ([c.clean.ml + 1, c.clean.mr]) ++ [115]))) ?_
  refine SL.v (.bool true) ?_
  refine SL.v (.string (strOf (fmtR ([c.clean.ml + 1, c.clean.mr]) ++ [115]))) ?_
  refine SL.v (.bool true) ?_
  refine SL.nil ?_
  refine CW.seq ?_
  refine CW.region ?_
  refine SL.v (.string (strOf (fmtR ([c.clean.ml + 1, c.clean.mr]) ++ [115]))) ?_
  refine SL.val (v := .string (strOf ([27, 91] ++ (fmtR ([c.clean.ml + 1, c.clean.mr]) ++ [115])))) (w' := w_220) rfl rfl (run_catL (a := [27, 91]) (b := fmtR ([c.clean.ml + 1, c.clean.mr]) ++ [115]) rfl (by kernel_rfl) (by kernel_rfl) (by decide) (Nat.le_trans (set_l (by decide)) (by decide))) ?_
  refine SL.bytesR (l := [27, 91] ++ (fmtR ([c.clean.ml + 1, c.clean.mr]) ++ [115])) rfl rfl rfl (Tryd.underlying9) (Tryd.underlying50) (Tryd.underlying5) (by kernel_rfl) (cat_b (by decide) (set_b (by decide))) (fun g_223 cap_224 w_225 hr_226 hg_227 => ?_)
  have hs_228 := hs_222.grow hg_227
  have hb_230 := hs_228.gr.blk hb_196
  have hb_231 := hs_228.gr.blk hb_197
  have hb_232 := hs_228.gr.blk hb_198
  have hb_233 := hs_228.gr.blk hb_199
  have hb_234 := hs_228.gr.blk hb_200
  have hb_235 := hs_228.gr.blk hb_201
  have hb_236 := hs_228.gr.blk hb_202
  have hb_237 := hs_228.gr.blk hb_203
  have hb_238 := hs_228.gr.blk hb_190
  have hr_239 := hr_204.gr hs_228.gr
  have hr_240 := hr_205.gr hs_228.gr
  have hr_241 := hr_206.gr hs_228.gr
  have hr_242 := hr_207.gr hs_228.gr
  have hr_243 := hr_208.gr hs_228.gr
  have hr_244 := hr_209.gr hs_228.gr
  have hr_245 := hr_210.gr hs_228.gr
  have hr_246 := hr_191.gr hs_228.gr
  have hG_247 := (hG_211.trans hs_228.gr)
  have hs_248 := SH.none w_225
  refine SL.call (f := 6) (args := #[.slice (some ⟨g_223, 0, none⟩) (([27, 91] ++ (fmtR ([c.clean.ml + 1, c.clean.mr]) ++ [115])).length) cap_224]) (w1 := w_225) rfl rfl (by kernel_rfl) (split_1 (t := (setT 115 [] ([c.clean.ml + 1, c.clean.mr]))) (setT_can (by decide) ⟨by decide, by decide⟩ hN2) (by intro c_ h_; cases h_) (setT_bytes 115 [] ([c.clean.ml + 1, c.clean.mr])) (hr_226.gr hs_248.gr)) ?_
  rintro x w_259 ⟨g_249, cap_250, pad_251, a_252, c_253, a_254, c_255, rfl, hb_256, hr_257, hc_260⟩
  refine ⟨_, rfl, ?_⟩
  have hs_261 := hs_248.grow hc_260
  have hb_262 := hs_261.gr.blk hb_230
  have hb_263 := hs_261.gr.blk hb_231
  have hb_264 := hs_261.gr.blk hb_232
  have hb_265 := hs_261.gr.blk hb_233
  have hb_266 := hs_261.gr.blk hb_234
  have hb_267 := hs_261.gr.blk hb_235
  have hb_268 := hs_261.gr.blk hb_236
  have hb_269 := hs_261.gr.blk hb_237
  have hb_270 := hs_261.gr.blk hb_238
  have hr_271 := hr_239.gr hs_261.gr
  have hr_272 := hr_240.gr hs_261.gr
  have hr_273 := hr_241.gr hs_261.gr
  have hr_274 := hr_242.gr hs_261.gr
  have hr_275 := hr_243.gr hs_261.gr
  have hr_276 := hr_244.gr hs_261.gr
  have hr_277 := hr_245.gr hs_261.gr
  have hr_278 := hr_246.gr hs_261.gr
  have hr_279 := hr_226.gr hs_261.gr
  have hG_280 := (hG_247.trans hs_261.gr)
  have hs_281 := SH.none w_259
  refine SL.v (.slice (some ⟨g_249, 0, none⟩) 1 cap_250) ?_
  refine SL.nil ?_
  refine CW.seq ?_
  refine CW.seq ?_
  refine CW.region ?_
  refine SL.v (.bool true) ?_
  refine SL.v (.bool false) ?_
  refine SL.v (.bool false) ?_
  refine SL.go ?_
  refine SL.v (.slice (some ⟨g_249, 0, none⟩) 1 cap_250) ?_
  refine SL.go ?_
  refine SL.val (v := .int .i64 1) (w' := w_259) rfl rfl (by kernel_rfl) ?_
  refine SL.go ?_
  refine SL.v (.bool false) ?_
  refine SL.v (.bool false) ?_
  refine SL.v (.bool false) ?_
  refine SL.go ?_
  refine SL.v (.slice (some ⟨g_249, 0, none⟩) 1 cap_250) ?_
  refine SL.go ?_
  refine SL.v (.pointer (some ⟨g_249, 0, none⟩)) ?_
  refine SL.go ?_
  refine SL.v (.pointer (some ⟨g_249, 0, none⟩)) ?_
  refine SL.go ?_
  refine SL.load (g := g_249) (off := 0) (v := .int .i64 4) rfl rfl rfl (by kernel_rfl) (hs_281.gr.blk hb_256) (by kernel_rfl) ?_
  refine SL.go ?_
  refine SL.v (.bool false) ?_
  refine SL.v (.bool false) ?_
  refine SL.v (.bool false) ?_
  refine SL.go ?_
  refine SL.v (.slice (some ⟨g_249, 0, none⟩) 1 cap_250) ?_
  refine SL.go ?_
  refine SL.v (.pointer (some ⟨g_249, 0, none⟩)) ?_
  refine SL.go ?_
  refine SL.load (g := g_249) (off := 0) (v := .agg #[.int .i64 4, .int .u8 115, .int .u8 0, .slice a_252 2 c_253, .string (strOf ([])), .slice a_254 0 c_255]) rfl rfl rfl (by kernel_rfl) (hs_281.gr.blk hb_256) (by kernel_rfl) ?_
  refine SL.go ?_
  refine SL.call (f := 7) (args := #[.agg #[.int .i64 4, .int .u8 115, .int .u8 0, .slice a_252 2 c_253, .string (strOf ([])), .slice a_254 0 c_255]]) (w1 := w_259) rfl rfl (by kernel_rfl) (tid_any (k := 4) (c := 115) (m := 0) (l := []) (by decide) (by decide)) ?_
  rintro x w_282 ⟨rfl, hc_283⟩
  refine ⟨.string ⟨#[115]⟩, rfl, ?_⟩
  have hs_284 := hs_281.grow hc_283
  refine SL.go ?_
  refine SL.v (.string ⟨#[115]⟩) ?_
  refine SL.go ?_
  refine SL.val (v := .bool false) (w' := w_282) rfl rfl (run_strneB (a := ⟨#[115]⟩) (b := ⟨#[115]⟩) (c := true) rfl (by kernel_rfl) (by kernel_rfl) (by kernel_rfl)) ?_
  refine SL.v (.bool false) ?_
  refine SL.v (.bool false) ?_
  refine SL.go ?_
  refine SL.v (.slice (some ⟨g_249, 0, none⟩) 1 cap_250) ?_
  refine SL.go ?_
  refine SL.v (.pointer (some ⟨g_249, 0, none⟩)) ?_
  refine SL.go ?_
  refine SL.v (.pointer (some ⟨g_249, 3, none⟩)) ?_
  refine SL.go ?_
  refine SL.load (g := g_249) (off := 3) (v := .slice a_252 2 c_253) rfl rfl rfl (by kernel_rfl) (hs_284.gr.blk hb_256) (by kernel_rfl) ?_
  refine SL.go ?_
  refine SL.val (v := .int .i64 2) (w' := w_282) rfl rfl (by kernel_rfl) ?_
  refine SL.go ?_
  refine SL.v (.bool false) ?_
  refine SL.v (.bool false) ?_
  refine SL.nil ?_
  refine CW.cond_false (by kernel_rfl) ?_
  refine CW.skip ?_
  refine CW.seq ?_
  refine CW.region ?_
  refine SL.v (.string (strOf (fmtR ([c.clean.ml + 1, c.clean.mr]) ++ [115]))) ?_
  refine SL.newH (mk := fun g => .slice (some ⟨g, 0, none⟩) 1 1) (C := #[.int .i64 1]) (T := 3) hs_284 rfl rfl (by kernel_rfl) (fun g_285 w_286 hs_287 => ?_)
  have hs_287 : SH [] w_259 w_286 [pt g_285 #[.int .i64 1] 3] := hs_287
  refine SL.call (f := 8) (args := #[.bool false, .string ⟨#[36, 114]⟩, .string (strOf (fmtR ([c.clean.ml + 1, c.clean.mr]) ++ [115])), .slice (some ⟨g_285, 0, none⟩) 1 1]) (w1 := w_286) rfl rfl (by kernel_rfl) (dcs_set (l := fmtR ([c.clean.ml + 1, c.clean.mr]) ++ [115]) (hs_287.pt_at (i := 0) rfl) (set_dat (by decide) (by decide)) (set_b (by decide)) (hT.gr (hG_280.trans hs_287.gr))) ?_
  rintro x w_292 ⟨va_288, vc_289, rfl, hr_290, hc_293⟩
  refine ⟨_, rfl, ?_⟩
  have hs_294 := hs_287.grow hc_293
  have hb_295 := hs_294.gr.blk hb_262
  have hb_296 := hs_294.gr.blk hb_263
  have hb_297 := hs_294.gr.blk hb_264
  have hb_298 := hs_294.gr.blk hb_265
  have hb_299 := hs_294.gr.blk hb_266
  have hb_300 := hs_294.gr.blk hb_267
  have hb_301 := hs_294.gr.blk hb_268
  have hb_302 := hs_294.gr.blk hb_269
  have hb_303 := hs_294.gr.blk hb_270
  have hb_304 := hs_294.gr.blk hb_256
  have hr_305 := hr_271.gr hs_294.gr
  have hr_306 := hr_272.gr hs_294.gr
  have hr_307 := hr_273.gr hs_294.gr
  have hr_308 := hr_274.gr hs_294.gr
  have hr_309 := hr_275.gr hs_294.gr
  have hr_310 := hr_276.gr hs_294.gr
  have hr_311 := hr_277.gr hs_294.gr
  have hr_312 := hr_278.gr hs_294.gr
  have hr_313 := hr_279.gr hs_294.gr
  have hr_314 := hr_257.gr hs_294.gr
  have hb_315 : w_292.heap[g_285]? = some (.cells #[.int .i64 1] 3 (0, 0)) := (hs_294.pt_at (i := 0) rfl)
  have hG_316 := (hG_280.trans hs_294.gr)
  have hs_317 := SH.none w_292
  refine SL.call (f := 6) (args := #[.slice va_288 ((bytesR (dcsT (fmtR ([c.clean.ml + 1, c.clean.mr]) ++ [115])) false).length) vc_289]) (w1 := w_292) rfl rfl (by kernel_rfl) (split_1 (t := (dcsT (fmtR ([c.clean.ml + 1, c.clean.mr]) ++ [115]))) (dcsT_can (set_dat (by decide) (by decide))) (set_b (by decide)) rfl (hr_290.gr hs_317.gr)) ?_
  rintro x w_328 ⟨g_318, cap_319, pad_320, a_321, c_322, a_323, c_324, rfl, hb_325, hr_326, hc_329⟩
  refine ⟨_, rfl, ?_⟩
  have hs_330 := hs_317.grow hc_329
  have hb_331 := hs_330.gr.blk hb_295
  have hb_332 := hs_330.gr.blk hb_296
  have hb_333 := hs_330.gr.blk hb_297
  have hb_334 := hs_330.gr.blk hb_298
  have hb_335 := hs_330.gr.blk hb_299
  have hb_336 := hs_330.gr.blk hb_300
  have hb_337 := hs_330.gr.blk hb_301
  have hb_338 := hs_330.gr.blk hb_302
  have hb_339 := hs_330.gr.blk hb_303
  have hb_340 := hs_330.gr.blk hb_304
  have hb_341 := hs_330.gr.blk hb_315
  have hr_342 := hr_305.gr hs_330.gr
  have hr_343 := hr_306.gr hs_330.gr
  have hr_344 := hr_307.gr hs_330.gr
  have hr_345 := hr_308.gr hs_330.gr
  have hr_346 := hr_309.gr hs_330.gr
  have hr_347 := hr_310.gr hs_330.gr
  have hr_348 := hr_311.gr hs_330.gr
  have hr_349 := hr_312.gr hs_330.gr
  have hr_350 := hr_313.gr hs_330.gr
  have hr_351 := hr_314.gr hs_330.gr
  have hr_352 := hr_290.gr hs_330.gr
  have hG_353 := (hG_316.trans hs_330.gr)
  have hs_354 := SH.none w_328
  refine SL.v (.slice (some ⟨g_318, 0, none⟩) 1 cap_319) ?_
  refine SL.nil ?_
  refine CW.seq ?_
  refine CW.region ?_
  refine SL.v (.slice (some ⟨g_318, 0, none⟩) 1 cap_319) ?_
  refine SL.val (v := .int .i64 1) (w' := w_328) rfl rfl (by kernel_rfl) ?_
  refine SL.v (.bool false) ?_
  refine SL.v (.bool false) ?_
  refine SL.go ?_
  refine SL.v (.slice (some ⟨g_318, 0, none⟩) 1 cap_319) ?_
  refine SL.go ?_
  refine SL.v (.pointer (some ⟨g_318, 0, none⟩)) ?_
  refine SL.go ?_
  refine SL.v (.pointer (some ⟨g_318, 5, none⟩)) ?_
  refine SL.go ?_
  refine SL.load (g := g_318) (off := 5) (v := .slice a_323 ((fmtR ([c.clean.ml + 1, c.clean.mr]) ++ [115]).length) c_324) rfl rfl rfl (by kernel_rfl) (hs_354.gr.blk hb_325) (by kernel_rfl) ?_
  refine SL.go ?_
  refine SL.val (v := .string (strOf (fmtR ([c.clean.ml + 1, c.clean.mr]) ++ [115]))) (w' := w_328) rfl rfl (run_conv rfl (by kernel_rfl) (conv_row (hr_326.gr hs_354.gr))) ?_
  refine SL.go ?_
  refine SL.v (.string (strOf (fmtR ([c.clean.ml + 1, c.clean.mr]) ++ [115]))) ?_
  refine SL.go ?_
  refine SL.val (v := .bool false) (w' := w_328) rfl rfl (run_strneB (a := strOf (fmtR ([c.clean.ml + 1, c.clean.mr]) ++ [115])) (b := strOf (fmtR ([c.clean.ml + 1, c.clean.mr]) ++ [115])) (c := true) rfl (by kernel_rfl) (by kernel_rfl) (seqB_self _)) ?_
  refine SL.v (.bool false) ?_
  refine SL.nil ?_
  refine CW.cond_false (by kernel_rfl) ?_
  refine CW.skip ?_
  refine CW.region ?_
  refine SL.v (.int .i64 3) ?_
  refine SL.v (.int .i64 3) ?_
  refine SL.nil ?_
  refine CR.fresh (fun e9 => e9 2 = .bool false ∧ e9 3 = .pointer (some ⟨g_11, 0, none⟩) ∧ e9 34 = .slice (some ⟨g_16, 0, none⟩) 10 10 ∧ e9 35 = .int .i64 10 ∧ e9 36 = .int .i64 3) ⟨(by kernel_rfl), (by kernel_rfl), (by kernel_rfl), (by kernel_rfl), (by kernel_rfl)⟩ ?_
  rintro e_355 ⟨hv_357, hv_358, hv_359, hv_360, hv_361⟩
  obtain ⟨e_356, rfl⟩ : ∃ e_356, e_355 = put1 (put1 (put1 (put1 (put1 e_356 2 (.bool false)) 3 (.pointer (some ⟨g_11, 0, none⟩))) 34 (.slice (some ⟨g_16, 0, none⟩) 10 10)) 35 (.int .i64 10)) 36 (.int .i64 3) := ⟨e_355, (put_self hv_361).trans (congrArg (fun z => put1 z 36 (.int .i64 3)) ((put_self hv_360).trans (congrArg (fun z => put1 z 35 (.int .i64 10)) ((put_self hv_359).trans (congrArg (fun z => put1 z 34 (.slice (some ⟨g_16, 0, none⟩) 10 10)) ((put_self hv_358).trans (congrArg (fun z => put1 z 3 (.pointer (some ⟨g_11, 0, none⟩))) (put_self hv_357))))))))⟩
  clear hv_357 hv_358 hv_359 hv_360 hv_361
  refine CR.more ?_
  refine CW.seq ?_
  refine CW.region ?_
  refine SL.v (.bool true) ?_
  refine SL.nil ?_
  refine CW.seq ?_
  refine CW.cond_true (by kernel_rfl) ?_
  refine CW.skip ?_
  refine CW.seq ?_
  refine CW.block ?_
  refine CW.seq ?_
  refine CW.region ?_
  refine SL.v (.pointer (some ⟨g_16, 3, none⟩)) ?_
  refine SL.load (g := g_16) (off := 3) (v := .string ⟨#[34, 113]⟩) rfl rfl rfl (by kernel_rfl) (hs_354.gr.blk hb_333) (by kernel_rfl) ?_
  refine SL.v (.string ⟨#[34, 113]⟩) ?_
  refine SL.nil ?_
  refine CW.seq ?_
  refine CW.region ?_
  refine SL.load (g := g_11) (off := 0) (v := .agg (cvA c)) rfl rfl rfl (by kernel_rfl) (hs_354.gr.blk hb_332) (by kernel_rfl) ?_
  refine SL.v (.string ⟨#[34, 113]⟩) ?_
  refine SL.call (f := 5) (args := #[.agg (cvA c), .string ⟨#[34, 113]⟩]) (w1 := w_328) rfl rfl (by kernel_rfl) (setl_3 c w_328 hok (hT.gr (hG_353.trans hs_354.gr))) ?_
  rintro x w_362 ⟨rfl, hc_363⟩
  refine ⟨.tuple #[.string (strOf (fmtR ([flagZ c.clean.kept]) ++ [34, 113])), .bool true], rfl, ?_⟩
  have hs_364 := hs_354.grow hc_363
  refine SL.v (.tuple #[.string (strOf (fmtR ([flagZ c.clean.kept]) ++ [34, 113])), .bool true]) ?_
  refine SL.v (.string (strOf (fmtR ([flagZ c.clean.kept]) ++ [34, 113]))) ?_
  refine SL.v (.bool true) ?_
  refine SL.v (.string (strOf (fmtR ([flagZ c.clean.kept]) ++ [34, 113]))) ?_
  refine SL.v (.bool true) ?_
  refine SL.nil ?_
  refine CW.seq ?_
  refine CW.region ?_
  refine SL.v (.string (strOf (fmtR ([flagZ c.clean.kept]) ++ [34, 113]))) ?_
  refine SL.val (v := .string (strOf ([27, 91] ++ (fmtR ([flagZ c.clean.kept]) ++ [34, 113])))) (w' := w_362) rfl rfl (run_catL (a := [27, 91]) (b := fmtR ([flagZ c.clean.kept]) ++ [34, 113]) rfl (by kernel_rfl) (by kernel_rfl) (by decide) (Nat.le_trans (set_l (by decide)) (by decide))) ?_
  refine SL.bytesR (l := [27, 91] ++ (fmtR ([flagZ c.clean.kept]) ++ [34, 113])) rfl rfl rfl (Tryd.underlying9) (Tryd.underlying50) (Tryd.underlying5) (by kernel_rfl) (cat_b (by decide) (set_b (by decide))) (fun g_365 cap_366 w_367 hr_368 hg_369 => ?_)
  have hs_370 := hs_364.grow hg_369
  have hb_372 := hs_370.gr.blk hb_331
  have hb_373 := hs_370.gr.blk hb_332
  have hb_374 := hs_370.gr.blk hb_333
  have hb_375 := hs_370.gr.blk hb_334
  have hb_376 := hs_370.gr.blk hb_335
  have hb_377 := hs_370.gr.blk hb_336
  have hb_378 := hs_370.gr.blk hb_337
  have hb_379 := hs_370.gr.blk hb_338
  have hb_380 := hs_370.gr.blk hb_339
  have hb_381 := hs_370.gr.blk hb_340
  have hb_382 := hs_370.gr.blk hb_341
  have hb_383 := hs_370.gr.blk hb_325
  have hr_384 := hr_342.gr hs_370.gr
  have hr_385 := hr_343.gr hs_370.gr
  have hr_386 := hr_344.gr hs_370.gr
  have hr_387 := hr_345.gr hs_370.gr
  have hr_388 := hr_346.gr hs_370.gr
  have hr_389 := hr_347.gr hs_370.gr
  have hr_390 := hr_348.gr hs_370.gr
  have hr_391 := hr_349.gr hs_370.gr
  have hr_392 := hr_350.gr hs_370.gr
  have hr_393 := hr_351.gr hs_370.gr
  have hr_394 := hr_352.gr hs_370.gr
  have hr_395 := hr_326.gr hs_370.gr
  have hG_396 := (hG_353.trans hs_370.gr)
  have hs_397 := SH.none w_367
  refine SL.call (f := 6) (args := #[.slice (some ⟨g_365, 0, none⟩) (([27, 91] ++ (fmtR ([flagZ c.clean.kept]) ++ [34, 113])).length) cap_366]) (w1 := w_367) rfl rfl (by kernel_rfl) (split_1 (t := (setT 113 [34] ([flagZ c.clean.kept]))) (setT_can (by decide) ⟨by decide, by decide⟩ hN3) (by intro c_ h_; cases h_) (setT_bytes 113 [34] ([flagZ c.clean.kept])) (hr_368.gr hs_397.gr)) ?_
  rintro x w_408 ⟨g_398, cap_399, pad_400, a_401, c_402, a_403, c_404, rfl, hb_405, hr_406, hc_409⟩
  refine ⟨_, rfl, ?_⟩
  have hs_410 := hs_397.grow hc_409
  have hb_411 := hs_410.gr.blk hb_372
  have hb_412 := hs_410.gr.blk hb_373
  have hb_413 := hs_410.gr.blk hb_374
  have hb_414 := hs_410.gr.blk hb_375
  have hb_415 := hs_410.gr.blk hb_376
  have hb_416 := hs_410.gr.blk hb_377
  have hb_417 := hs_410.gr.blk hb_378
  have hb_418 := hs_410.gr.blk hb_379
  have hb_419 := hs_410.gr.blk hb_380
  have hb_420 := hs_410.gr.blk hb_381
  have hb_421 := hs_410.gr.blk hb_382
  have hb_422 := hs_410.gr.blk hb_383
  have hr_423 := hr_384.gr hs_410.gr
  have hr_424 := hr_385.gr hs_410.gr
  have hr_425 := hr_386.gr hs_410.gr
  have hr_426 := hr_387.gr hs_410.gr
  have hr_427 := hr_388.gr hs_410.gr
  have hr_428 := hr_389.gr hs_410.gr
  have hr_429 := hr_390.gr hs_410.gr
  have hr_430 := hr_391.gr hs_410.gr
  have hr_431 := hr_392.gr hs_410.gr
  have hr_432 := hr_393.gr hs_410.gr
  have hr_433 := hr_394.gr hs_410.gr
  have hr_434 := hr_395.gr hs_410.gr
  have hr_435 := hr_368.gr hs_410.gr
  have hG_436 := (hG_396.trans hs_410.gr)
  have hs_437 := SH.none w_408
  refine SL.v (.slice (some ⟨g_398, 0, none⟩) 1 cap_399) ?_
  refine SL.nil ?_
  refine CW.seq ?_
  refine CW.seq ?_
  refine CW.region ?_
  refine SL.v (.bool true) ?_
  refine SL.v (.bool false) ?_
  refine SL.v (.bool false) ?_
  refine SL.go ?_
  refine SL.v (.slice (some ⟨g_398, 0, none⟩) 1 cap_399) ?_
  refine SL.go ?_
  refine SL.val (v := .int .i64 1) (w' := w_408) rfl rfl (by kernel_rfl) ?_
  refine SL.go ?_
  refine SL.v (.bool false) ?_
  refine SL.v (.bool false) ?_
  refine SL.v (.bool false) ?_
  refine SL.go ?_
  refine SL.v (.slice (some ⟨g_398, 0, none⟩) 1 cap_399) ?_
  refine SL.go ?_
  refine SL.v (.pointer (some ⟨g_398, 0, none⟩)) ?_
  refine SL.go ?_
  refine SL.v (.pointer (some ⟨g_398, 0, none⟩)) ?_
  refine SL.go ?_
  refine SL.load (g := g_398) (off := 0) (v := .int .i64 4) rfl rfl rfl (by kernel_rfl) (hs_437.gr.blk hb_405) (by kernel_rfl) ?_
  refine SL.go ?_
  refine SL.v (.bool false) ?_
  refine SL.v (.bool false) ?_
  refine SL.v (.bool false) ?_
  refine SL.go ?_
  refine SL.v (.slice (some ⟨g_398, 0, none⟩) 1 cap_399) ?_
  refine SL.go ?_
  refine SL.v (.pointer (some ⟨g_398, 0, none⟩)) ?_
  refine SL.go ?_
  refine SL.load (g := g_398) (off := 0) (v := .agg #[.int .i64 4, .int .u8 113, .int .u8 0, .slice a_401 1 c_402, .string (strOf ([34])), .slice a_403 0 c_404]) rfl rfl rfl (by kernel_rfl) (hs_437.gr.blk hb_405) (by kernel_rfl) ?_
  refine SL.go ?_
  refine SL.call (f := 7) (args := #[.agg #[.int .i64 4, .int .u8 113, .int .u8 0, .slice a_401 1 c_402, .string (strOf ([34])), .slice a_403 0 c_404]]) (w1 := w_408) rfl rfl (by kernel_rfl) (tid_any (k := 4) (c := 113) (m := 0) (l := [34]) (by decide) (by decide)) ?_
  rintro x w_438 ⟨rfl, hc_439⟩
  refine ⟨.string ⟨#[34, 113]⟩, rfl, ?_⟩
  have hs_440 := hs_437.grow hc_439
  refine SL.go ?_
  refine SL.v (.string ⟨#[34, 113]⟩) ?_
  refine SL.go ?_
  refine SL.val (v := .bool false) (w' := w_438) rfl rfl (run_strneB (a := ⟨#[34, 113]⟩) (b := ⟨#[34, 113]⟩) (c := true) rfl (by kernel_rfl) (by kernel_rfl) (by kernel_rfl)) ?_
  refine SL.v (.bool false) ?_
  refine SL.v (.bool false) ?_
  refine SL.go ?_
  refine SL.v (.slice (some ⟨g_398, 0, none⟩) 1 cap_399) ?_
  refine SL.go ?_
  refine SL.v (.pointer (some ⟨g_398, 0, none⟩)) ?_
  refine SL.go ?_
  refine SL.v (.pointer (some ⟨g_398, 3, none⟩)) ?_
  refine SL.go ?_
  refine SL.load (g := g_398) (off := 3) (v := .slice a_401 1 c_402) rfl rfl rfl (by kernel_rfl) (hs_440.gr.blk hb_405) (by kernel_rfl) ?_
  refine SL.go ?_
  refine SL.val (v := .int .i64 1) (w' := w_438) rfl rfl (by kernel_rfl) ?_
  refine SL.go ?_
  refine SL.v (.bool false) ?_
  refine SL.v (.bool false) ?_
  refine SL.nil ?_
  refine CW.cond_false (by kernel_rfl) ?_
  refine CW.skip ?_
  refine CW.seq ?_
  refine CW.region ?_
  refine SL.v (.string (strOf (fmtR ([flagZ c.clean.kept]) ++ [34, 113]))) ?_
  refine SL.newH (mk := fun g => .slice (some ⟨g, 0, none⟩) 1 1) (C := #[.int .i64 1]) (T := 3) hs_440 rfl rfl (by kernel_rfl) (fun g_441 w_442 hs_443 => ?_)
  have hs_443 : SH [] w_408 w_442 [pt g_441 #[.int .i64 1] 3] := hs_443
  refine SL.call (f := 8) (args := #[.bool false, .string ⟨#[36, 114]⟩, .string (strOf (fmtR ([flagZ c.clean.kept]) ++ [34, 113])), .slice (some ⟨g_441, 0, none⟩) 1 1]) (w1 := w_442) rfl rfl (by kernel_rfl) (dcs_set (l := fmtR ([flagZ c.clean.kept]) ++ [34, 113]) (hs_443.pt_at (i := 0) rfl) (set_dat (by decide) (by decide)) (set_b (by decide)) (hT.gr (hG_436.trans hs_443.gr))) ?_
  rintro x w_448 ⟨va_444, vc_445, rfl, hr_446, hc_449⟩
  refine ⟨_, rfl, ?_⟩
  have hs_450 := hs_443.grow hc_449
  have hb_451 := hs_450.gr.blk hb_411
  have hb_452 := hs_450.gr.blk hb_412
  have hb_453 := hs_450.gr.blk hb_413
  have hb_454 := hs_450.gr.blk hb_414
  have hb_455 := hs_450.gr.blk hb_415
  have hb_456 := hs_450.gr.blk hb_416
  have hb_457 := hs_450.gr.blk hb_417
  have hb_458 := hs_450.gr.blk hb_418
  have hb_459 := hs_450.gr.blk hb_419
  have hb_460 := hs_450.gr.blk hb_420
  have hb_461 := hs_450.gr.blk hb_421
  have hb_462 := hs_450.gr.blk hb_422
  have hb_463 := hs_450.gr.blk hb_405
  have hr_464 := hr_423.gr hs_450.gr
  have hr_465 := hr_424.gr hs_450.gr
  have hr_466 := hr_425.gr hs_450.gr
  have hr_467 := hr_426.gr hs_450.gr
  have hr_468 := hr_427.gr hs_450.gr
  have hr_469 := hr_428.gr hs_450.gr
  have hr_470 := hr_429.gr hs_450.gr
  have hr_471 := hr_430.gr hs_450.gr
  have hr_472 := hr_431.gr hs_450.gr
  have hr_473 := hr_432.gr hs_450.gr
  have hr_474 := hr_433.gr hs_450.gr
  have hr_475 := hr_434.gr hs_450.gr
  have hr_476 := hr_435.gr hs_450.gr
  have hr_477 := hr_406.gr hs_450.gr
  have hb_478 : w_448.heap[g_441]? = some (.cells #[.int .i64 1] 3 (0, 0)) := (hs_450.pt_at (i := 0) rfl)
  have hG_479 := (hG_436.trans hs_450.gr)
  have hs_480 := SH.none w_448
  refine SL.call (f := 6) (args := #[.slice va_444 ((bytesR (dcsT (fmtR ([flagZ c.clean.kept]) ++ [34, 113])) false).length) vc_445]) (w1 := w_448) rfl rfl (by kernel_rfl) (split_1 (t := (dcsT (fmtR ([flagZ c.clean.kept]) ++ [34, 113]))) (dcsT_can (set_dat (by decide) (by decide))) (set_b (by decide)) rfl (hr_446.gr hs_480.gr)) ?_
  rintro x w_491 ⟨g_481, cap_482, pad_483, a_484, c_485, a_486, c_487, rfl, hb_488, hr_489, hc_492⟩
  refine ⟨_, rfl, ?_⟩
  have hs_493 := hs_480.grow hc_492
  have hb_494 := hs_493.gr.blk hb_451
  have hb_495 := hs_493.gr.blk hb_452
  have hb_496 := hs_493.gr.blk hb_453
  have hb_497 := hs_493.gr.blk hb_454
  have hb_498 := hs_493.gr.blk hb_455
  have hb_499 := hs_493.gr.blk hb_456
  have hb_500 := hs_493.gr.blk hb_457
  have hb_501 := hs_493.gr.blk hb_458
  have hb_502 := hs_493.gr.blk hb_459
  have hb_503 := hs_493.gr.blk hb_460
  have hb_504 := hs_493.gr.blk hb_461
  have hb_505 := hs_493.gr.blk hb_462
  have hb_506 := hs_493.gr.blk hb_463
  have hb_507 := hs_493.gr.blk hb_478
  have hr_508 := hr_464.gr hs_493.gr
  have hr_509 := hr_465.gr hs_493.gr
  have hr_510 := hr_466.gr hs_493.gr
  have hr_511 := hr_467.gr hs_493.gr
  have hr_512 := hr_468.gr hs_493.gr
  have hr_513 := hr_469.gr hs_493.gr
  have hr_514 := hr_470.gr hs_493.gr
  have hr_515 := hr_471.gr hs_493.gr
  have hr_516 := hr_472.gr hs_493.gr
  have hr_517 := hr_473.gr hs_493.gr
  have hr_518 := hr_474.gr hs_493.gr
  have hr_519 := hr_475.gr hs_493.gr
  have hr_520 := hr_476.gr hs_493.gr
  have hr_521 := hr_477.gr hs_493.gr
  have hr_522 := hr_446.gr hs_493.gr
  have hG_523 := (hG_479.trans hs_493.gr)
  have hs_524 := SH.none w_491
  refine SL.v (.slice (some ⟨g_481, 0, none⟩) 1 cap_482) ?_
  refine SL.nil ?_
  refine CW.seq ?_
  refine CW.region ?_
  refine SL.v (.slice (some ⟨g_481, 0, none⟩) 1 cap_482) ?_
  refine SL.val (v := .int .i64 1) (w' := w_491) rfl rfl (by kernel_rfl) ?_
  refine SL.v (.bool false) ?_
  refine SL.v (.bool false) ?_
  refine SL.go ?_
  refine SL.v (.slice (some ⟨g_481, 0, none⟩) 1 cap_482) ?_
  refine SL.go ?_
  refine SL.v (.pointer (some ⟨g_481, 0, none⟩)) ?_
  refine SL.go ?_
  refine SL.v (.pointer (some ⟨g_481, 5, none⟩)) ?_
  refine SL.go ?_
  refine SL.load (g := g_481) (off := 5) (v := .slice a_486 ((fmtR ([flagZ c.clean.kept]) ++ [34, 113]).length) c_487) rfl rfl rfl (by kernel_rfl) (hs_524.gr.blk hb_488) (by kernel_rfl) ?_
  refine SL.go ?_
  refine SL.val (v := .string (strOf (fmtR ([flagZ c.clean.kept]) ++ [34, 113]))) (w' := w_491) rfl rfl (run_conv rfl (by kernel_rfl) (conv_row (hr_489.gr hs_524.gr))) ?_
  refine SL.go ?_
  refine SL.v (.string (strOf (fmtR ([flagZ c.clean.kept]) ++ [34, 113]))) ?_
  refine SL.go ?_
  refine SL.val (v := .bool false) (w' := w_491) rfl rfl (run_strneB (a := strOf (fmtR ([flagZ c.clean.kept]) ++ [34, 113])) (b := strOf (fmtR ([flagZ c.clean.kept]) ++ [34, 113])) (c := true) rfl (by kernel_rfl) (by kernel_rfl) (seqB_self _)) ?_
  refine SL.v (.bool false) ?_
  refine SL.nil ?_
  refine CW.cond_false (by kernel_rfl) ?_
  refine CW.skip ?_
  refine CW.region ?_
  refine SL.v (.int .i64 4) ?_
  refine SL.v (.int .i64 4) ?_
  refine SL.nil ?_
  refine CR.fresh (fun e9 => e9 2 = .bool false ∧ e9 3 = .pointer (some ⟨g_11, 0, none⟩) ∧ e9 34 = .slice (some ⟨g_16, 0, none⟩) 10 10 ∧ e9 35 = .int .i64 10 ∧ e9 36 = .int .i64 4) ⟨(by kernel_rfl), (by kernel_rfl), (by kernel_rfl), (by kernel_rfl), (by kernel_rfl)⟩ ?_
  rintro e_525 ⟨hv_527, hv_528, hv_529, hv_530, hv_531⟩
  obtain ⟨e_526, rfl⟩ : ∃ e_526, e_525 = put1 (put1 (put1 (put1 (put1 e_526 2 (.bool false)) 3 (.pointer (some ⟨g_11, 0, none⟩))) 34 (.slice (some ⟨g_16, 0, none⟩) 10 10)) 35 (.int .i64 10)) 36 (.int .i64 4) := ⟨e_525, (put_self hv_531).trans (congrArg (fun z => put1 z 36 (.int .i64 4)) ((put_self hv_530).trans (congrArg (fun z => put1 z 35 (.int .i64 10)) ((put_self hv_529).trans (congrArg (fun z => put1 z 34 (.slice (some ⟨g_16, 0, none⟩) 10 10)) ((put_self hv_528).trans (congrArg (fun z => put1 z 3 (.pointer (some ⟨g_11, 0, none⟩))) (put_self hv_527))))))))⟩
  clear hv_527 hv_528 hv_529 hv_530 hv_531
  refine CR.more ?_
  refine CW.seq ?_
  refine CW.region ?_
  refine SL.v (.bool true) ?_
  refine SL.nil ?_
  refine CW.seq ?_
  refine CW.cond_true (by kernel_rfl) ?_
  refine CW.skip ?_
  refine CW.seq ?_
  refine CW.block ?_
  refine CW.seq ?_
  refine CW.region ?_
  refine SL.v (.pointer (some ⟨g_16, 4, none⟩)) ?_
  refine SL.load (g := g_16) (off := 4) (v := .string ⟨#[34, 112]⟩) rfl rfl rfl (by kernel_rfl) (hs_524.gr.blk hb_496) (by kernel_rfl) ?_
  refine SL.v (.string ⟨#[34, 112]⟩) ?_
  refine SL.nil ?_
  refine CW.seq ?_
  refine CW.region ?_
  refine SL.load (g := g_11) (off := 0) (v := .agg (cvA c)) rfl rfl rfl (by kernel_rfl) (hs_524.gr.blk hb_495) (by kernel_rfl) ?_
  refine SL.v (.string ⟨#[34, 112]⟩) ?_
  refine SL.call (f := 5) (args := #[.agg (cvA c), .string ⟨#[34, 112]⟩]) (w1 := w_491) rfl rfl (by kernel_rfl) (setl_4 c w_491 hok (hT.gr (hG_523.trans hs_524.gr))) ?_
  rintro x w_532 ⟨rfl, hc_533⟩
  refine ⟨.tuple #[.string (strOf (fmtR ([60 + c.clean.level, flagZ (!c.clean.eight)]) ++ [34, 112])), .bool true], rfl, ?_⟩
  have hs_534 := hs_524.grow hc_533
  refine SL.v (.tuple #[.string (strOf (fmtR ([60 + c.clean.level, flagZ (!c.clean.eight)]) ++ [34, 112])), .bool true]) ?_
  refine SL.v (.string (strOf (fmtR ([60 + c.clean.level, flagZ (!c.clean.eight)]) ++ [34, 112]))) ?_
  refine SL.v (.bool true) ?_
  refine SL.v (.string (strOf (fmtR ([60 + c.clean.level, flagZ (!c.clean.eight)]) ++ [34, 112]))) ?_
  refine SL.v (.bool true) ?_
  refine SL.nil ?_
  refine CW.seq ?_
  refine CW.region ?_
  refine SL.v (.string (strOf (fmtR ([60 + c.clean.level, flagZ (!c.clean.eight)]) ++ [34, 112]))) ?_
  refine SL.val (v := .string (strOf ([27, 91] ++ (fmtR ([60 + c.clean.level, flagZ (!c.clean.eight)]) ++ [34, 112])))) (w' := w_532) rfl rfl (run_catL (a := [27, 91]) (b := fmtR ([60 + c.clean.level, flagZ (!c.clean.eight)]) ++ [34, 112]) rfl (by kernel_rfl) (by kernel_rfl) (by decide) (Nat.le_trans (set_l (by decide)) (by decide))) ?_
  refine SL.bytesR (l := [27, 91] ++ (fmtR ([60 + c.clean.level, flagZ (!c.clean.eight)]) ++ [34, 112])) rfl rfl rfl (Tryd.underlying9) (Tryd.underlying50) (Tryd.underlying5) (by kernel_rfl) (cat_b (by decide) (set_b (by decide))) (fun g_535 cap_536 w_537 hr_538 hg_539 => ?_)
  have hs_540 := hs_534.grow hg_539
  have hb_542 := hs_540.gr.blk hb_494
  have hb_543 := hs_540.gr.blk hb_495
  have hb_544 := hs_540.gr.blk hb_496
  have hb_545 := hs_540.gr.blk hb_497
  have hb_546 := hs_540.gr.blk hb_498
  have hb_547 := hs_540.gr.blk hb_499
  have hb_548 := hs_540.gr.blk hb_500
  have hb_549 := hs_540.gr.blk hb_501
  have hb_550 := hs_540.gr.blk hb_502
  have hb_551 := hs_540.gr.blk hb_503
  have hb_552 := hs_540.gr.blk hb_504
  have hb_553 := hs_540.gr.blk hb_505
  have hb_554 := hs_540.gr.blk hb_506
  have hb_555 := hs_540.gr.blk hb_507
  have hb_556 := hs_540.gr.blk hb_488
  have hr_557 := hr_508.gr hs_540.gr
  have hr_558 := hr_509.gr hs_540.gr
  have hr_559 := hr_510.gr hs_540.gr
  have hr_560 := hr_511.gr hs_540.gr
  have hr_561 := hr_512.gr hs_540.gr
  have hr_562 := hr_513.gr hs_540.gr
  have hr_563 := hr_514.gr hs_540.gr
  have hr_564 := hr_515.gr hs_540.gr
  have hr_565 := hr_516.gr hs_540.gr
  have hr_566 := hr_517.gr hs_540.gr
  have hr_567 := hr_518.gr hs_540.gr
  have hr_568 := hr_519.gr hs_540.gr
  have hr_569 := hr_520.gr hs_540.gr
  have hr_570 := hr_521.gr hs_540.gr
  have hr_571 := hr_522.gr hs_540.gr
  have hr_572 := hr_489.gr hs_540.gr
  have hG_573 := (hG_523.trans hs_540.gr)
  have hs_574 := SH.none w_537
  refine SL.call (f := 6) (args := #[.slice (some ⟨g_535, 0, none⟩) (([27, 91] ++ (fmtR ([60 + c.clean.level, flagZ (!c.clean.eight)]) ++ [34, 112])).length) cap_536]) (w1 := w_537) rfl rfl (by kernel_rfl) (split_1 (t := (setT 112 [34] ([60 + c.clean.level, flagZ (!c.clean.eight)]))) (setT_can (by decide) ⟨by decide, by decide⟩ hN4) (by intro c_ h_; cases h_) (setT_bytes 112 [34] ([60 + c.clean.level, flagZ (!c.clean.eight)])) (hr_538.gr hs_574.gr)) ?_
  rintro x w_585 ⟨g_575, cap_576, pad_577, a_578, c_579, a_580, c_581, rfl, hb_582, hr_583, hc_586⟩
  refine ⟨_, rfl, ?_⟩
  have hs_587 := hs_574.grow hc_586
  have hb_588 := hs_587.gr.blk hb_542
  have hb_589 := hs_587.gr.blk hb_543
  have hb_590 := hs_587.gr.blk hb_544
  have hb_591 := hs_587.gr.blk hb_545
  have hb_592 := hs_587.gr.blk hb_546
  have hb_593 := hs_587.gr.blk hb_547
  have hb_594 := hs_587.gr.blk hb_548
  have hb_595 := hs_587.gr.blk hb_549
  have hb_596 := hs_587.gr.blk hb_550
  have hb_597 := hs_587.gr.blk hb_551
  have hb_598 := hs_587.gr.blk hb_552
  have hb_599 := hs_587.gr.blk hb_553
  have hb_600 := hs_587.gr.blk hb_554
  have hb_601 := hs_587.gr.blk hb_555
  have hb_602 := hs_587.gr.blk hb_556
  have hr_603 := hr_557.gr hs_587.gr
  have hr_604 := hr_558.gr hs_587.gr
  have hr_605 := hr_559.gr hs_587.gr
  have hr_606 := hr_560.gr hs_587.gr
  have hr_607 := hr_561.gr hs_587.gr
  have hr_608 := hr_562.gr hs_587.gr
  have hr_609 := hr_563.gr hs_587.gr
  have hr_610 := hr_564.gr hs_587.gr
  have hr_611 := hr_565.gr hs_587.gr
  have hr_612 := hr_566.gr hs_587.gr
  have hr_613 := hr_567.gr hs_587.gr
  have hr_614 := hr_568.gr hs_587.gr
  have hr_615 := hr_569.gr hs_587.gr
  have hr_616 := hr_570.gr hs_587.gr
  have hr_617 := hr_571.gr hs_587.gr
  have hr_618 := hr_572.gr hs_587.gr
  have hr_619 := hr_538.gr hs_587.gr
  have hG_620 := (hG_573.trans hs_587.gr)
  have hs_621 := SH.none w_585
  refine SL.v (.slice (some ⟨g_575, 0, none⟩) 1 cap_576) ?_
  refine SL.nil ?_
  refine CW.seq ?_
  refine CW.seq ?_
  refine CW.region ?_
  refine SL.v (.bool true) ?_
  refine SL.v (.bool false) ?_
  refine SL.v (.bool false) ?_
  refine SL.go ?_
  refine SL.v (.slice (some ⟨g_575, 0, none⟩) 1 cap_576) ?_
  refine SL.go ?_
  refine SL.val (v := .int .i64 1) (w' := w_585) rfl rfl (by kernel_rfl) ?_
  refine SL.go ?_
  refine SL.v (.bool false) ?_
  refine SL.v (.bool false) ?_
  refine SL.v (.bool false) ?_
  refine SL.go ?_
  refine SL.v (.slice (some ⟨g_575, 0, none⟩) 1 cap_576) ?_
  refine SL.go ?_
  refine SL.v (.pointer (some ⟨g_575, 0, none⟩)) ?_
  refine SL.go ?_
  refine SL.v (.pointer (some ⟨g_575, 0, none⟩)) ?_
  refine SL.go ?_
  refine SL.load (g := g_575) (off := 0) (v := .int .i64 4) rfl rfl rfl (by kernel_rfl) (hs_621.gr.blk hb_582) (by kernel_rfl) ?_
  refine SL.go ?_
  refine SL.v (.bool false) ?_
  refine SL.v (.bool false) ?_
  refine SL.v (.bool false) ?_
  refine SL.go ?_
  refine SL.v (.slice (some ⟨g_575, 0, none⟩) 1 cap_576) ?_
  refine SL.go ?_
  refine SL.v (.pointer (some ⟨g_575, 0, none⟩)) ?_
  refine SL.go ?_
  refine SL.load (g := g_575) (off := 0) (v := .agg #[.int .i64 4, .int .u8 112, .int .u8 0, .slice a_578 2 c_579, .string (strOf ([34])), .slice a_580 0 c_581]) rfl rfl rfl (by kernel_rfl) (hs_621.gr.blk hb_582) (by kernel_rfl) ?_
  refine SL.go ?_
  refine SL.call (f := 7) (args := #[.agg #[.int .i64 4, .int .u8 112, .int .u8 0, .slice a_578 2 c_579, .string (strOf ([34])), .slice a_580 0 c_581]]) (w1 := w_585) rfl rfl (by kernel_rfl) (tid_any (k := 4) (c := 112) (m := 0) (l := [34]) (by decide) (by decide)) ?_
  rintro x w_622 ⟨rfl, hc_623⟩
  refine ⟨.string ⟨#[34, 112]⟩, rfl, ?_⟩
  have hs_624 := hs_621.grow hc_623
  refine SL.go ?_
  refine SL.v (.string ⟨#[34, 112]⟩) ?_
  refine SL.go ?_
  refine SL.val (v := .bool false) (w' := w_622) rfl rfl (run_strneB (a := ⟨#[34, 112]⟩) (b := ⟨#[34, 112]⟩) (c := true) rfl (by kernel_rfl) (by kernel_rfl) (by kernel_rfl)) ?_
  refine SL.v (.bool false) ?_
  refine SL.v (.bool false) ?_
  refine SL.go ?_
  refine SL.v (.slice (some ⟨g_575, 0, none⟩) 1 cap_576) ?_
  refine SL.go ?_
  refine SL.v (.pointer (some ⟨g_575, 0, none⟩)) ?_
  refine SL.go ?_
  refine SL.v (.pointer (some ⟨g_575, 3, none⟩)) ?_
  refine SL.go ?_
  refine SL.load (g := g_575) (off := 3) (v := .slice a_578 2 c_579) rfl rfl rfl (by kernel_rfl) (hs_624.gr.blk hb_582) (by kernel_rfl) ?_
  refine SL.go ?_
  refine SL.val (v := .int .i64 2) (w' := w_622) rfl rfl (by kernel_rfl) ?_
  refine SL.go ?_
  refine SL.v (.bool false) ?_
  refine SL.v (.bool false) ?_
  refine SL.nil ?_
  refine CW.cond_false (by kernel_rfl) ?_
  refine CW.skip ?_
  refine CW.seq ?_
  refine CW.region ?_
  refine SL.v (.string (strOf (fmtR ([60 + c.clean.level, flagZ (!c.clean.eight)]) ++ [34, 112]))) ?_
  refine SL.newH (mk := fun g => .slice (some ⟨g, 0, none⟩) 1 1) (C := #[.int .i64 1]) (T := 3) hs_624 rfl rfl (by kernel_rfl) (fun g_625 w_626 hs_627 => ?_)
  have hs_627 : SH [] w_585 w_626 [pt g_625 #[.int .i64 1] 3] := hs_627
  refine SL.call (f := 8) (args := #[.bool false, .string ⟨#[36, 114]⟩, .string (strOf (fmtR ([60 + c.clean.level, flagZ (!c.clean.eight)]) ++ [34, 112])), .slice (some ⟨g_625, 0, none⟩) 1 1]) (w1 := w_626) rfl rfl (by kernel_rfl) (dcs_set (l := fmtR ([60 + c.clean.level, flagZ (!c.clean.eight)]) ++ [34, 112]) (hs_627.pt_at (i := 0) rfl) (set_dat (by decide) (by decide)) (set_b (by decide)) (hT.gr (hG_620.trans hs_627.gr))) ?_
  rintro x w_632 ⟨va_628, vc_629, rfl, hr_630, hc_633⟩
  refine ⟨_, rfl, ?_⟩
  have hs_634 := hs_627.grow hc_633
  have hb_635 := hs_634.gr.blk hb_588
  have hb_636 := hs_634.gr.blk hb_589
  have hb_637 := hs_634.gr.blk hb_590
  have hb_638 := hs_634.gr.blk hb_591
  have hb_639 := hs_634.gr.blk hb_592
  have hb_640 := hs_634.gr.blk hb_593
  have hb_641 := hs_634.gr.blk hb_594
  have hb_642 := hs_634.gr.blk hb_595
  have hb_643 := hs_634.gr.blk hb_596
  have hb_644 := hs_634.gr.blk hb_597
  have hb_645 := hs_634.gr.blk hb_598
  have hb_646 := hs_634.gr.blk hb_599
  have hb_647 := hs_634.gr.blk hb_600
  have hb_648 := hs_634.gr.blk hb_601
  have hb_649 := hs_634.gr.blk hb_602
  have hb_650 := hs_634.gr.blk hb_582
  have hr_651 := hr_603.gr hs_634.gr
  have hr_652 := hr_604.gr hs_634.gr
  have hr_653 := hr_605.gr hs_634.gr
  have hr_654 := hr_606.gr hs_634.gr
  have hr_655 := hr_607.gr hs_634.gr
  have hr_656 := hr_608.gr hs_634.gr
  have hr_657 := hr_609.gr hs_634.gr
  have hr_658 := hr_610.gr hs_634.gr
  have hr_659 := hr_611.gr hs_634.gr
  have hr_660 := hr_612.gr hs_634.gr
  have hr_661 := hr_613.gr hs_634.gr
  have hr_662 := hr_614.gr hs_634.gr
  have hr_663 := hr_615.gr hs_634.gr
  have hr_664 := hr_616.gr hs_634.gr
  have hr_665 := hr_617.gr hs_634.gr
  have hr_666 := hr_618.gr hs_634.gr
  have hr_667 := hr_619.gr hs_634.gr
  have hr_668 := hr_583.gr hs_634.gr
  have hb_669 : w_632.heap[g_625]? = some (.cells #[.int .i64 1] 3 (0, 0)) := (hs_634.pt_at (i := 0) rfl)
  have hG_670 := (hG_620.trans hs_634.gr)
  have hs_671 := SH.none w_632
  refine SL.call (f := 6) (args := #[.slice va_628 ((bytesR (dcsT (fmtR ([60 + c.clean.level, flagZ (!c.clean.eight)]) ++ [34, 112])) false).length) vc_629]) (w1 := w_632) rfl rfl (by kernel_rfl) (split_1 (t := (dcsT (fmtR ([60 + c.clean.level, flagZ (!c.clean.eight)]) ++ [34, 112]))) (dcsT_can (set_dat (by decide) (by decide))) (set_b (by decide)) rfl (hr_630.gr hs_671.gr)) ?_
  rintro x w_682 ⟨g_672, cap_673, pad_674, a_675, c_676, a_677, c_678, rfl, hb_679, hr_680, hc_683⟩
  refine ⟨_, rfl, ?_⟩
  have hs_684 := hs_671.grow hc_683
  have hb_685 := hs_684.gr.blk hb_635
  have hb_686 := hs_684.gr.blk hb_636
  have hb_687 := hs_684.gr.blk hb_637
  have hb_688 := hs_684.gr.blk hb_638
  have hb_689 := hs_684.gr.blk hb_639
  have hb_690 := hs_684.gr.blk hb_640
  have hb_691 := hs_684.gr.blk hb_641
  have hb_692 := hs_684.gr.blk hb_642
  have hb_693 := hs_684.gr.blk hb_643
  have hb_694 := hs_684.gr.blk hb_644
  have hb_695 := hs_684.gr.blk hb_645
  have hb_696 := hs_684.gr.blk hb_646
  have hb_697 := hs_684.gr.blk hb_647
  have hb_698 := hs_684.gr.blk hb_648
  have hb_699 := hs_684.gr.blk hb_649
  have hb_700 := hs_684.gr.blk hb_650
  have hb_701 := hs_684.gr.blk hb_669
  have hr_702 := hr_651.gr hs_684.gr
  have hr_703 := hr_652.gr hs_684.gr
  have hr_704 := hr_653.gr hs_684.gr
  have hr_705 := hr_654.gr hs_684.gr
  have hr_706 := hr_655.gr hs_684.gr
  have hr_707 := hr_656.gr hs_684.gr
  have hr_708 := hr_657.gr hs_684.gr
  have hr_709 := hr_658.gr hs_684.gr
  have hr_710 := hr_659.gr hs_684.gr
  have hr_711 := hr_660.gr hs_684.gr
  have hr_712 := hr_661.gr hs_684.gr
  have hr_713 := hr_662.gr hs_684.gr
  have hr_714 := hr_663.gr hs_684.gr
  have hr_715 := hr_664.gr hs_684.gr
  have hr_716 := hr_665.gr hs_684.gr
  have hr_717 := hr_666.gr hs_684.gr
  have hr_718 := hr_667.gr hs_684.gr
  have hr_719 := hr_668.gr hs_684.gr
  have hr_720 := hr_630.gr hs_684.gr
  have hG_721 := (hG_670.trans hs_684.gr)
  have hs_722 := SH.none w_682
  refine SL.v (.slice (some ⟨g_672, 0, none⟩) 1 cap_673) ?_
  refine SL.nil ?_
  refine CW.seq ?_
  refine CW.region ?_
  refine SL.v (.slice (some ⟨g_672, 0, none⟩) 1 cap_673) ?_
  refine SL.val (v := .int .i64 1) (w' := w_682) rfl rfl (by kernel_rfl) ?_
  refine SL.v (.bool false) ?_
  refine SL.v (.bool false) ?_
  refine SL.go ?_
  refine SL.v (.slice (some ⟨g_672, 0, none⟩) 1 cap_673) ?_
  refine SL.go ?_
  refine SL.v (.pointer (some ⟨g_672, 0, none⟩)) ?_
  refine SL.go ?_
  refine SL.v (.pointer (some ⟨g_672, 5, none⟩)) ?_
  refine SL.go ?_
  refine SL.load (g := g_672) (off := 5) (v := .slice a_677 ((fmtR ([60 + c.clean.level, flagZ (!c.clean.eight)]) ++ [34, 112]).length) c_678) rfl rfl rfl (by kernel_rfl) (hs_722.gr.blk hb_679) (by kernel_rfl) ?_
  refine SL.go ?_
  refine SL.val (v := .string (strOf (fmtR ([60 + c.clean.level, flagZ (!c.clean.eight)]) ++ [34, 112]))) (w' := w_682) rfl rfl (run_conv rfl (by kernel_rfl) (conv_row (hr_680.gr hs_722.gr))) ?_
  refine SL.go ?_
  refine SL.v (.string (strOf (fmtR ([60 + c.clean.level, flagZ (!c.clean.eight)]) ++ [34, 112]))) ?_
  refine SL.go ?_
  refine SL.val (v := .bool false) (w' := w_682) rfl rfl (run_strneB (a := strOf (fmtR ([60 + c.clean.level, flagZ (!c.clean.eight)]) ++ [34, 112])) (b := strOf (fmtR ([60 + c.clean.level, flagZ (!c.clean.eight)]) ++ [34, 112])) (c := true) rfl (by kernel_rfl) (by kernel_rfl) (seqB_self _)) ?_
  refine SL.v (.bool false) ?_
  refine SL.nil ?_
  refine CW.cond_false (by kernel_rfl) ?_
  refine CW.skip ?_
  refine CW.region ?_
  refine SL.v (.int .i64 5) ?_
  refine SL.v (.int .i64 5) ?_
  refine SL.nil ?_
  refine CR.fresh (fun e9 => e9 2 = .bool false ∧ e9 3 = .pointer (some ⟨g_11, 0, none⟩) ∧ e9 34 = .slice (some ⟨g_16, 0, none⟩) 10 10 ∧ e9 35 = .int .i64 10 ∧ e9 36 = .int .i64 5) ⟨(by kernel_rfl), (by kernel_rfl), (by kernel_rfl), (by kernel_rfl), (by kernel_rfl)⟩ ?_
  rintro e_723 ⟨hv_725, hv_726, hv_727, hv_728, hv_729⟩
  obtain ⟨e_724, rfl⟩ : ∃ e_724, e_723 = put1 (put1 (put1 (put1 (put1 e_724 2 (.bool false)) 3 (.pointer (some ⟨g_11, 0, none⟩))) 34 (.slice (some ⟨g_16, 0, none⟩) 10 10)) 35 (.int .i64 10)) 36 (.int .i64 5) := ⟨e_723, (put_self hv_729).trans (congrArg (fun z => put1 z 36 (.int .i64 5)) ((put_self hv_728).trans (congrArg (fun z => put1 z 35 (.int .i64 10)) ((put_self hv_727).trans (congrArg (fun z => put1 z 34 (.slice (some ⟨g_16, 0, none⟩) 10 10)) ((put_self hv_726).trans (congrArg (fun z => put1 z 3 (.pointer (some ⟨g_11, 0, none⟩))) (put_self hv_725))))))))⟩
  clear hv_725 hv_726 hv_727 hv_728 hv_729
  refine CR.more ?_
  refine CW.seq ?_
  refine CW.region ?_
  refine SL.v (.bool true) ?_
  refine SL.nil ?_
  refine CW.seq ?_
  refine CW.cond_true (by kernel_rfl) ?_
  refine CW.skip ?_
  refine CW.seq ?_
  refine CW.block ?_
  refine CW.seq ?_
  refine CW.region ?_
  refine SL.v (.pointer (some ⟨g_16, 5, none⟩)) ?_
  refine SL.load (g := g_16) (off := 5) (v := .string ⟨#[42, 120]⟩) rfl rfl rfl (by kernel_rfl) (hs_722.gr.blk hb_687) (by kernel_rfl) ?_
  refine SL.v (.string ⟨#[42, 120]⟩) ?_
  refine SL.nil ?_
  refine CW.seq ?_
  refine CW.region ?_
  refine SL.load (g := g_11) (off := 0) (v := .agg (cvA c)) rfl rfl rfl (by kernel_rfl) (hs_722.gr.blk hb_686) (by kernel_rfl) ?_
  refine SL.v (.string ⟨#[42, 120]⟩) ?_
  refine SL.call (f := 5) (args := #[.agg (cvA c), .string ⟨#[42, 120]⟩]) (w1 := w_682) rfl rfl (by kernel_rfl) (setl_5 c w_682 hok (hT.gr (hG_721.trans hs_722.gr))) ?_
  rintro x w_730 ⟨rfl, hc_731⟩
  refine ⟨.tuple #[.string (strOf (fmtR ([2 - flagZ c.clean.stream]) ++ [42, 120])), .bool true], rfl, ?_⟩
  have hs_732 := hs_722.grow hc_731
  refine SL.v (.tuple #[.string (strOf (fmtR ([2 - flagZ c.clean.stream]) ++ [42, 120])), .bool true]) ?_
  refine SL.v (.string (strOf (fmtR ([2 - flagZ c.clean.stream]) ++ [42, 120]))) ?_
  refine SL.v (.bool true) ?_
  refine SL.v (.string (strOf (fmtR ([2 - flagZ c.clean.stream]) ++ [42, 120]))) ?_
  refine SL.v (.bool true) ?_
  refine SL.nil ?_
  refine CW.seq ?_
  refine CW.region ?_
  refine SL.v (.string (strOf (fmtR ([2 - flagZ c.clean.stream]) ++ [42, 120]))) ?_
  refine SL.val (v := .string (strOf ([27, 91] ++ (fmtR ([2 - flagZ c.clean.stream]) ++ [42, 120])))) (w' := w_730) rfl rfl (run_catL (a := [27, 91]) (b := fmtR ([2 - flagZ c.clean.stream]) ++ [42, 120]) rfl (by kernel_rfl) (by kernel_rfl) (by decide) (Nat.le_trans (set_l (by decide)) (by decide))) ?_
  refine SL.bytesR (l := [27, 91] ++ (fmtR ([2 - flagZ c.clean.stream]) ++ [42, 120])) rfl rfl rfl (Tryd.underlying9) (Tryd.underlying50) (Tryd.underlying5) (by kernel_rfl) (cat_b (by decide) (set_b (by decide))) (fun g_733 cap_734 w_735 hr_736 hg_737 => ?_)
  have hs_738 := hs_732.grow hg_737
  have hb_740 := hs_738.gr.blk hb_685
  have hb_741 := hs_738.gr.blk hb_686
  have hb_742 := hs_738.gr.blk hb_687
  have hb_743 := hs_738.gr.blk hb_688
  have hb_744 := hs_738.gr.blk hb_689
  have hb_745 := hs_738.gr.blk hb_690
  have hb_746 := hs_738.gr.blk hb_691
  have hb_747 := hs_738.gr.blk hb_692
  have hb_748 := hs_738.gr.blk hb_693
  have hb_749 := hs_738.gr.blk hb_694
  have hb_750 := hs_738.gr.blk hb_695
  have hb_751 := hs_738.gr.blk hb_696
  have hb_752 := hs_738.gr.blk hb_697
  have hb_753 := hs_738.gr.blk hb_698
  have hb_754 := hs_738.gr.blk hb_699
  have hb_755 := hs_738.gr.blk hb_700
  have hb_756 := hs_738.gr.blk hb_701
  have hb_757 := hs_738.gr.blk hb_679
  have hr_758 := hr_702.gr hs_738.gr
  have hr_759 := hr_703.gr hs_738.gr
  have hr_760 := hr_704.gr hs_738.gr
  have hr_761 := hr_705.gr hs_738.gr
  have hr_762 := hr_706.gr hs_738.gr
  have hr_763 := hr_707.gr hs_738.gr
  have hr_764 := hr_708.gr hs_738.gr
  have hr_765 := hr_709.gr hs_738.gr
  have hr_766 := hr_710.gr hs_738.gr
  have hr_767 := hr_711.gr hs_738.gr
  have hr_768 := hr_712.gr hs_738.gr
  have hr_769 := hr_713.gr hs_738.gr
  have hr_770 := hr_714.gr hs_738.gr
  have hr_771 := hr_715.gr hs_738.gr
  have hr_772 := hr_716.gr hs_738.gr
  have hr_773 := hr_717.gr hs_738.gr
  have hr_774 := hr_718.gr hs_738.gr
  have hr_775 := hr_719.gr hs_738.gr
  have hr_776 := hr_720.gr hs_738.gr
  have hr_777 := hr_680.gr hs_738.gr
  have hG_778 := (hG_721.trans hs_738.gr)
  have hs_779 := SH.none w_735
  refine SL.call (f := 6) (args := #[.slice (some ⟨g_733, 0, none⟩) (([27, 91] ++ (fmtR ([2 - flagZ c.clean.stream]) ++ [42, 120])).length) cap_734]) (w1 := w_735) rfl rfl (by kernel_rfl) (split_1 (t := (setT 120 [42] ([2 - flagZ c.clean.stream]))) (setT_can (by decide) ⟨by decide, by decide⟩ hN5) (by intro c_ h_; cases h_) (setT_bytes 120 [42] ([2 - flagZ c.clean.stream])) (hr_736.gr hs_779.gr)) ?_
  rintro x w_790 ⟨g_780, cap_781, pad_782, a_783, c_784, a_785, c_786, rfl, hb_787, hr_788, hc_791⟩
  refine ⟨_, rfl, ?_⟩
  have hs_792 := hs_779.grow hc_791
  have hb_793 := hs_792.gr.blk hb_740
  have hb_794 := hs_792.gr.blk hb_741
  have hb_795 := hs_792.gr.blk hb_742
  have hb_796 := hs_792.gr.blk hb_743
  have hb_797 := hs_792.gr.blk hb_744
  have hb_798 := hs_792.gr.blk hb_745
  have hb_799 := hs_792.gr.blk hb_746
  have hb_800 := hs_792.gr.blk hb_747
  have hb_801 := hs_792.gr.blk hb_748
  have hb_802 := hs_792.gr.blk hb_749
  have hb_803 := hs_792.gr.blk hb_750
  have hb_804 := hs_792.gr.blk hb_751
  have hb_805 := hs_792.gr.blk hb_752
  have hb_806 := hs_792.gr.blk hb_753
  have hb_807 := hs_792.gr.blk hb_754
  have hb_808 := hs_792.gr.blk hb_755
  have hb_809 := hs_792.gr.blk hb_756
  have hb_810 := hs_792.gr.blk hb_757
  have hr_811 := hr_758.gr hs_792.gr
  have hr_812 := hr_759.gr hs_792.gr
  have hr_813 := hr_760.gr hs_792.gr
  have hr_814 := hr_761.gr hs_792.gr
  have hr_815 := hr_762.gr hs_792.gr
  have hr_816 := hr_763.gr hs_792.gr
  have hr_817 := hr_764.gr hs_792.gr
  have hr_818 := hr_765.gr hs_792.gr
  have hr_819 := hr_766.gr hs_792.gr
  have hr_820 := hr_767.gr hs_792.gr
  have hr_821 := hr_768.gr hs_792.gr
  have hr_822 := hr_769.gr hs_792.gr
  have hr_823 := hr_770.gr hs_792.gr
  have hr_824 := hr_771.gr hs_792.gr
  have hr_825 := hr_772.gr hs_792.gr
  have hr_826 := hr_773.gr hs_792.gr
  have hr_827 := hr_774.gr hs_792.gr
  have hr_828 := hr_775.gr hs_792.gr
  have hr_829 := hr_776.gr hs_792.gr
  have hr_830 := hr_777.gr hs_792.gr
  have hr_831 := hr_736.gr hs_792.gr
  have hG_832 := (hG_778.trans hs_792.gr)
  have hs_833 := SH.none w_790
  refine SL.v (.slice (some ⟨g_780, 0, none⟩) 1 cap_781) ?_
  refine SL.nil ?_
  refine CW.seq ?_
  refine CW.seq ?_
  refine CW.region ?_
  refine SL.v (.bool true) ?_
  refine SL.v (.bool false) ?_
  refine SL.v (.bool false) ?_
  refine SL.go ?_
  refine SL.v (.slice (some ⟨g_780, 0, none⟩) 1 cap_781) ?_
  refine SL.go ?_
  refine SL.val (v := .int .i64 1) (w' := w_790) rfl rfl (by kernel_rfl) ?_
  refine SL.go ?_
  refine SL.v (.bool false) ?_
  refine SL.v (.bool false) ?_
  refine SL.v (.bool false) ?_
  refine SL.go ?_
  refine SL.v (.slice (some ⟨g_780, 0, none⟩) 1 cap_781) ?_
  refine SL.go ?_
  refine SL.v (.pointer (some ⟨g_780, 0, none⟩)) ?_
  refine SL.go ?_
  refine SL.v (.pointer (some ⟨g_780, 0, none⟩)) ?_
  refine SL.go ?_
  refine SL.load (g := g_780) (off := 0) (v := .int .i64 4) rfl rfl rfl (by kernel_rfl) (hs_833.gr.blk hb_787) (by kernel_rfl) ?_
  refine SL.go ?_
  refine SL.v (.bool false) ?_
  refine SL.v (.bool false) ?_
  refine SL.v (.bool false) ?_
  refine SL.go ?_
  refine SL.v (.slice (some ⟨g_780, 0, none⟩) 1 cap_781) ?_
  refine SL.go ?_
  refine SL.v (.pointer (some ⟨g_780, 0, none⟩)) ?_
  refine SL.go ?_
  refine SL.load (g := g_780) (off := 0) (v := .agg #[.int .i64 4, .int .u8 120, .int .u8 0, .slice a_783 1 c_784, .string (strOf ([42])), .slice a_785 0 c_786]) rfl rfl rfl (by kernel_rfl) (hs_833.gr.blk hb_787) (by kernel_rfl) ?_
  refine SL.go ?_
  refine SL.call (f := 7) (args := #[.agg #[.int .i64 4, .int .u8 120, .int .u8 0, .slice a_783 1 c_784, .string (strOf ([42])), .slice a_785 0 c_786]]) (w1 := w_790) rfl rfl (by kernel_rfl) (tid_any (k := 4) (c := 120) (m := 0) (l := [42]) (by decide) (by decide)) ?_
  rintro x w_834 ⟨rfl, hc_835⟩
  refine ⟨.string ⟨#[42, 120]⟩, rfl, ?_⟩
  have hs_836 := hs_833.grow hc_835
  refine SL.go ?_
  refine SL.v (.string ⟨#[42, 120]⟩) ?_
  refine SL.go ?_
  refine SL.val (v := .bool false) (w' := w_834) rfl rfl (run_strneB (a := ⟨#[42, 120]⟩) (b := ⟨#[42, 120]⟩) (c := true) rfl (by kernel_rfl) (by kernel_rfl) (by kernel_rfl)) ?_
  refine SL.v (.bool false) ?_
  refine SL.v (.bool false) ?_
  refine SL.go ?_
  refine SL.v (.slice (some ⟨g_780, 0, none⟩) 1 cap_781) ?_
  refine SL.go ?_
  refine SL.v (.pointer (some ⟨g_780, 0, none⟩)) ?_
  refine SL.go ?_
  refine SL.v (.pointer (some ⟨g_780, 3, none⟩)) ?_
  refine SL.go ?_
  refine SL.load (g := g_780) (off := 3) (v := .slice a_783 1 c_784) rfl rfl rfl (by kernel_rfl) (hs_836.gr.blk hb_787) (by kernel_rfl) ?_
  refine SL.go ?_
  refine SL.val (v := .int .i64 1) (w' := w_834) rfl rfl (by kernel_rfl) ?_
  refine SL.go ?_
  refine SL.v (.bool false) ?_
  refine SL.v (.bool false) ?_
  refine SL.nil ?_
  refine CW.cond_false (by kernel_rfl) ?_
  refine CW.skip ?_
  refine CW.seq ?_
  refine CW.region ?_
  refine SL.v (.string (strOf (fmtR ([2 - flagZ c.clean.stream]) ++ [42, 120]))) ?_
  refine SL.newH (mk := fun g => .slice (some ⟨g, 0, none⟩) 1 1) (C := #[.int .i64 1]) (T := 3) hs_836 rfl rfl (by kernel_rfl) (fun g_837 w_838 hs_839 => ?_)
  have hs_839 : SH [] w_790 w_838 [pt g_837 #[.int .i64 1] 3] := hs_839
  refine SL.call (f := 8) (args := #[.bool false, .string ⟨#[36, 114]⟩, .string (strOf (fmtR ([2 - flagZ c.clean.stream]) ++ [42, 120])), .slice (some ⟨g_837, 0, none⟩) 1 1]) (w1 := w_838) rfl rfl (by kernel_rfl) (dcs_set (l := fmtR ([2 - flagZ c.clean.stream]) ++ [42, 120]) (hs_839.pt_at (i := 0) rfl) (set_dat (by decide) (by decide)) (set_b (by decide)) (hT.gr (hG_832.trans hs_839.gr))) ?_
  rintro x w_844 ⟨va_840, vc_841, rfl, hr_842, hc_845⟩
  refine ⟨_, rfl, ?_⟩
  have hs_846 := hs_839.grow hc_845
  have hb_847 := hs_846.gr.blk hb_793
  have hb_848 := hs_846.gr.blk hb_794
  have hb_849 := hs_846.gr.blk hb_795
  have hb_850 := hs_846.gr.blk hb_796
  have hb_851 := hs_846.gr.blk hb_797
  have hb_852 := hs_846.gr.blk hb_798
  have hb_853 := hs_846.gr.blk hb_799
  have hb_854 := hs_846.gr.blk hb_800
  have hb_855 := hs_846.gr.blk hb_801
  have hb_856 := hs_846.gr.blk hb_802
  have hb_857 := hs_846.gr.blk hb_803
  have hb_858 := hs_846.gr.blk hb_804
  have hb_859 := hs_846.gr.blk hb_805
  have hb_860 := hs_846.gr.blk hb_806
  have hb_861 := hs_846.gr.blk hb_807
  have hb_862 := hs_846.gr.blk hb_808
  have hb_863 := hs_846.gr.blk hb_809
  have hb_864 := hs_846.gr.blk hb_810
  have hb_865 := hs_846.gr.blk hb_787
  have hr_866 := hr_811.gr hs_846.gr
  have hr_867 := hr_812.gr hs_846.gr
  have hr_868 := hr_813.gr hs_846.gr
  have hr_869 := hr_814.gr hs_846.gr
  have hr_870 := hr_815.gr hs_846.gr
  have hr_871 := hr_816.gr hs_846.gr
  have hr_872 := hr_817.gr hs_846.gr
  have hr_873 := hr_818.gr hs_846.gr
  have hr_874 := hr_819.gr hs_846.gr
  have hr_875 := hr_820.gr hs_846.gr
  have hr_876 := hr_821.gr hs_846.gr
  have hr_877 := hr_822.gr hs_846.gr
  have hr_878 := hr_823.gr hs_846.gr
  have hr_879 := hr_824.gr hs_846.gr
  have hr_880 := hr_825.gr hs_846.gr
  have hr_881 := hr_826.gr hs_846.gr
  have hr_882 := hr_827.gr hs_846.gr
  have hr_883 := hr_828.gr hs_846.gr
  have hr_884 := hr_829.gr hs_846.gr
  have hr_885 := hr_830.gr hs_846.gr
  have hr_886 := hr_831.gr hs_846.gr
  have hr_887 := hr_788.gr hs_846.gr
  have hb_888 : w_844.heap[g_837]? = some (.cells #[.int .i64 1] 3 (0, 0)) := (hs_846.pt_at (i := 0) rfl)
  have hG_889 := (hG_832.trans hs_846.gr)
  have hs_890 := SH.none w_844
  refine SL.call (f := 6) (args := #[.slice va_840 ((bytesR (dcsT (fmtR ([2 - flagZ c.clean.stream]) ++ [42, 120])) false).length) vc_841]) (w1 := w_844) rfl rfl (by kernel_rfl) (split_1 (t := (dcsT (fmtR ([2 - flagZ c.clean.stream]) ++ [42, 120]))) (dcsT_can (set_dat (by decide) (by decide))) (set_b (by decide)) rfl (hr_842.gr hs_890.gr)) ?_
  rintro x w_901 ⟨g_891, cap_892, pad_893, a_894, c_895, a_896, c_897, rfl, hb_898, hr_899, hc_902⟩
  refine ⟨_, rfl, ?_⟩
  have hs_903 := hs_890.grow hc_902
  have hb_904 := hs_903.gr.blk hb_847
  have hb_905 := hs_903.gr.blk hb_848
  have hb_906 := hs_903.gr.blk hb_849
  have hb_907 := hs_903.gr.blk hb_850
  have hb_908 := hs_903.gr.blk hb_851
  have hb_909 := hs_903.gr.blk hb_852
  have hb_910 := hs_903.gr.blk hb_853
  have hb_911 := hs_903.gr.blk hb_854
  have hb_912 := hs_903.gr.blk hb_855
  have hb_913 := hs_903.gr.blk hb_856
  have hb_914 := hs_903.gr.blk hb_857
  have hb_915 := hs_903.gr.blk hb_858
  have hb_916 := hs_903.gr.blk hb_859
  have hb_917 := hs_903.gr.blk hb_860
  have hb_918 := hs_903.gr.blk hb_861
  have hb_919 := hs_903.gr.blk hb_862
  have hb_920 := hs_903.gr.blk hb_863
  have hb_921 := hs_903.gr.blk hb_864
  have hb_922 := hs_903.gr.blk hb_865
  have hb_923 := hs_903.gr.blk hb_888
  have hr_924 := hr_866.gr hs_903.gr
  have hr_925 := hr_867.gr hs_903.gr
  have hr_926 := hr_868.gr hs_903.gr
  have hr_927 := hr_869.gr hs_903.gr
  have hr_928 := hr_870.gr hs_903.gr
  have hr_929 := hr_871.gr hs_903.gr
  have hr_930 := hr_872.gr hs_903.gr
  have hr_931 := hr_873.gr hs_903.gr
  have hr_932 := hr_874.gr hs_903.gr
  have hr_933 := hr_875.gr hs_903.gr
  have hr_934 := hr_876.gr hs_903.gr
  have hr_935 := hr_877.gr hs_903.gr
  have hr_936 := hr_878.gr hs_903.gr
  have hr_937 := hr_879.gr hs_903.gr
  have hr_938 := hr_880.gr hs_903.gr
  have hr_939 := hr_881.gr hs_903.gr
  have hr_940 := hr_882.gr hs_903.gr
  have hr_941 := hr_883.gr hs_903.gr
  have hr_942 := hr_884.gr hs_903.gr
  have hr_943 := hr_885.gr hs_903.gr
  have hr_944 := hr_886.gr hs_903.gr
  have hr_945 := hr_887.gr hs_903.gr
  have hr_946 := hr_842.gr hs_903.gr
  have hG_947 := (hG_889.trans hs_903.gr)
  have hs_948 := SH.none w_901
  refine SL.v (.slice (some ⟨g_891, 0, none⟩) 1 cap_892) ?_
  refine SL.nil ?_
  refine CW.seq ?_
  refine CW.region ?_
  refine SL.v (.slice (some ⟨g_891, 0, none⟩) 1 cap_892) ?_
  refine SL.val (v := .int .i64 1) (w' := w_901) rfl rfl (by kernel_rfl) ?_
  refine SL.v (.bool false) ?_
  refine SL.v (.bool false) ?_
  refine SL.go ?_
  refine SL.v (.slice (some ⟨g_891, 0, none⟩) 1 cap_892) ?_
  refine SL.go ?_
  refine SL.v (.pointer (some ⟨g_891, 0, none⟩)) ?_
  refine SL.go ?_
  refine SL.v (.pointer (some ⟨g_891, 5, none⟩)) ?_
  refine SL.go ?_
  refine SL.load (g := g_891) (off := 5) (v := .slice a_896 ((fmtR ([2 - flagZ c.clean.stream]) ++ [42, 120]).length) c_897) rfl rfl rfl (by kernel_rfl) (hs_948.gr.blk hb_898) (by kernel_rfl) ?_
  refine SL.go ?_
  refine SL.val (v := .string (strOf (fmtR ([2 - flagZ c.clean.stream]) ++ [42, 120]))) (w' := w_901) rfl rfl (run_conv rfl (by kernel_rfl) (conv_row (hr_899.gr hs_948.gr))) ?_
  refine SL.go ?_
  refine SL.v (.string (strOf (fmtR ([2 - flagZ c.clean.stream]) ++ [42, 120]))) ?_
  refine SL.go ?_
  refine SL.val (v := .bool false) (w' := w_901) rfl rfl (run_strneB (a := strOf (fmtR ([2 - flagZ c.clean.stream]) ++ [42, 120])) (b := strOf (fmtR ([2 - flagZ c.clean.stream]) ++ [42, 120])) (c := true) rfl (by kernel_rfl) (by kernel_rfl) (seqB_self _)) ?_
  refine SL.v (.bool false) ?_
  refine SL.nil ?_
  refine CW.cond_false (by kernel_rfl) ?_
  refine CW.skip ?_
  refine CW.region ?_
  refine SL.v (.int .i64 6) ?_
  refine SL.v (.int .i64 6) ?_
  refine SL.nil ?_
  refine CR.fresh (fun e9 => e9 2 = .bool false ∧ e9 3 = .pointer (some ⟨g_11, 0, none⟩) ∧ e9 34 = .slice (some ⟨g_16, 0, none⟩) 10 10 ∧ e9 35 = .int .i64 10 ∧ e9 36 = .int .i64 6) ⟨(by kernel_rfl), (by kernel_rfl), (by kernel_rfl), (by kernel_rfl), (by kernel_rfl)⟩ ?_
  rintro e_949 ⟨hv_951, hv_952, hv_953, hv_954, hv_955⟩
  obtain ⟨e_950, rfl⟩ : ∃ e_950, e_949 = put1 (put1 (put1 (put1 (put1 e_950 2 (.bool false)) 3 (.pointer (some ⟨g_11, 0, none⟩))) 34 (.slice (some ⟨g_16, 0, none⟩) 10 10)) 35 (.int .i64 10)) 36 (.int .i64 6) := ⟨e_949, (put_self hv_955).trans (congrArg (fun z => put1 z 36 (.int .i64 6)) ((put_self hv_954).trans (congrArg (fun z => put1 z 35 (.int .i64 10)) ((put_self hv_953).trans (congrArg (fun z => put1 z 34 (.slice (some ⟨g_16, 0, none⟩) 10 10)) ((put_self hv_952).trans (congrArg (fun z => put1 z 3 (.pointer (some ⟨g_11, 0, none⟩))) (put_self hv_951))))))))⟩
  clear hv_951 hv_952 hv_953 hv_954 hv_955
  refine CR.more ?_
  refine CW.seq ?_
  refine CW.region ?_
  refine SL.v (.bool true) ?_
  refine SL.nil ?_
  refine CW.seq ?_
  refine CW.cond_true (by kernel_rfl) ?_
  refine CW.skip ?_
  refine CW.seq ?_
  refine CW.block ?_
  refine CW.seq ?_
  refine CW.region ?_
  refine SL.v (.pointer (some ⟨g_16, 6, none⟩)) ?_
  refine SL.load (g := g_16) (off := 6) (v := .string ⟨#[116]⟩) rfl rfl rfl (by kernel_rfl) (hs_948.gr.blk hb_906) (by kernel_rfl) ?_
  refine SL.v (.string ⟨#[116]⟩) ?_
  refine SL.nil ?_
  refine CW.seq ?_
  refine CW.region ?_
  refine SL.load (g := g_11) (off := 0) (v := .agg (cvA c)) rfl rfl rfl (by kernel_rfl) (hs_948.gr.blk hb_905) (by kernel_rfl) ?_
  refine SL.v (.string ⟨#[116]⟩) ?_
  refine SL.call (f := 5) (args := #[.agg (cvA c), .string ⟨#[116]⟩]) (w1 := w_901) rfl rfl (by kernel_rfl) (setl_6 c w_901 hok (hT.gr (hG_947.trans hs_948.gr))) ?_
  rintro x w_956 ⟨rfl, hc_957⟩
  refine ⟨.tuple #[.string (strOf (fmtR ([c.clean.pb]) ++ [116])), .bool true], rfl, ?_⟩
  have hs_958 := hs_948.grow hc_957
  refine SL.v (.tuple #[.string (strOf (fmtR ([c.clean.pb]) ++ [116])), .bool true]) ?_
  refine SL.v (.string (strOf (fmtR ([c.clean.pb]) ++ [116]))) ?_
  refine SL.v (.bool true) ?_
  refine SL.v (.string (strOf (fmtR ([c.clean.pb]) ++ [116]))) ?_
  refine SL.v (.bool true) ?_
  refine SL.nil ?_
  refine CW.seq ?_
  refine CW.region ?_
  refine SL.v (.string (strOf (fmtR ([c.clean.pb]) ++ [116]))) ?_
  refine SL.val (v := .string (strOf ([27, 91] ++ (fmtR ([c.clean.pb]) ++ [116])))) (w' := w_956) rfl rfl (run_catL (a := [27, 91]) (b := fmtR ([c.clean.pb]) ++ [116]) rfl (by kernel_rfl) (by kernel_rfl) (by decide) (Nat.le_trans (set_l (by decide)) (by decide))) ?_
  refine SL.bytesR (l := [27, 91] ++ (fmtR ([c.clean.pb]) ++ [116])) rfl rfl rfl (Tryd.underlying9) (Tryd.underlying50) (Tryd.underlying5) (by kernel_rfl) (cat_b (by decide) (set_b (by decide))) (fun g_959 cap_960 w_961 hr_962 hg_963 => ?_)
  have hs_964 := hs_958.grow hg_963
  have hb_966 := hs_964.gr.blk hb_904
  have hb_967 := hs_964.gr.blk hb_905
  have hb_968 := hs_964.gr.blk hb_906
  have hb_969 := hs_964.gr.blk hb_907
  have hb_970 := hs_964.gr.blk hb_908
  have hb_971 := hs_964.gr.blk hb_909
  have hb_972 := hs_964.gr.blk hb_910
  have hb_973 := hs_964.gr.blk hb_911
  have hb_974 := hs_964.gr.blk hb_912
  have hb_975 := hs_964.gr.blk hb_913
  have hb_976 := hs_964.gr.blk hb_914
  have hb_977 := hs_964.gr.blk hb_915
  have hb_978 := hs_964.gr.blk hb_916
  have hb_979 := hs_964.gr.blk hb_917
  have hb_980 := hs_964.gr.blk hb_918
  have hb_981 := hs_964.gr.blk hb_919
  have hb_982 := hs_964.gr.blk hb_920
  have hb_983 := hs_964.gr.blk hb_921
  have hb_984 := hs_964.gr.blk hb_922
  have hb_985 := hs_964.gr.blk hb_923
  have hb_986 := hs_964.gr.blk hb_898
  have hr_987 := hr_924.gr hs_964.gr
  have hr_988 := hr_925.gr hs_964.gr
  have hr_989 := hr_926.gr hs_964.gr
  have hr_990 := hr_927.gr hs_964.gr
  have hr_991 := hr_928.gr hs_964.gr
  have hr_992 := hr_929.gr hs_964.gr
  have hr_993 := hr_930.gr hs_964.gr
  have hr_994 := hr_931.gr hs_964.gr
  have hr_995 := hr_932.gr hs_964.gr
  have hr_996 := hr_933.gr hs_964.gr
  have hr_997 := hr_934.gr hs_964.gr
  have hr_998 := hr_935.gr hs_964.gr
  have hr_999 := hr_936.gr hs_964.gr
  have hr_1000 := hr_937.gr hs_964.gr
  have hr_1001 := hr_938.gr hs_964.gr
  have hr_1002 := hr_939.gr hs_964.gr
  have hr_1003 := hr_940.gr hs_964.gr
  have hr_1004 := hr_941.gr hs_964.gr
  have hr_1005 := hr_942.gr hs_964.gr
  have hr_1006 := hr_943.gr hs_964.gr
  have hr_1007 := hr_944.gr hs_964.gr
  have hr_1008 := hr_945.gr hs_964.gr
  have hr_1009 := hr_946.gr hs_964.gr
  have hr_1010 := hr_899.gr hs_964.gr
  have hG_1011 := (hG_947.trans hs_964.gr)
  have hs_1012 := SH.none w_961
  refine SL.call (f := 6) (args := #[.slice (some ⟨g_959, 0, none⟩) (([27, 91] ++ (fmtR ([c.clean.pb]) ++ [116])).length) cap_960]) (w1 := w_961) rfl rfl (by kernel_rfl) (split_1 (t := (setT 116 [] ([c.clean.pb]))) (setT_can (by decide) ⟨by decide, by decide⟩ hN6) (by intro c_ h_; cases h_) (setT_bytes 116 [] ([c.clean.pb])) (hr_962.gr hs_1012.gr)) ?_
  rintro x w_1023 ⟨g_1013, cap_1014, pad_1015, a_1016, c_1017, a_1018, c_1019, rfl, hb_1020, hr_1021, hc_1024⟩
  refine ⟨_, rfl, ?_⟩
  have hs_1025 := hs_1012.grow hc_1024
  have hb_1026 := hs_1025.gr.blk hb_966
  have hb_1027 := hs_1025.gr.blk hb_967
  have hb_1028 := hs_1025.gr.blk hb_968
  have hb_1029 := hs_1025.gr.blk hb_969
  have hb_1030 := hs_1025.gr.blk hb_970
  have hb_1031 := hs_1025.gr.blk hb_971
  have hb_1032 := hs_1025.gr.blk hb_972
  have hb_1033 := hs_1025.gr.blk hb_973
  have hb_1034 := hs_1025.gr.blk hb_974
  have hb_1035 := hs_1025.gr.blk hb_975
  have hb_1036 := hs_1025.gr.blk hb_976
  have hb_1037 := hs_1025.gr.blk hb_977
  have hb_1038 := hs_1025.gr.blk hb_978
  have hb_1039 := hs_1025.gr.blk hb_979
  have hb_1040 := hs_1025.gr.blk hb_980
  have hb_1041 := hs_1025.gr.blk hb_981
  have hb_1042 := hs_1025.gr.blk hb_982
  have hb_1043 := hs_1025.gr.blk hb_983
  have hb_1044 := hs_1025.gr.blk hb_984
  have hb_1045 := hs_1025.gr.blk hb_985
  have hb_1046 := hs_1025.gr.blk hb_986
  have hr_1047 := hr_987.gr hs_1025.gr
  have hr_1048 := hr_988.gr hs_1025.gr
  have hr_1049 := hr_989.gr hs_1025.gr
  have hr_1050 := hr_990.gr hs_1025.gr
  have hr_1051 := hr_991.gr hs_1025.gr
  have hr_1052 := hr_992.gr hs_1025.gr
  have hr_1053 := hr_993.gr hs_1025.gr
  have hr_1054 := hr_994.gr hs_1025.gr
  have hr_1055 := hr_995.gr hs_1025.gr
  have hr_1056 := hr_996.gr hs_1025.gr
  have hr_1057 := hr_997.gr hs_1025.gr
  have hr_1058 := hr_998.gr hs_1025.gr
  have hr_1059 := hr_999.gr hs_1025.gr
  have hr_1060 := hr_1000.gr hs_1025.gr
  have hr_1061 := hr_1001.gr hs_1025.gr
  have hr_1062 := hr_1002.gr hs_1025.gr
  have hr_1063 := hr_1003.gr hs_1025.gr
  have hr_1064 := hr_1004.gr hs_1025.gr
  have hr_1065 := hr_1005.gr hs_1025.gr
  have hr_1066 := hr_1006.gr hs_1025.gr
  have hr_1067 := hr_1007.gr hs_1025.gr
  have hr_1068 := hr_1008.gr hs_1025.gr
  have hr_1069 := hr_1009.gr hs_1025.gr
  have hr_1070 := hr_1010.gr hs_1025.gr
  have hr_1071 := hr_962.gr hs_1025.gr
  have hG_1072 := (hG_1011.trans hs_1025.gr)
  have hs_1073 := SH.none w_1023
  refine SL.v (.slice (some ⟨g_1013, 0, none⟩) 1 cap_1014) ?_
  refine SL.nil ?_
  refine CW.seq ?_
  refine CW.seq ?_
  refine CW.region ?_
  refine SL.v (.bool true) ?_
  refine SL.v (.bool false) ?_
  refine SL.v (.bool false) ?_
  refine SL.go ?_
  refine SL.v (.slice (some ⟨g_1013, 0, none⟩) 1 cap_1014) ?_
  refine SL.go ?_
  refine SL.val (v := .int .i64 1) (w' := w_1023) rfl rfl (by kernel_rfl) ?_
  refine SL.go ?_
  refine SL.v (.bool false) ?_
  refine SL.v (.bool false) ?_
  refine SL.v (.bool false) ?_
  refine SL.go ?_
  refine SL.v (.slice (some ⟨g_1013, 0, none⟩) 1 cap_1014) ?_
  refine SL.go ?_
  refine SL.v (.pointer (some ⟨g_1013, 0, none⟩)) ?_
  refine SL.go ?_
  refine SL.v (.pointer (some ⟨g_1013, 0, none⟩)) ?_
  refine SL.go ?_
  refine SL.load (g := g_1013) (off := 0) (v := .int .i64 4) rfl rfl rfl (by kernel_rfl) (hs_1073.gr.blk hb_1020) (by kernel_rfl) ?_
  refine SL.go ?_
  refine SL.v (.bool false) ?_
  refine SL.v (.bool false) ?_
  refine SL.v (.bool false) ?_
  refine SL.go ?_
  refine SL.v (.slice (some ⟨g_1013, 0, none⟩) 1 cap_1014) ?_
  refine SL.go ?_
  refine SL.v (.pointer (some ⟨g_1013, 0, none⟩)) ?_
  refine SL.go ?_
  refine SL.load (g := g_1013) (off := 0) (v := .agg #[.int .i64 4, .int .u8 116, .int .u8 0, .slice a_1016 1 c_1017, .string (strOf ([])), .slice a_1018 0 c_1019]) rfl rfl rfl (by kernel_rfl) (hs_1073.gr.blk hb_1020) (by kernel_rfl) ?_
  refine SL.go ?_
  refine SL.call (f := 7) (args := #[.agg #[.int .i64 4, .int .u8 116, .int .u8 0, .slice a_1016 1 c_1017, .string (strOf ([])), .slice a_1018 0 c_1019]]) (w1 := w_1023) rfl rfl (by kernel_rfl) (tid_any (k := 4) (c := 116) (m := 0) (l := []) (by decide) (by decide)) ?_
  rintro x w_1074 ⟨rfl, hc_1075⟩
  refine ⟨.string ⟨#[116]⟩, rfl, ?_⟩
  have hs_1076 := hs_1073.grow hc_1075
  refine SL.go ?_
  refine SL.v (.string ⟨#[116]⟩) ?_
  refine SL.go ?_
  refine SL.val (v := .bool false) (w' := w_1074) rfl rfl (run_strneB (a := ⟨#[116]⟩) (b := ⟨#[116]⟩) (c := true) rfl (by kernel_rfl) (by kernel_rfl) (by kernel_rfl)) ?_
  refine SL.v (.bool false) ?_
  refine SL.v (.bool false) ?_
  refine SL.go ?_
  refine SL.v (.slice (some ⟨g_1013, 0, none⟩) 1 cap_1014) ?_
  refine SL.go ?_
  refine SL.v (.pointer (some ⟨g_1013, 0, none⟩)) ?_
  refine SL.go ?_
  refine SL.v (.pointer (some ⟨g_1013, 3, none⟩)) ?_
  refine SL.go ?_
  refine SL.load (g := g_1013) (off := 3) (v := .slice a_1016 1 c_1017) rfl rfl rfl (by kernel_rfl) (hs_1076.gr.blk hb_1020) (by kernel_rfl) ?_
  refine SL.go ?_
  refine SL.val (v := .int .i64 1) (w' := w_1074) rfl rfl (by kernel_rfl) ?_
  refine SL.go ?_
  refine SL.v (.bool false) ?_
  refine SL.v (.bool false) ?_
  refine SL.nil ?_
  refine CW.cond_false (by kernel_rfl) ?_
  refine CW.skip ?_
  refine CW.seq ?_
  refine CW.region ?_
  refine SL.v (.string (strOf (fmtR ([c.clean.pb]) ++ [116]))) ?_
  refine SL.newH (mk := fun g => .slice (some ⟨g, 0, none⟩) 1 1) (C := #[.int .i64 1]) (T := 3) hs_1076 rfl rfl (by kernel_rfl) (fun g_1077 w_1078 hs_1079 => ?_)
  have hs_1079 : SH [] w_1023 w_1078 [pt g_1077 #[.int .i64 1] 3] := hs_1079
  refine SL.call (f := 8) (args := #[.bool false, .string ⟨#[36, 114]⟩, .string (strOf (fmtR ([c.clean.pb]) ++ [116])), .slice (some ⟨g_1077, 0, none⟩) 1 1]) (w1 := w_1078) rfl rfl (by kernel_rfl) (dcs_set (l := fmtR ([c.clean.pb]) ++ [116]) (hs_1079.pt_at (i := 0) rfl) (set_dat (by decide) (by decide)) (set_b (by decide)) (hT.gr (hG_1072.trans hs_1079.gr))) ?_
  rintro x w_1084 ⟨va_1080, vc_1081, rfl, hr_1082, hc_1085⟩
  refine ⟨_, rfl, ?_⟩
  have hs_1086 := hs_1079.grow hc_1085
  have hb_1087 := hs_1086.gr.blk hb_1026
  have hb_1088 := hs_1086.gr.blk hb_1027
  have hb_1089 := hs_1086.gr.blk hb_1028
  have hb_1090 := hs_1086.gr.blk hb_1029
  have hb_1091 := hs_1086.gr.blk hb_1030
  have hb_1092 := hs_1086.gr.blk hb_1031
  have hb_1093 := hs_1086.gr.blk hb_1032
  have hb_1094 := hs_1086.gr.blk hb_1033
  have hb_1095 := hs_1086.gr.blk hb_1034
  have hb_1096 := hs_1086.gr.blk hb_1035
  have hb_1097 := hs_1086.gr.blk hb_1036
  have hb_1098 := hs_1086.gr.blk hb_1037
  have hb_1099 := hs_1086.gr.blk hb_1038
  have hb_1100 := hs_1086.gr.blk hb_1039
  have hb_1101 := hs_1086.gr.blk hb_1040
  have hb_1102 := hs_1086.gr.blk hb_1041
  have hb_1103 := hs_1086.gr.blk hb_1042
  have hb_1104 := hs_1086.gr.blk hb_1043
  have hb_1105 := hs_1086.gr.blk hb_1044
  have hb_1106 := hs_1086.gr.blk hb_1045
  have hb_1107 := hs_1086.gr.blk hb_1046
  have hb_1108 := hs_1086.gr.blk hb_1020
  have hr_1109 := hr_1047.gr hs_1086.gr
  have hr_1110 := hr_1048.gr hs_1086.gr
  have hr_1111 := hr_1049.gr hs_1086.gr
  have hr_1112 := hr_1050.gr hs_1086.gr
  have hr_1113 := hr_1051.gr hs_1086.gr
  have hr_1114 := hr_1052.gr hs_1086.gr
  have hr_1115 := hr_1053.gr hs_1086.gr
  have hr_1116 := hr_1054.gr hs_1086.gr
  have hr_1117 := hr_1055.gr hs_1086.gr
  have hr_1118 := hr_1056.gr hs_1086.gr
  have hr_1119 := hr_1057.gr hs_1086.gr
  have hr_1120 := hr_1058.gr hs_1086.gr
  have hr_1121 := hr_1059.gr hs_1086.gr
  have hr_1122 := hr_1060.gr hs_1086.gr
  have hr_1123 := hr_1061.gr hs_1086.gr
  have hr_1124 := hr_1062.gr hs_1086.gr
  have hr_1125 := hr_1063.gr hs_1086.gr
  have hr_1126 := hr_1064.gr hs_1086.gr
  have hr_1127 := hr_1065.gr hs_1086.gr
  have hr_1128 := hr_1066.gr hs_1086.gr
  have hr_1129 := hr_1067.gr hs_1086.gr
  have hr_1130 := hr_1068.gr hs_1086.gr
  have hr_1131 := hr_1069.gr hs_1086.gr
  have hr_1132 := hr_1070.gr hs_1086.gr
  have hr_1133 := hr_1071.gr hs_1086.gr
  have hr_1134 := hr_1021.gr hs_1086.gr
  have hb_1135 : w_1084.heap[g_1077]? = some (.cells #[.int .i64 1] 3 (0, 0)) := (hs_1086.pt_at (i := 0) rfl)
  have hG_1136 := (hG_1072.trans hs_1086.gr)
  have hs_1137 := SH.none w_1084
  refine SL.call (f := 6) (args := #[.slice va_1080 ((bytesR (dcsT (fmtR ([c.clean.pb]) ++ [116])) false).length) vc_1081]) (w1 := w_1084) rfl rfl (by kernel_rfl) (split_1 (t := (dcsT (fmtR ([c.clean.pb]) ++ [116]))) (dcsT_can (set_dat (by decide) (by decide))) (set_b (by decide)) rfl (hr_1082.gr hs_1137.gr)) ?_
  rintro x w_1148 ⟨g_1138, cap_1139, pad_1140, a_1141, c_1142, a_1143, c_1144, rfl, hb_1145, hr_1146, hc_1149⟩
  refine ⟨_, rfl, ?_⟩
  have hs_1150 := hs_1137.grow hc_1149
  have hb_1151 := hs_1150.gr.blk hb_1087
  have hb_1152 := hs_1150.gr.blk hb_1088
  have hb_1153 := hs_1150.gr.blk hb_1089
  have hb_1154 := hs_1150.gr.blk hb_1090
  have hb_1155 := hs_1150.gr.blk hb_1091
  have hb_1156 := hs_1150.gr.blk hb_1092
  have hb_1157 := hs_1150.gr.blk hb_1093
  have hb_1158 := hs_1150.gr.blk hb_1094
  have hb_1159 := hs_1150.gr.blk hb_1095
  have hb_1160 := hs_1150.gr.blk hb_1096
  have hb_1161 := hs_1150.gr.blk hb_1097
  have hb_1162 := hs_1150.gr.blk hb_1098
  have hb_1163 := hs_1150.gr.blk hb_1099
  have hb_1164 := hs_1150.gr.blk hb_1100
  have hb_1165 := hs_1150.gr.blk hb_1101
  have hb_1166 := hs_1150.gr.blk hb_1102
  have hb_1167 := hs_1150.gr.blk hb_1103
  have hb_1168 := hs_1150.gr.blk hb_1104
  have hb_1169 := hs_1150.gr.blk hb_1105
  have hb_1170 := hs_1150.gr.blk hb_1106
  have hb_1171 := hs_1150.gr.blk hb_1107
  have hb_1172 := hs_1150.gr.blk hb_1108
  have hb_1173 := hs_1150.gr.blk hb_1135
  have hr_1174 := hr_1109.gr hs_1150.gr
  have hr_1175 := hr_1110.gr hs_1150.gr
  have hr_1176 := hr_1111.gr hs_1150.gr
  have hr_1177 := hr_1112.gr hs_1150.gr
  have hr_1178 := hr_1113.gr hs_1150.gr
  have hr_1179 := hr_1114.gr hs_1150.gr
  have hr_1180 := hr_1115.gr hs_1150.gr
  have hr_1181 := hr_1116.gr hs_1150.gr
  have hr_1182 := hr_1117.gr hs_1150.gr
  have hr_1183 := hr_1118.gr hs_1150.gr
  have hr_1184 := hr_1119.gr hs_1150.gr
  have hr_1185 := hr_1120.gr hs_1150.gr
  have hr_1186 := hr_1121.gr hs_1150.gr
  have hr_1187 := hr_1122.gr hs_1150.gr
  have hr_1188 := hr_1123.gr hs_1150.gr
  have hr_1189 := hr_1124.gr hs_1150.gr
  have hr_1190 := hr_1125.gr hs_1150.gr
  have hr_1191 := hr_1126.gr hs_1150.gr
  have hr_1192 := hr_1127.gr hs_1150.gr
  have hr_1193 := hr_1128.gr hs_1150.gr
  have hr_1194 := hr_1129.gr hs_1150.gr
  have hr_1195 := hr_1130.gr hs_1150.gr
  have hr_1196 := hr_1131.gr hs_1150.gr
  have hr_1197 := hr_1132.gr hs_1150.gr
  have hr_1198 := hr_1133.gr hs_1150.gr
  have hr_1199 := hr_1134.gr hs_1150.gr
  have hr_1200 := hr_1082.gr hs_1150.gr
  have hG_1201 := (hG_1136.trans hs_1150.gr)
  have hs_1202 := SH.none w_1148
  refine SL.v (.slice (some ⟨g_1138, 0, none⟩) 1 cap_1139) ?_
  refine SL.nil ?_
  refine CW.seq ?_
  refine CW.region ?_
  refine SL.v (.slice (some ⟨g_1138, 0, none⟩) 1 cap_1139) ?_
  refine SL.val (v := .int .i64 1) (w' := w_1148) rfl rfl (by kernel_rfl) ?_
  refine SL.v (.bool false) ?_
  refine SL.v (.bool false) ?_
  refine SL.go ?_
  refine SL.v (.slice (some ⟨g_1138, 0, none⟩) 1 cap_1139) ?_
  refine SL.go ?_
  refine SL.v (.pointer (some ⟨g_1138, 0, none⟩)) ?_
  refine SL.go ?_
  refine SL.v (.pointer (some ⟨g_1138, 5, none⟩)) ?_
  refine SL.go ?_
  refine SL.load (g := g_1138) (off := 5) (v := .slice a_1143 ((fmtR ([c.clean.pb]) ++ [116]).length) c_1144) rfl rfl rfl (by kernel_rfl) (hs_1202.gr.blk hb_1145) (by kernel_rfl) ?_
  refine SL.go ?_
  refine SL.val (v := .string (strOf (fmtR ([c.clean.pb]) ++ [116]))) (w' := w_1148) rfl rfl (run_conv rfl (by kernel_rfl) (conv_row (hr_1146.gr hs_1202.gr))) ?_
  refine SL.go ?_
  refine SL.v (.string (strOf (fmtR ([c.clean.pb]) ++ [116]))) ?_
  refine SL.go ?_
  refine SL.val (v := .bool false) (w' := w_1148) rfl rfl (run_strneB (a := strOf (fmtR ([c.clean.pb]) ++ [116])) (b := strOf (fmtR ([c.clean.pb]) ++ [116])) (c := true) rfl (by kernel_rfl) (by kernel_rfl) (seqB_self _)) ?_
  refine SL.v (.bool false) ?_
  refine SL.nil ?_
  refine CW.cond_false (by kernel_rfl) ?_
  refine CW.skip ?_
  refine CW.region ?_
  refine SL.v (.int .i64 7) ?_
  refine SL.v (.int .i64 7) ?_
  refine SL.nil ?_
  refine CR.fresh (fun e9 => e9 2 = .bool false ∧ e9 3 = .pointer (some ⟨g_11, 0, none⟩) ∧ e9 34 = .slice (some ⟨g_16, 0, none⟩) 10 10 ∧ e9 35 = .int .i64 10 ∧ e9 36 = .int .i64 7) ⟨(by kernel_rfl), (by kernel_rfl), (by kernel_rfl), (by kernel_rfl), (by kernel_rfl)⟩ ?_
  rintro e_1203 ⟨hv_1205, hv_1206, hv_1207, hv_1208, hv_1209⟩
  obtain ⟨e_1204, rfl⟩ : ∃ e_1204, e_1203 = put1 (put1 (put1 (put1 (put1 e_1204 2 (.bool false)) 3 (.pointer (some ⟨g_11, 0, none⟩))) 34 (.slice (some ⟨g_16, 0, none⟩) 10 10)) 35 (.int .i64 10)) 36 (.int .i64 7) := ⟨e_1203, (put_self hv_1209).trans (congrArg (fun z => put1 z 36 (.int .i64 7)) ((put_self hv_1208).trans (congrArg (fun z => put1 z 35 (.int .i64 10)) ((put_self hv_1207).trans (congrArg (fun z => put1 z 34 (.slice (some ⟨g_16, 0, none⟩) 10 10)) ((put_self hv_1206).trans (congrArg (fun z => put1 z 3 (.pointer (some ⟨g_11, 0, none⟩))) (put_self hv_1205))))))))⟩
  clear hv_1205 hv_1206 hv_1207 hv_1208 hv_1209
  refine CR.more ?_
  refine CW.seq ?_
  refine CW.region ?_
  refine SL.v (.bool true) ?_
  refine SL.nil ?_
  refine CW.seq ?_
  refine CW.cond_true (by kernel_rfl) ?_
  refine CW.skip ?_
  refine CW.seq ?_
  refine CW.block ?_
  refine CW.seq ?_
  refine CW.region ?_
  refine SL.v (.pointer (some ⟨g_16, 7, none⟩)) ?_
  refine SL.load (g := g_16) (off := 7) (v := .string ⟨#[36, 124]⟩) rfl rfl rfl (by kernel_rfl) (hs_1202.gr.blk hb_1153) (by kernel_rfl) ?_
  refine SL.v (.string ⟨#[36, 124]⟩) ?_
  refine SL.nil ?_
  refine CW.seq ?_
  refine CW.region ?_
  refine SL.load (g := g_11) (off := 0) (v := .agg (cvA c)) rfl rfl rfl (by kernel_rfl) (hs_1202.gr.blk hb_1152) (by kernel_rfl) ?_
  refine SL.v (.string ⟨#[36, 124]⟩) ?_
  refine SL.call (f := 5) (args := #[.agg (cvA c), .string ⟨#[36, 124]⟩]) (w1 := w_1148) rfl rfl (by kernel_rfl) (setl_7 c w_1148 hok (hT.gr (hG_1201.trans hs_1202.gr))) ?_
  rintro x w_1210 ⟨rfl, hc_1211⟩
  refine ⟨.tuple #[.string (strOf (fmtR ([c.clean.pr]) ++ [36, 124])), .bool true], rfl, ?_⟩
  have hs_1212 := hs_1202.grow hc_1211
  refine SL.v (.tuple #[.string (strOf (fmtR ([c.clean.pr]) ++ [36, 124])), .bool true]) ?_
  refine SL.v (.string (strOf (fmtR ([c.clean.pr]) ++ [36, 124]))) ?_
  refine SL.v (.bool true) ?_
  refine SL.v (.string (strOf (fmtR ([c.clean.pr]) ++ [36, 124]))) ?_
  refine SL.v (.bool true) ?_
  refine SL.nil ?_
  refine CW.seq ?_
  refine CW.region ?_
  refine SL.v (.string (strOf (fmtR ([c.clean.pr]) ++ [36, 124]))) ?_
  refine SL.val (v := .string (strOf ([27, 91] ++ (fmtR ([c.clean.pr]) ++ [36, 124])))) (w' := w_1210) rfl rfl (run_catL (a := [27, 91]) (b := fmtR ([c.clean.pr]) ++ [36, 124]) rfl (by kernel_rfl) (by kernel_rfl) (by decide) (Nat.le_trans (set_l (by decide)) (by decide))) ?_
  refine SL.bytesR (l := [27, 91] ++ (fmtR ([c.clean.pr]) ++ [36, 124])) rfl rfl rfl (Tryd.underlying9) (Tryd.underlying50) (Tryd.underlying5) (by kernel_rfl) (cat_b (by decide) (set_b (by decide))) (fun g_1213 cap_1214 w_1215 hr_1216 hg_1217 => ?_)
  have hs_1218 := hs_1212.grow hg_1217
  have hb_1220 := hs_1218.gr.blk hb_1151
  have hb_1221 := hs_1218.gr.blk hb_1152
  have hb_1222 := hs_1218.gr.blk hb_1153
  have hb_1223 := hs_1218.gr.blk hb_1154
  have hb_1224 := hs_1218.gr.blk hb_1155
  have hb_1225 := hs_1218.gr.blk hb_1156
  have hb_1226 := hs_1218.gr.blk hb_1157
  have hb_1227 := hs_1218.gr.blk hb_1158
  have hb_1228 := hs_1218.gr.blk hb_1159
  have hb_1229 := hs_1218.gr.blk hb_1160
  have hb_1230 := hs_1218.gr.blk hb_1161
  have hb_1231 := hs_1218.gr.blk hb_1162
  have hb_1232 := hs_1218.gr.blk hb_1163
  have hb_1233 := hs_1218.gr.blk hb_1164
  have hb_1234 := hs_1218.gr.blk hb_1165
  have hb_1235 := hs_1218.gr.blk hb_1166
  have hb_1236 := hs_1218.gr.blk hb_1167
  have hb_1237 := hs_1218.gr.blk hb_1168
  have hb_1238 := hs_1218.gr.blk hb_1169
  have hb_1239 := hs_1218.gr.blk hb_1170
  have hb_1240 := hs_1218.gr.blk hb_1171
  have hb_1241 := hs_1218.gr.blk hb_1172
  have hb_1242 := hs_1218.gr.blk hb_1173
  have hb_1243 := hs_1218.gr.blk hb_1145
  have hr_1244 := hr_1174.gr hs_1218.gr
  have hr_1245 := hr_1175.gr hs_1218.gr
  have hr_1246 := hr_1176.gr hs_1218.gr
  have hr_1247 := hr_1177.gr hs_1218.gr
  have hr_1248 := hr_1178.gr hs_1218.gr
  have hr_1249 := hr_1179.gr hs_1218.gr
  have hr_1250 := hr_1180.gr hs_1218.gr
  have hr_1251 := hr_1181.gr hs_1218.gr
  have hr_1252 := hr_1182.gr hs_1218.gr
  have hr_1253 := hr_1183.gr hs_1218.gr
  have hr_1254 := hr_1184.gr hs_1218.gr
  have hr_1255 := hr_1185.gr hs_1218.gr
  have hr_1256 := hr_1186.gr hs_1218.gr
  have hr_1257 := hr_1187.gr hs_1218.gr
  have hr_1258 := hr_1188.gr hs_1218.gr
  have hr_1259 := hr_1189.gr hs_1218.gr
  have hr_1260 := hr_1190.gr hs_1218.gr
  have hr_1261 := hr_1191.gr hs_1218.gr
  have hr_1262 := hr_1192.gr hs_1218.gr
  have hr_1263 := hr_1193.gr hs_1218.gr
  have hr_1264 := hr_1194.gr hs_1218.gr
  have hr_1265 := hr_1195.gr hs_1218.gr
  have hr_1266 := hr_1196.gr hs_1218.gr
  have hr_1267 := hr_1197.gr hs_1218.gr
  have hr_1268 := hr_1198.gr hs_1218.gr
  have hr_1269 := hr_1199.gr hs_1218.gr
  have hr_1270 := hr_1200.gr hs_1218.gr
  have hr_1271 := hr_1146.gr hs_1218.gr
  have hG_1272 := (hG_1201.trans hs_1218.gr)
  have hs_1273 := SH.none w_1215
  refine SL.call (f := 6) (args := #[.slice (some ⟨g_1213, 0, none⟩) (([27, 91] ++ (fmtR ([c.clean.pr]) ++ [36, 124])).length) cap_1214]) (w1 := w_1215) rfl rfl (by kernel_rfl) (split_1 (t := (setT 124 [36] ([c.clean.pr]))) (setT_can (by decide) ⟨by decide, by decide⟩ hN7) (by intro c_ h_; cases h_) (setT_bytes 124 [36] ([c.clean.pr])) (hr_1216.gr hs_1273.gr)) ?_
  rintro x w_1284 ⟨g_1274, cap_1275, pad_1276, a_1277, c_1278, a_1279, c_1280, rfl, hb_1281, hr_1282, hc_1285⟩
  refine ⟨_, rfl, ?_⟩
  have hs_1286 := hs_1273.grow hc_1285
  have hb_1287 := hs_1286.gr.blk hb_1220
  have hb_1288 := hs_1286.gr.blk hb_1221
  have hb_1289 := hs_1286.gr.blk hb_1222
  have hb_1290 := hs_1286.gr.blk hb_1223
  have hb_1291 := hs_1286.gr.blk hb_1224
  have hb_1292 := hs_1286.gr.blk hb_1225
  have hb_1293 := hs_1286.gr.blk hb_1226
  have hb_1294 := hs_1286.gr.blk hb_1227
  have hb_1295 := hs_1286.gr.blk hb_1228
  have hb_1296 := hs_1286.gr.blk hb_1229
  have hb_1297 := hs_1286.gr.blk hb_1230
  have hb_1298 := hs_1286.gr.blk hb_1231
  have hb_1299 := hs_1286.gr.blk hb_1232
  have hb_1300 := hs_1286.gr.blk hb_1233
  have hb_1301 := hs_1286.gr.blk hb_1234
  have hb_1302 := hs_1286.gr.blk hb_1235
  have hb_1303 := hs_1286.gr.blk hb_1236
  have hb_1304 := hs_1286.gr.blk hb_1237
  have hb_1305 := hs_1286.gr.blk hb_1238
  have hb_1306 := hs_1286.gr.blk hb_1239
  have hb_1307 := hs_1286.gr.blk hb_1240
  have hb_1308 := hs_1286.gr.blk hb_1241
  have hb_1309 := hs_1286.gr.blk hb_1242
  have hb_1310 := hs_1286.gr.blk hb_1243
  have hr_1311 := hr_1244.gr hs_1286.gr
  have hr_1312 := hr_1245.gr hs_1286.gr
  have hr_1313 := hr_1246.gr hs_1286.gr
  have hr_1314 := hr_1247.gr hs_1286.gr
  have hr_1315 := hr_1248.gr hs_1286.gr
  have hr_1316 := hr_1249.gr hs_1286.gr
  have hr_1317 := hr_1250.gr hs_1286.gr
  have hr_1318 := hr_1251.gr hs_1286.gr
  have hr_1319 := hr_1252.gr hs_1286.gr
  have hr_1320 := hr_1253.gr hs_1286.gr
  have hr_1321 := hr_1254.gr hs_1286.gr
  have hr_1322 := hr_1255.gr hs_1286.gr
  have hr_1323 := hr_1256.gr hs_1286.gr
  have hr_1324 := hr_1257.gr hs_1286.gr
  have hr_1325 := hr_1258.gr hs_1286.gr
  have hr_1326 := hr_1259.gr hs_1286.gr
  have hr_1327 := hr_1260.gr hs_1286.gr
  have hr_1328 := hr_1261.gr hs_1286.gr
  have hr_1329 := hr_1262.gr hs_1286.gr
  have hr_1330 := hr_1263.gr hs_1286.gr
  have hr_1331 := hr_1264.gr hs_1286.gr
  have hr_1332 := hr_1265.gr hs_1286.gr
  have hr_1333 := hr_1266.gr hs_1286.gr
  have hr_1334 := hr_1267.gr hs_1286.gr
  have hr_1335 := hr_1268.gr hs_1286.gr
  have hr_1336 := hr_1269.gr hs_1286.gr
  have hr_1337 := hr_1270.gr hs_1286.gr
  have hr_1338 := hr_1271.gr hs_1286.gr
  have hr_1339 := hr_1216.gr hs_1286.gr
  have hG_1340 := (hG_1272.trans hs_1286.gr)
  have hs_1341 := SH.none w_1284
  refine SL.v (.slice (some ⟨g_1274, 0, none⟩) 1 cap_1275) ?_
  refine SL.nil ?_
  refine CW.seq ?_
  refine CW.seq ?_
  refine CW.region ?_
  refine SL.v (.bool true) ?_
  refine SL.v (.bool false) ?_
  refine SL.v (.bool false) ?_
  refine SL.go ?_
  refine SL.v (.slice (some ⟨g_1274, 0, none⟩) 1 cap_1275) ?_
  refine SL.go ?_
  refine SL.val (v := .int .i64 1) (w' := w_1284) rfl rfl (by kernel_rfl) ?_
  refine SL.go ?_
  refine SL.v (.bool false) ?_
  refine SL.v (.bool false) ?_
  refine SL.v (.bool false) ?_
  refine SL.go ?_
  refine SL.v (.slice (some ⟨g_1274, 0, none⟩) 1 cap_1275) ?_
  refine SL.go ?_
  refine SL.v (.pointer (some ⟨g_1274, 0, none⟩)) ?_
  refine SL.go ?_
  refine SL.v (.pointer (some ⟨g_1274, 0, none⟩)) ?_
  refine SL.go ?_
  refine SL.load (g := g_1274) (off := 0) (v := .int .i64 4) rfl rfl rfl (by kernel_rfl) (hs_1341.gr.blk hb_1281) (by kernel_rfl) ?_
  refine SL.go ?_
  refine SL.v (.bool false) ?_
  refine SL.v (.bool false) ?_
  refine SL.v (.bool false) ?_
  refine SL.go ?_
  refine SL.v (.slice (some ⟨g_1274, 0, none⟩) 1 cap_1275) ?_
  refine SL.go ?_
  refine SL.v (.pointer (some ⟨g_1274, 0, none⟩)) ?_
  refine SL.go ?_
  refine SL.load (g := g_1274) (off := 0) (v := .agg #[.int .i64 4, .int .u8 124, .int .u8 0, .slice a_1277 1 c_1278, .string (strOf ([36])), .slice a_1279 0 c_1280]) rfl rfl rfl (by kernel_rfl) (hs_1341.gr.blk hb_1281) (by kernel_rfl) ?_
  refine SL.go ?_
  refine SL.call (f := 7) (args := #[.agg #[.int .i64 4, .int .u8 124, .int .u8 0, .slice a_1277 1 c_1278, .string (strOf ([36])), .slice a_1279 0 c_1280]]) (w1 := w_1284) rfl rfl (by kernel_rfl) (tid_any (k := 4) (c := 124) (m := 0) (l := [36]) (by decide) (by decide)) ?_
  rintro x w_1342 ⟨rfl, hc_1343⟩
  refine ⟨.string ⟨#[36, 124]⟩, rfl, ?_⟩
  have hs_1344 := hs_1341.grow hc_1343
  refine SL.go ?_
  refine SL.v (.string ⟨#[36, 124]⟩) ?_
  refine SL.go ?_
  refine SL.val (v := .bool false) (w' := w_1342) rfl rfl (run_strneB (a := ⟨#[36, 124]⟩) (b := ⟨#[36, 124]⟩) (c := true) rfl (by kernel_rfl) (by kernel_rfl) (by kernel_rfl)) ?_
  refine SL.v (.bool false) ?_
  refine SL.v (.bool false) ?_
  refine SL.go ?_
  refine SL.v (.slice (some ⟨g_1274, 0, none⟩) 1 cap_1275) ?_
  refine SL.go ?_
  refine SL.v (.pointer (some ⟨g_1274, 0, none⟩)) ?_
  refine SL.go ?_
  refine SL.v (.pointer (some ⟨g_1274, 3, none⟩)) ?_
  refine SL.go ?_
  refine SL.load (g := g_1274) (off := 3) (v := .slice a_1277 1 c_1278) rfl rfl rfl (by kernel_rfl) (hs_1344.gr.blk hb_1281) (by kernel_rfl) ?_
  refine SL.go ?_
  refine SL.val (v := .int .i64 1) (w' := w_1342) rfl rfl (by kernel_rfl) ?_
  refine SL.go ?_
  refine SL.v (.bool false) ?_
  refine SL.v (.bool false) ?_
  refine SL.nil ?_
  refine CW.cond_false (by kernel_rfl) ?_
  refine CW.skip ?_
  refine CW.seq ?_
  refine CW.region ?_
  refine SL.v (.string (strOf (fmtR ([c.clean.pr]) ++ [36, 124]))) ?_
  refine SL.newH (mk := fun g => .slice (some ⟨g, 0, none⟩) 1 1) (C := #[.int .i64 1]) (T := 3) hs_1344 rfl rfl (by kernel_rfl) (fun g_1345 w_1346 hs_1347 => ?_)
  have hs_1347 : SH [] w_1284 w_1346 [pt g_1345 #[.int .i64 1] 3] := hs_1347
  refine SL.call (f := 8) (args := #[.bool false, .string ⟨#[36, 114]⟩, .string (strOf (fmtR ([c.clean.pr]) ++ [36, 124])), .slice (some ⟨g_1345, 0, none⟩) 1 1]) (w1 := w_1346) rfl rfl (by kernel_rfl) (dcs_set (l := fmtR ([c.clean.pr]) ++ [36, 124]) (hs_1347.pt_at (i := 0) rfl) (set_dat (by decide) (by decide)) (set_b (by decide)) (hT.gr (hG_1340.trans hs_1347.gr))) ?_
  rintro x w_1352 ⟨va_1348, vc_1349, rfl, hr_1350, hc_1353⟩
  refine ⟨_, rfl, ?_⟩
  have hs_1354 := hs_1347.grow hc_1353
  have hb_1355 := hs_1354.gr.blk hb_1287
  have hb_1356 := hs_1354.gr.blk hb_1288
  have hb_1357 := hs_1354.gr.blk hb_1289
  have hb_1358 := hs_1354.gr.blk hb_1290
  have hb_1359 := hs_1354.gr.blk hb_1291
  have hb_1360 := hs_1354.gr.blk hb_1292
  have hb_1361 := hs_1354.gr.blk hb_1293
  have hb_1362 := hs_1354.gr.blk hb_1294
  have hb_1363 := hs_1354.gr.blk hb_1295
  have hb_1364 := hs_1354.gr.blk hb_1296
  have hb_1365 := hs_1354.gr.blk hb_1297
  have hb_1366 := hs_1354.gr.blk hb_1298
  have hb_1367 := hs_1354.gr.blk hb_1299
  have hb_1368 := hs_1354.gr.blk hb_1300
  have hb_1369 := hs_1354.gr.blk hb_1301
  have hb_1370 := hs_1354.gr.blk hb_1302
  have hb_1371 := hs_1354.gr.blk hb_1303
  have hb_1372 := hs_1354.gr.blk hb_1304
  have hb_1373 := hs_1354.gr.blk hb_1305
  have hb_1374 := hs_1354.gr.blk hb_1306
  have hb_1375 := hs_1354.gr.blk hb_1307
  have hb_1376 := hs_1354.gr.blk hb_1308
  have hb_1377 := hs_1354.gr.blk hb_1309
  have hb_1378 := hs_1354.gr.blk hb_1310
  have hb_1379 := hs_1354.gr.blk hb_1281
  have hr_1380 := hr_1311.gr hs_1354.gr
  have hr_1381 := hr_1312.gr hs_1354.gr
  have hr_1382 := hr_1313.gr hs_1354.gr
  have hr_1383 := hr_1314.gr hs_1354.gr
  have hr_1384 := hr_1315.gr hs_1354.gr
  have hr_1385 := hr_1316.gr hs_1354.gr
  have hr_1386 := hr_1317.gr hs_1354.gr
  have hr_1387 := hr_1318.gr hs_1354.gr
  have hr_1388 := hr_1319.gr hs_1354.gr
  have hr_1389 := hr_1320.gr hs_1354.gr
  have hr_1390 := hr_1321.gr hs_1354.gr
  have hr_1391 := hr_1322.gr hs_1354.gr
  have hr_1392 := hr_1323.gr hs_1354.gr
  have hr_1393 := hr_1324.gr hs_1354.gr
  have hr_1394 := hr_1325.gr hs_1354.gr
  have hr_1395 := hr_1326.gr hs_1354.gr
  have hr_1396 := hr_1327.gr hs_1354.gr
  have hr_1397 := hr_1328.gr hs_1354.gr
  have hr_1398 := hr_1329.gr hs_1354.gr
  have hr_1399 := hr_1330.gr hs_1354.gr
  have hr_1400 := hr_1331.gr hs_1354.gr
  have hr_1401 := hr_1332.gr hs_1354.gr
  have hr_1402 := hr_1333.gr hs_1354.gr
  have hr_1403 := hr_1334.gr hs_1354.gr
  have hr_1404 := hr_1335.gr hs_1354.gr
  have hr_1405 := hr_1336.gr hs_1354.gr
  have hr_1406 := hr_1337.gr hs_1354.gr
  have hr_1407 := hr_1338.gr hs_1354.gr
  have hr_1408 := hr_1339.gr hs_1354.gr
  have hr_1409 := hr_1282.gr hs_1354.gr
  have hb_1410 : w_1352.heap[g_1345]? = some (.cells #[.int .i64 1] 3 (0, 0)) := (hs_1354.pt_at (i := 0) rfl)
  have hG_1411 := (hG_1340.trans hs_1354.gr)
  have hs_1412 := SH.none w_1352
  refine SL.call (f := 6) (args := #[.slice va_1348 ((bytesR (dcsT (fmtR ([c.clean.pr]) ++ [36, 124])) false).length) vc_1349]) (w1 := w_1352) rfl rfl (by kernel_rfl) (split_1 (t := (dcsT (fmtR ([c.clean.pr]) ++ [36, 124]))) (dcsT_can (set_dat (by decide) (by decide))) (set_b (by decide)) rfl (hr_1350.gr hs_1412.gr)) ?_
  rintro x w_1423 ⟨g_1413, cap_1414, pad_1415, a_1416, c_1417, a_1418, c_1419, rfl, hb_1420, hr_1421, hc_1424⟩
  refine ⟨_, rfl, ?_⟩
  have hs_1425 := hs_1412.grow hc_1424
  have hb_1426 := hs_1425.gr.blk hb_1355
  have hb_1427 := hs_1425.gr.blk hb_1356
  have hb_1428 := hs_1425.gr.blk hb_1357
  have hb_1429 := hs_1425.gr.blk hb_1358
  have hb_1430 := hs_1425.gr.blk hb_1359
  have hb_1431 := hs_1425.gr.blk hb_1360
  have hb_1432 := hs_1425.gr.blk hb_1361
  have hb_1433 := hs_1425.gr.blk hb_1362
  have hb_1434 := hs_1425.gr.blk hb_1363
  have hb_1435 := hs_1425.gr.blk hb_1364
  have hb_1436 := hs_1425.gr.blk hb_1365
  have hb_1437 := hs_1425.gr.blk hb_1366
  have hb_1438 := hs_1425.gr.blk hb_1367
  have hb_1439 := hs_1425.gr.blk hb_1368
  have hb_1440 := hs_1425.gr.blk hb_1369
  have hb_1441 := hs_1425.gr.blk hb_1370
  have hb_1442 := hs_1425.gr.blk hb_1371
  have hb_1443 := hs_1425.gr.blk hb_1372
  have hb_1444 := hs_1425.gr.blk hb_1373
  have hb_1445 := hs_1425.gr.blk hb_1374
  have hb_1446 := hs_1425.gr.blk hb_1375
  have hb_1447 := hs_1425.gr.blk hb_1376
  have hb_1448 := hs_1425.gr.blk hb_1377
  have hb_1449 := hs_1425.gr.blk hb_1378
  have hb_1450 := hs_1425.gr.blk hb_1379
  have hb_1451 := hs_1425.gr.blk hb_1410
  have hr_1452 := hr_1380.gr hs_1425.gr
  have hr_1453 := hr_1381.gr hs_1425.gr
  have hr_1454 := hr_1382.gr hs_1425.gr
  have hr_1455 := hr_1383.gr hs_1425.gr
  have hr_1456 := hr_1384.gr hs_1425.gr
  have hr_1457 := hr_1385.gr hs_1425.gr
  have hr_1458 := hr_1386.gr hs_1425.gr
  have hr_1459 := hr_1387.gr hs_1425.gr
  have hr_1460 := hr_1388.gr hs_1425.gr
  have hr_1461 := hr_1389.gr hs_1425.gr
  have hr_1462 := hr_1390.gr hs_1425.gr
  have hr_1463 := hr_1391.gr hs_1425.gr
  have hr_1464 := hr_1392.gr hs_1425.gr
  have hr_1465 := hr_1393.gr hs_1425.gr
  have hr_1466 := hr_1394.gr hs_1425.gr
  have hr_1467 := hr_1395.gr hs_1425.gr
  have hr_1468 := hr_1396.gr hs_1425.gr
  have hr_1469 := hr_1397.gr hs_1425.gr
  have hr_1470 := hr_1398.gr hs_1425.gr
  have hr_1471 := hr_1399.gr hs_1425.gr
  have hr_1472 := hr_1400.gr hs_1425.gr
  have hr_1473 := hr_1401.gr hs_1425.gr
  have hr_1474 := hr_1402.gr hs_1425.gr
  have hr_1475 := hr_1403.gr hs_1425.gr
  have hr_1476 := hr_1404.gr hs_1425.gr
  have hr_1477 := hr_1405.gr hs_1425.gr
  have hr_1478 := hr_1406.gr hs_1425.gr
  have hr_1479 := hr_1407.gr hs_1425.gr
  have hr_1480 := hr_1408.gr hs_1425.gr
  have hr_1481 := hr_1409.gr hs_1425.gr
  have hr_1482 := hr_1350.gr hs_1425.gr
  have hG_1483 := (hG_1411.trans hs_1425.gr)
  have hs_1484 := SH.none w_1423
  refine SL.v (.slice (some ⟨g_1413, 0, none⟩) 1 cap_1414) ?_
  refine SL.nil ?_
  refine CW.seq ?_
  refine CW.region ?_
  refine SL.v (.slice (some ⟨g_1413, 0, none⟩) 1 cap_1414) ?_
  refine SL.val (v := .int .i64 1) (w' := w_1423) rfl rfl (by kernel_rfl) ?_
  refine SL.v (.bool false) ?_
  refine SL.v (.bool false) ?_
  refine SL.go ?_
  refine SL.v (.slice (some ⟨g_1413, 0, none⟩) 1 cap_1414) ?_
  refine SL.go ?_
  refine SL.v (.pointer (some ⟨g_1413, 0, none⟩)) ?_
  refine SL.go ?_
  refine SL.v (.pointer (some ⟨g_1413, 5, none⟩)) ?_
  refine SL.go ?_
  refine SL.load (g := g_1413) (off := 5) (v := .slice a_1418 ((fmtR ([c.clean.pr]) ++ [36, 124]).length) c_1419) rfl rfl rfl (by kernel_rfl) (hs_1484.gr.blk hb_1420) (by kernel_rfl) ?_
  refine SL.go ?_
  refine SL.val (v := .string (strOf (fmtR ([c.clean.pr]) ++ [36, 124]))) (w' := w_1423) rfl rfl (run_conv rfl (by kernel_rfl) (conv_row (hr_1421.gr hs_1484.gr))) ?_
  refine SL.go ?_
  refine SL.v (.string (strOf (fmtR ([c.clean.pr]) ++ [36, 124]))) ?_
  refine SL.go ?_
  refine SL.val (v := .bool false) (w' := w_1423) rfl rfl (run_strneB (a := strOf (fmtR ([c.clean.pr]) ++ [36, 124])) (b := strOf (fmtR ([c.clean.pr]) ++ [36, 124])) (c := true) rfl (by kernel_rfl) (by kernel_rfl) (seqB_self _)) ?_
  refine SL.v (.bool false) ?_
  refine SL.nil ?_
  refine CW.cond_false (by kernel_rfl) ?_
  refine CW.skip ?_
  refine CW.region ?_
  refine SL.v (.int .i64 8) ?_
  refine SL.v (.int .i64 8) ?_
  refine SL.nil ?_
  refine CR.fresh (fun e9 => e9 2 = .bool false ∧ e9 3 = .pointer (some ⟨g_11, 0, none⟩) ∧ e9 34 = .slice (some ⟨g_16, 0, none⟩) 10 10 ∧ e9 35 = .int .i64 10 ∧ e9 36 = .int .i64 8) ⟨(by kernel_rfl), (by kernel_rfl), (by kernel_rfl), (by kernel_rfl), (by kernel_rfl)⟩ ?_
  rintro e_1485 ⟨hv_1487, hv_1488, hv_1489, hv_1490, hv_1491⟩
  obtain ⟨e_1486, rfl⟩ : ∃ e_1486, e_1485 = put1 (put1 (put1 (put1 (put1 e_1486 2 (.bool false)) 3 (.pointer (some ⟨g_11, 0, none⟩))) 34 (.slice (some ⟨g_16, 0, none⟩) 10 10)) 35 (.int .i64 10)) 36 (.int .i64 8) := ⟨e_1485, (put_self hv_1491).trans (congrArg (fun z => put1 z 36 (.int .i64 8)) ((put_self hv_1490).trans (congrArg (fun z => put1 z 35 (.int .i64 10)) ((put_self hv_1489).trans (congrArg (fun z => put1 z 34 (.slice (some ⟨g_16, 0, none⟩) 10 10)) ((put_self hv_1488).trans (congrArg (fun z => put1 z 3 (.pointer (some ⟨g_11, 0, none⟩))) (put_self hv_1487))))))))⟩
  clear hv_1487 hv_1488 hv_1489 hv_1490 hv_1491
  refine CR.more ?_
  refine CW.seq ?_
  refine CW.region ?_
  refine SL.v (.bool true) ?_
  refine SL.nil ?_
  refine CW.seq ?_
  refine CW.cond_true (by kernel_rfl) ?_
  refine CW.skip ?_
  refine CW.seq ?_
  refine CW.block ?_
  refine CW.seq ?_
  refine CW.region ?_
  refine SL.v (.pointer (some ⟨g_16, 8, none⟩)) ?_
  refine SL.load (g := g_16) (off := 8) (v := .string ⟨#[36, 126]⟩) rfl rfl rfl (by kernel_rfl) (hs_1484.gr.blk hb_1428) (by kernel_rfl) ?_
  refine SL.v (.string ⟨#[36, 126]⟩) ?_
  refine SL.nil ?_
  refine CW.seq ?_
  refine CW.region ?_
  refine SL.load (g := g_11) (off := 0) (v := .agg (cvA c)) rfl rfl rfl (by kernel_rfl) (hs_1484.gr.blk hb_1427) (by kernel_rfl) ?_
  refine SL.v (.string ⟨#[36, 126]⟩) ?_
  refine SL.call (f := 5) (args := #[.agg (cvA c), .string ⟨#[36, 126]⟩]) (w1 := w_1423) rfl rfl (by kernel_rfl) (setl_8 c w_1423 hok (hT.gr (hG_1483.trans hs_1484.gr))) ?_
  rintro x w_1492 ⟨rfl, hc_1493⟩
  refine ⟨.tuple #[.string (strOf (fmtR ([c.clean.status]) ++ [36, 126])), .bool true], rfl, ?_⟩
  have hs_1494 := hs_1484.grow hc_1493
  refine SL.v (.tuple #[.string (strOf (fmtR ([c.clean.status]) ++ [36, 126])), .bool true]) ?_
  refine SL.v (.string (strOf (fmtR ([c.clean.status]) ++ [36, 126]))) ?_
  refine SL.v (.bool true) ?_
  refine SL.v (.string (strOf (fmtR ([c.clean.status]) ++ [36, 126]))) ?_
  refine SL.v (.bool true) ?_
  refine SL.nil ?_
  refine CW.seq ?_
  refine CW.region ?_
  refine SL.v (.string (strOf (fmtR ([c.clean.status]) ++ [36, 126]))) ?_
  refine SL.val (v := .string (strOf ([27, 91] ++ (fmtR ([c.clean.status]) ++ [36, 126])))) (w' := w_1492) rfl rfl (run_catL (a := [27, 91]) (b := fmtR ([c.clean.status]) ++ [36, 126]) rfl (by kernel_rfl) (by kernel_rfl) (by decide) (Nat.le_trans (set_l (by decide)) (by decide))) ?_
  refine SL.bytesR (l := [27, 91] ++ (fmtR ([c.clean.status]) ++ [36, 126])) rfl rfl rfl (Tryd.underlying9) (Tryd.underlying50) (Tryd.underlying5) (by kernel_rfl) (cat_b (by decide) (set_b (by decide))) (fun g_1495 cap_1496 w_1497 hr_1498 hg_1499 => ?_)
  have hs_1500 := hs_1494.grow hg_1499
  have hb_1502 := hs_1500.gr.blk hb_1426
  have hb_1503 := hs_1500.gr.blk hb_1427
  have hb_1504 := hs_1500.gr.blk hb_1428
  have hb_1505 := hs_1500.gr.blk hb_1429
  have hb_1506 := hs_1500.gr.blk hb_1430
  have hb_1507 := hs_1500.gr.blk hb_1431
  have hb_1508 := hs_1500.gr.blk hb_1432
  have hb_1509 := hs_1500.gr.blk hb_1433
  have hb_1510 := hs_1500.gr.blk hb_1434
  have hb_1511 := hs_1500.gr.blk hb_1435
  have hb_1512 := hs_1500.gr.blk hb_1436
  have hb_1513 := hs_1500.gr.blk hb_1437
  have hb_1514 := hs_1500.gr.blk hb_1438
  have hb_1515 := hs_1500.gr.blk hb_1439
  have hb_1516 := hs_1500.gr.blk hb_1440
  have hb_1517 := hs_1500.gr.blk hb_1441
  have hb_1518 := hs_1500.gr.blk hb_1442
  have hb_1519 := hs_1500.gr.blk hb_1443
  have hb_1520 := hs_1500.gr.blk hb_1444
  have hb_1521 := hs_1500.gr.blk hb_1445
  have hb_1522 := hs_1500.gr.blk hb_1446
  have hb_1523 := hs_1500.gr.blk hb_1447
  have hb_1524 := hs_1500.gr.blk hb_1448
  have hb_1525 := hs_1500.gr.blk hb_1449
  have hb_1526 := hs_1500.gr.blk hb_1450
  have hb_1527 := hs_1500.gr.blk hb_1451
  have hb_1528 := hs_1500.gr.blk hb_1420
  have hr_1529 := hr_1452.gr hs_1500.gr
  have hr_1530 := hr_1453.gr hs_1500.gr
  have hr_1531 := hr_1454.gr hs_1500.gr
  have hr_1532 := hr_1455.gr hs_1500.gr
  have hr_1533 := hr_1456.gr hs_1500.gr
  have hr_1534 := hr_1457.gr hs_1500.gr
  have hr_1535 := hr_1458.gr hs_1500.gr
  have hr_1536 := hr_1459.gr hs_1500.gr
  have hr_1537 := hr_1460.gr hs_1500.gr
  have hr_1538 := hr_1461.gr hs_1500.gr
  have hr_1539 := hr_1462.gr hs_1500.gr
  have hr_1540 := hr_1463.gr hs_1500.gr
  have hr_1541 := hr_1464.gr hs_1500.gr
  have hr_1542 := hr_1465.gr hs_1500.gr
  have hr_1543 := hr_1466.gr hs_1500.gr
  have hr_1544 := hr_1467.gr hs_1500.gr
  have hr_1545 := hr_1468.gr hs_1500.gr
  have hr_1546 := hr_1469.gr hs_1500.gr
  have hr_1547 := hr_1470.gr hs_1500.gr
  have hr_1548 := hr_1471.gr hs_1500.gr
  have hr_1549 := hr_1472.gr hs_1500.gr
  have hr_1550 := hr_1473.gr hs_1500.gr
  have hr_1551 := hr_1474.gr hs_1500.gr
  have hr_1552 := hr_1475.gr hs_1500.gr
  have hr_1553 := hr_1476.gr hs_1500.gr
  have hr_1554 := hr_1477.gr hs_1500.gr
  have hr_1555 := hr_1478.gr hs_1500.gr
  have hr_1556 := hr_1479.gr hs_1500.gr
  have hr_1557 := hr_1480.gr hs_1500.gr
  have hr_1558 := hr_1481.gr hs_1500.gr
  have hr_1559 := hr_1482.gr hs_1500.gr
  have hr_1560 := hr_1421.gr hs_1500.gr
  have hG_1561 := (hG_1483.trans hs_1500.gr)
  have hs_1562 := SH.none w_1497
  refine SL.call (f := 6) (args := #[.slice (some ⟨g_1495, 0, none⟩) (([27, 91] ++ (fmtR ([c.clean.status]) ++ [36, 126])).length) cap_1496]) (w1 := w_1497) rfl rfl (by kernel_rfl) (split_1 (t := (setT 126 [36] ([c.clean.status]))) (setT_can (by decide) ⟨by decide, by decide⟩ hN8) (by intro c_ h_; cases h_) (setT_bytes 126 [36] ([c.clean.status])) (hr_1498.gr hs_1562.gr)) ?_
  rintro x w_1573 ⟨g_1563, cap_1564, pad_1565, a_1566, c_1567, a_1568, c_1569, rfl, hb_1570, hr_1571, hc_1574⟩
  refine ⟨_, rfl, ?_⟩
  have hs_1575 := hs_1562.grow hc_1574
  have hb_1576 := hs_1575.gr.blk hb_1502
  have hb_1577 := hs_1575.gr.blk hb_1503
  have hb_1578 := hs_1575.gr.blk hb_1504
  have hb_1579 := hs_1575.gr.blk hb_1505
  have hb_1580 := hs_1575.gr.blk hb_1506
  have hb_1581 := hs_1575.gr.blk hb_1507
  have hb_1582 := hs_1575.gr.blk hb_1508
  have hb_1583 := hs_1575.gr.blk hb_1509
  have hb_1584 := hs_1575.gr.blk hb_1510
  have hb_1585 := hs_1575.gr.blk hb_1511
  have hb_1586 := hs_1575.gr.blk hb_1512
  have hb_1587 := hs_1575.gr.blk hb_1513
  have hb_1588 := hs_1575.gr.blk hb_1514
  have hb_1589 := hs_1575.gr.blk hb_1515
  have hb_1590 := hs_1575.gr.blk hb_1516
  have hb_1591 := hs_1575.gr.blk hb_1517
  have hb_1592 := hs_1575.gr.blk hb_1518
  have hb_1593 := hs_1575.gr.blk hb_1519
  have hb_1594 := hs_1575.gr.blk hb_1520
  have hb_1595 := hs_1575.gr.blk hb_1521
  have hb_1596 := hs_1575.gr.blk hb_1522
  have hb_1597 := hs_1575.gr.blk hb_1523
  have hb_1598 := hs_1575.gr.blk hb_1524
  have hb_1599 := hs_1575.gr.blk hb_1525
  have hb_1600 := hs_1575.gr.blk hb_1526
  have hb_1601 := hs_1575.gr.blk hb_1527
  have hb_1602 := hs_1575.gr.blk hb_1528
  have hr_1603 := hr_1529.gr hs_1575.gr
  have hr_1604 := hr_1530.gr hs_1575.gr
  have hr_1605 := hr_1531.gr hs_1575.gr
  have hr_1606 := hr_1532.gr hs_1575.gr
  have hr_1607 := hr_1533.gr hs_1575.gr
  have hr_1608 := hr_1534.gr hs_1575.gr
  have hr_1609 := hr_1535.gr hs_1575.gr
  have hr_1610 := hr_1536.gr hs_1575.gr
  have hr_1611 := hr_1537.gr hs_1575.gr
  have hr_1612 := hr_1538.gr hs_1575.gr
  have hr_1613 := hr_1539.gr hs_1575.gr
  have hr_1614 := hr_1540.gr hs_1575.gr
  have hr_1615 := hr_1541.gr hs_1575.gr
  have hr_1616 := hr_1542.gr hs_1575.gr
  have hr_1617 := hr_1543.gr hs_1575.gr
  have hr_1618 := hr_1544.gr hs_1575.gr
  have hr_1619 := hr_1545.gr hs_1575.gr
  have hr_1620 := hr_1546.gr hs_1575.gr
  have hr_1621 := hr_1547.gr hs_1575.gr
  have hr_1622 := hr_1548.gr hs_1575.gr
  have hr_1623 := hr_1549.gr hs_1575.gr
  have hr_1624 := hr_1550.gr hs_1575.gr
  have hr_1625 := hr_1551.gr hs_1575.gr
  have hr_1626 := hr_1552.gr hs_1575.gr
  have hr_1627 := hr_1553.gr hs_1575.gr
  have hr_1628 := hr_1554.gr hs_1575.gr
  have hr_1629 := hr_1555.gr hs_1575.gr
  have hr_1630 := hr_1556.gr hs_1575.gr
  have hr_1631 := hr_1557.gr hs_1575.gr
  have hr_1632 := hr_1558.gr hs_1575.gr
  have hr_1633 := hr_1559.gr hs_1575.gr
  have hr_1634 := hr_1560.gr hs_1575.gr
  have hr_1635 := hr_1498.gr hs_1575.gr
  have hG_1636 := (hG_1561.trans hs_1575.gr)
  have hs_1637 := SH.none w_1573
  refine SL.v (.slice (some ⟨g_1563, 0, none⟩) 1 cap_1564) ?_
  refine SL.nil ?_
  refine CW.seq ?_
  refine CW.seq ?_
  refine CW.region ?_
  refine SL.v (.bool true) ?_
  refine SL.v (.bool false) ?_
  refine SL.v (.bool false) ?_
  refine SL.go ?_
  refine SL.v (.slice (some ⟨g_1563, 0, none⟩) 1 cap_1564) ?_
  refine SL.go ?_
  refine SL.val (v := .int .i64 1) (w' := w_1573) rfl rfl (by kernel_rfl) ?_
  refine SL.go ?_
  refine SL.v (.bool false) ?_
  refine SL.v (.bool false) ?_
  refine SL.v (.bool false) ?_
  refine SL.go ?_
  refine SL.v (.slice (some ⟨g_1563, 0, none⟩) 1 cap_1564) ?_
  refine SL.go ?_
  refine SL.v (.pointer (some ⟨g_1563, 0, none⟩)) ?_
  refine SL.go ?_
  refine SL.v (.pointer (some ⟨g_1563, 0, none⟩)) ?_
  refine SL.go ?_
  refine SL.load (g := g_1563) (off := 0) (v := .int .i64 4) rfl rfl rfl (by kernel_rfl) (hs_1637.gr.blk hb_1570) (by kernel_rfl) ?_
  refine SL.go ?_
  refine SL.v (.bool false) ?_
  refine SL.v (.bool false) ?_
  refine SL.v (.bool false) ?_
  refine SL.go ?_
  refine SL.v (.slice (some ⟨g_1563, 0, none⟩) 1 cap_1564) ?_
  refine SL.go ?_
  refine SL.v (.pointer (some ⟨g_1563, 0, none⟩)) ?_
  refine SL.go ?_
  refine SL.load (g := g_1563) (off := 0) (v := .agg #[.int .i64 4, .int .u8 126, .int .u8 0, .slice a_1566 1 c_1567, .string (strOf ([36])), .slice a_1568 0 c_1569]) rfl rfl rfl (by kernel_rfl) (hs_1637.gr.blk hb_1570) (by kernel_rfl) ?_
  refine SL.go ?_
  refine SL.call (f := 7) (args := #[.agg #[.int .i64 4, .int .u8 126, .int .u8 0, .slice a_1566 1 c_1567, .string (strOf ([36])), .slice a_1568 0 c_1569]]) (w1 := w_1573) rfl rfl (by kernel_rfl) (tid_any (k := 4) (c := 126) (m := 0) (l := [36]) (by decide) (by decide)) ?_
  rintro x w_1638 ⟨rfl, hc_1639⟩
  refine ⟨.string ⟨#[36, 126]⟩, rfl, ?_⟩
  have hs_1640 := hs_1637.grow hc_1639
  refine SL.go ?_
  refine SL.v (.string ⟨#[36, 126]⟩) ?_
  refine SL.go ?_
  refine SL.val (v := .bool false) (w' := w_1638) rfl rfl (run_strneB (a := ⟨#[36, 126]⟩) (b := ⟨#[36, 126]⟩) (c := true) rfl (by kernel_rfl) (by kernel_rfl) (by kernel_rfl)) ?_
  refine SL.v (.bool false) ?_
  refine SL.v (.bool false) ?_
  refine SL.go ?_
  refine SL.v (.slice (some ⟨g_1563, 0, none⟩) 1 cap_1564) ?_
  refine SL.go ?_
  refine SL.v (.pointer (some ⟨g_1563, 0, none⟩)) ?_
  refine SL.go ?_
  refine SL.v (.pointer (some ⟨g_1563, 3, none⟩)) ?_
  refine SL.go ?_
  refine SL.load (g := g_1563) (off := 3) (v := .slice a_1566 1 c_1567) rfl rfl rfl (by kernel_rfl) (hs_1640.gr.blk hb_1570) (by kernel_rfl) ?_
  refine SL.go ?_
  refine SL.val (v := .int .i64 1) (w' := w_1638) rfl rfl (by kernel_rfl) ?_
  refine SL.go ?_
  refine SL.v (.bool false) ?_
  refine SL.v (.bool false) ?_
  refine SL.nil ?_
  refine CW.cond_false (by kernel_rfl) ?_
  refine CW.skip ?_
  refine CW.seq ?_
  refine CW.region ?_
  refine SL.v (.string (strOf (fmtR ([c.clean.status]) ++ [36, 126]))) ?_
  refine SL.newH (mk := fun g => .slice (some ⟨g, 0, none⟩) 1 1) (C := #[.int .i64 1]) (T := 3) hs_1640 rfl rfl (by kernel_rfl) (fun g_1641 w_1642 hs_1643 => ?_)
  have hs_1643 : SH [] w_1573 w_1642 [pt g_1641 #[.int .i64 1] 3] := hs_1643
  refine SL.call (f := 8) (args := #[.bool false, .string ⟨#[36, 114]⟩, .string (strOf (fmtR ([c.clean.status]) ++ [36, 126])), .slice (some ⟨g_1641, 0, none⟩) 1 1]) (w1 := w_1642) rfl rfl (by kernel_rfl) (dcs_set (l := fmtR ([c.clean.status]) ++ [36, 126]) (hs_1643.pt_at (i := 0) rfl) (set_dat (by decide) (by decide)) (set_b (by decide)) (hT.gr (hG_1636.trans hs_1643.gr))) ?_
  rintro x w_1648 ⟨va_1644, vc_1645, rfl, hr_1646, hc_1649⟩
  refine ⟨_, rfl, ?_⟩
  have hs_1650 := hs_1643.grow hc_1649
  have hb_1651 := hs_1650.gr.blk hb_1576
  have hb_1652 := hs_1650.gr.blk hb_1577
  have hb_1653 := hs_1650.gr.blk hb_1578
  have hb_1654 := hs_1650.gr.blk hb_1579
  have hb_1655 := hs_1650.gr.blk hb_1580
  have hb_1656 := hs_1650.gr.blk hb_1581
  have hb_1657 := hs_1650.gr.blk hb_1582
  have hb_1658 := hs_1650.gr.blk hb_1583
  have hb_1659 := hs_1650.gr.blk hb_1584
  have hb_1660 := hs_1650.gr.blk hb_1585
  have hb_1661 := hs_1650.gr.blk hb_1586
  have hb_1662 := hs_1650.gr.blk hb_1587
  have hb_1663 := hs_1650.gr.blk hb_1588
  have hb_1664 := hs_1650.gr.blk hb_1589
  have hb_1665 := hs_1650.gr.blk hb_1590
  have hb_1666 := hs_1650.gr.blk hb_1591
  have hb_1667 := hs_1650.gr.blk hb_1592
  have hb_1668 := hs_1650.gr.blk hb_1593
  have hb_1669 := hs_1650.gr.blk hb_1594
  have hb_1670 := hs_1650.gr.blk hb_1595
  have hb_1671 := hs_1650.gr.blk hb_1596
  have hb_1672 := hs_1650.gr.blk hb_1597
  have hb_1673 := hs_1650.gr.blk hb_1598
  have hb_1674 := hs_1650.gr.blk hb_1599
  have hb_1675 := hs_1650.gr.blk hb_1600
  have hb_1676 := hs_1650.gr.blk hb_1601
  have hb_1677 := hs_1650.gr.blk hb_1602
  have hb_1678 := hs_1650.gr.blk hb_1570
  have hr_1679 := hr_1603.gr hs_1650.gr
  have hr_1680 := hr_1604.gr hs_1650.gr
  have hr_1681 := hr_1605.gr hs_1650.gr
  have hr_1682 := hr_1606.gr hs_1650.gr
  have hr_1683 := hr_1607.gr hs_1650.gr
  have hr_1684 := hr_1608.gr hs_1650.gr
  have hr_1685 := hr_1609.gr hs_1650.gr
  have hr_1686 := hr_1610.gr hs_1650.gr
  have hr_1687 := hr_1611.gr hs_1650.gr
  have hr_1688 := hr_1612.gr hs_1650.gr
  have hr_1689 := hr_1613.gr hs_1650.gr
  have hr_1690 := hr_1614.gr hs_1650.gr
  have hr_1691 := hr_1615.gr hs_1650.gr
  have hr_1692 := hr_1616.gr hs_1650.gr
  have hr_1693 := hr_1617.gr hs_1650.gr
  have hr_1694 := hr_1618.gr hs_1650.gr
  have hr_1695 := hr_1619.gr hs_1650.gr
  have hr_1696 := hr_1620.gr hs_1650.gr
  have hr_1697 := hr_1621.gr hs_1650.gr
  have hr_1698 := hr_1622.gr hs_1650.gr
  have hr_1699 := hr_1623.gr hs_1650.gr
  have hr_1700 := hr_1624.gr hs_1650.gr
  have hr_1701 := hr_1625.gr hs_1650.gr
  have hr_1702 := hr_1626.gr hs_1650.gr
  have hr_1703 := hr_1627.gr hs_1650.gr
  have hr_1704 := hr_1628.gr hs_1650.gr
  have hr_1705 := hr_1629.gr hs_1650.gr
  have hr_1706 := hr_1630.gr hs_1650.gr
  have hr_1707 := hr_1631.gr hs_1650.gr
  have hr_1708 := hr_1632.gr hs_1650.gr
  have hr_1709 := hr_1633.gr hs_1650.gr
  have hr_1710 := hr_1634.gr hs_1650.gr
  have hr_1711 := hr_1635.gr hs_1650.gr
  have hr_1712 := hr_1571.gr hs_1650.gr
  have hb_1713 : w_1648.heap[g_1641]? = some (.cells #[.int .i64 1] 3 (0, 0)) := (hs_1650.pt_at (i := 0) rfl)
  have hG_1714 := (hG_1636.trans hs_1650.gr)
  have hs_1715 := SH.none w_1648
  refine SL.call (f := 6) (args := #[.slice va_1644 ((bytesR (dcsT (fmtR ([c.clean.status]) ++ [36, 126])) false).length) vc_1645]) (w1 := w_1648) rfl rfl (by kernel_rfl) (split_1 (t := (dcsT (fmtR ([c.clean.status]) ++ [36, 126]))) (dcsT_can (set_dat (by decide) (by decide))) (set_b (by decide)) rfl (hr_1646.gr hs_1715.gr)) ?_
  rintro x w_1726 ⟨g_1716, cap_1717, pad_1718, a_1719, c_1720, a_1721, c_1722, rfl, hb_1723, hr_1724, hc_1727⟩
  refine ⟨_, rfl, ?_⟩
  have hs_1728 := hs_1715.grow hc_1727
  have hb_1729 := hs_1728.gr.blk hb_1651
  have hb_1730 := hs_1728.gr.blk hb_1652
  have hb_1731 := hs_1728.gr.blk hb_1653
  have hb_1732 := hs_1728.gr.blk hb_1654
  have hb_1733 := hs_1728.gr.blk hb_1655
  have hb_1734 := hs_1728.gr.blk hb_1656
  have hb_1735 := hs_1728.gr.blk hb_1657
  have hb_1736 := hs_1728.gr.blk hb_1658
  have hb_1737 := hs_1728.gr.blk hb_1659
  have hb_1738 := hs_1728.gr.blk hb_1660
  have hb_1739 := hs_1728.gr.blk hb_1661
  have hb_1740 := hs_1728.gr.blk hb_1662
  have hb_1741 := hs_1728.gr.blk hb_1663
  have hb_1742 := hs_1728.gr.blk hb_1664
  have hb_1743 := hs_1728.gr.blk hb_1665
  have hb_1744 := hs_1728.gr.blk hb_1666
  have hb_1745 := hs_1728.gr.blk hb_1667
  have hb_1746 := hs_1728.gr.blk hb_1668
  have hb_1747 := hs_1728.gr.blk hb_1669
  have hb_1748 := hs_1728.gr.blk hb_1670
  have hb_1749 := hs_1728.gr.blk hb_1671
  have hb_1750 := hs_1728.gr.blk hb_1672
  have hb_1751 := hs_1728.gr.blk hb_1673
  have hb_1752 := hs_1728.gr.blk hb_1674
  have hb_1753 := hs_1728.gr.blk hb_1675
  have hb_1754 := hs_1728.gr.blk hb_1676
  have hb_1755 := hs_1728.gr.blk hb_1677
  have hb_1756 := hs_1728.gr.blk hb_1678
  have hb_1757 := hs_1728.gr.blk hb_1713
  have hr_1758 := hr_1679.gr hs_1728.gr
  have hr_1759 := hr_1680.gr hs_1728.gr
  have hr_1760 := hr_1681.gr hs_1728.gr
  have hr_1761 := hr_1682.gr hs_1728.gr
  have hr_1762 := hr_1683.gr hs_1728.gr
  have hr_1763 := hr_1684.gr hs_1728.gr
  have hr_1764 := hr_1685.gr hs_1728.gr
  have hr_1765 := hr_1686.gr hs_1728.gr
  have hr_1766 := hr_1687.gr hs_1728.gr
  have hr_1767 := hr_1688.gr hs_1728.gr
  have hr_1768 := hr_1689.gr hs_1728.gr
  have hr_1769 := hr_1690.gr hs_1728.gr
  have hr_1770 := hr_1691.gr hs_1728.gr
  have hr_1771 := hr_1692.gr hs_1728.gr
  have hr_1772 := hr_1693.gr hs_1728.gr
  have hr_1773 := hr_1694.gr hs_1728.gr
  have hr_1774 := hr_1695.gr hs_1728.gr
  have hr_1775 := hr_1696.gr hs_1728.gr
  have hr_1776 := hr_1697.gr hs_1728.gr
  have hr_1777 := hr_1698.gr hs_1728.gr
  have hr_1778 := hr_1699.gr hs_1728.gr
  have hr_1779 := hr_1700.gr hs_1728.gr
  have hr_1780 := hr_1701.gr hs_1728.gr
  have hr_1781 := hr_1702.gr hs_1728.gr
  have hr_1782 := hr_1703.gr hs_1728.gr
  have hr_1783 := hr_1704.gr hs_1728.gr
  have hr_1784 := hr_1705.gr hs_1728.gr
  have hr_1785 := hr_1706.gr hs_1728.gr
  have hr_1786 := hr_1707.gr hs_1728.gr
  have hr_1787 := hr_1708.gr hs_1728.gr
  have hr_1788 := hr_1709.gr hs_1728.gr
  have hr_1789 := hr_1710.gr hs_1728.gr
  have hr_1790 := hr_1711.gr hs_1728.gr
  have hr_1791 := hr_1712.gr hs_1728.gr
  have hr_1792 := hr_1646.gr hs_1728.gr
  have hG_1793 := (hG_1714.trans hs_1728.gr)
  have hs_1794 := SH.none w_1726
  refine SL.v (.slice (some ⟨g_1716, 0, none⟩) 1 cap_1717) ?_
  refine SL.nil ?_
  refine CW.seq ?_
  refine CW.region ?_
  refine SL.v (.slice (some ⟨g_1716, 0, none⟩) 1 cap_1717) ?_
  refine SL.val (v := .int .i64 1) (w' := w_1726) rfl rfl (by kernel_rfl) ?_
  refine SL.v (.bool false) ?_
  refine SL.v (.bool false) ?_
  refine SL.go ?_
  refine SL.v (.slice (some ⟨g_1716, 0, none⟩) 1 cap_1717) ?_
  refine SL.go ?_
  refine SL.v (.pointer (some ⟨g_1716, 0, none⟩)) ?_
  refine SL.go ?_
  refine SL.v (.pointer (some ⟨g_1716, 5, none⟩)) ?_
  refine SL.go ?_
  refine SL.load (g := g_1716) (off := 5) (v := .slice a_1721 ((fmtR ([c.clean.status]) ++ [36, 126]).length) c_1722) rfl rfl rfl (by kernel_rfl) (hs_1794.gr.blk hb_1723) (by kernel_rfl) ?_
  refine SL.go ?_
  refine SL.val (v := .string (strOf (fmtR ([c.clean.status]) ++ [36, 126]))) (w' := w_1726) rfl rfl (run_conv rfl (by kernel_rfl) (conv_row (hr_1724.gr hs_1794.gr))) ?_
  refine SL.go ?_
  refine SL.v (.string (strOf (fmtR ([c.clean.status]) ++ [36, 126]))) ?_
  refine SL.go ?_
  refine SL.val (v := .bool false) (w' := w_1726) rfl rfl (run_strneB (a := strOf (fmtR ([c.clean.status]) ++ [36, 126])) (b := strOf (fmtR ([c.clean.status]) ++ [36, 126])) (c := true) rfl (by kernel_rfl) (by kernel_rfl) (seqB_self _)) ?_
  refine SL.v (.bool false) ?_
  refine SL.nil ?_
  refine CW.cond_false (by kernel_rfl) ?_
  refine CW.skip ?_
  refine CW.region ?_
  refine SL.v (.int .i64 9) ?_
  refine SL.v (.int .i64 9) ?_
  refine SL.nil ?_
  refine CR.fresh (fun e9 => e9 2 = .bool false ∧ e9 3 = .pointer (some ⟨g_11, 0, none⟩) ∧ e9 34 = .slice (some ⟨g_16, 0, none⟩) 10 10 ∧ e9 35 = .int .i64 10 ∧ e9 36 = .int .i64 9) ⟨(by kernel_rfl), (by kernel_rfl), (by kernel_rfl), (by kernel_rfl), (by kernel_rfl)⟩ ?_
  rintro e_1795 ⟨hv_1797, hv_1798, hv_1799, hv_1800, hv_1801⟩
  obtain ⟨e_1796, rfl⟩ : ∃ e_1796, e_1795 = put1 (put1 (put1 (put1 (put1 e_1796 2 (.bool false)) 3 (.pointer (some ⟨g_11, 0, none⟩))) 34 (.slice (some ⟨g_16, 0, none⟩) 10 10)) 35 (.int .i64 10)) 36 (.int .i64 9) := ⟨e_1795, (put_self hv_1801).trans (congrArg (fun z => put1 z 36 (.int .i64 9)) ((put_self hv_1800).trans (congrArg (fun z => put1 z 35 (.int .i64 10)) ((put_self hv_1799).trans (congrArg (fun z => put1 z 34 (.slice (some ⟨g_16, 0, none⟩) 10 10)) ((put_self hv_1798).trans (congrArg (fun z => put1 z 3 (.pointer (some ⟨g_11, 0, none⟩))) (put_self hv_1797))))))))⟩
  clear hv_1797 hv_1798 hv_1799 hv_1800 hv_1801
  refine CR.more ?_
  refine CW.seq ?_
  refine CW.region ?_
  refine SL.v (.bool true) ?_
  refine SL.nil ?_
  refine CW.seq ?_
  refine CW.cond_true (by kernel_rfl) ?_
  refine CW.skip ?_
  refine CW.seq ?_
  refine CW.block ?_
  refine CW.seq ?_
  refine CW.region ?_
  refine SL.v (.pointer (some ⟨g_16, 9, none⟩)) ?_
  refine SL.load (g := g_16) (off := 9) (v := .string ⟨#[36, 125]⟩) rfl rfl rfl (by kernel_rfl) (hs_1794.gr.blk hb_1731) (by kernel_rfl) ?_
  refine SL.v (.string ⟨#[36, 125]⟩) ?_
  refine SL.nil ?_
  refine CW.seq ?_
  refine CW.region ?_
  refine SL.load (g := g_11) (off := 0) (v := .agg (cvA c)) rfl rfl rfl (by kernel_rfl) (hs_1794.gr.blk hb_1730) (by kernel_rfl) ?_
  refine SL.v (.string ⟨#[36, 125]⟩) ?_
  refine SL.call (f := 5) (args := #[.agg (cvA c), .string ⟨#[36, 125]⟩]) (w1 := w_1726) rfl rfl (by kernel_rfl) (setl_9 c w_1726 hok (hT.gr (hG_1793.trans hs_1794.gr))) ?_
  rintro x w_1802 ⟨rfl, hc_1803⟩
  refine ⟨.tuple #[.string (strOf (fmtR ([flagZ c.clean.below]) ++ [36, 125])), .bool true], rfl, ?_⟩
  have hs_1804 := hs_1794.grow hc_1803
  refine SL.v (.tuple #[.string (strOf (fmtR ([flagZ c.clean.below]) ++ [36, 125])), .bool true]) ?_
  refine SL.v (.string (strOf (fmtR ([flagZ c.clean.below]) ++ [36, 125]))) ?_
  refine SL.v (.bool true) ?_
  refine SL.v (.string (strOf (fmtR ([flagZ c.clean.below]) ++ [36, 125]))) ?_
  refine SL.v (.bool true) ?_
  refine SL.nil ?_
  refine CW.seq ?_
  refine CW.region ?_
  refine SL.v (.string (strOf (fmtR ([flagZ c.clean.below]) ++ [36, 125]))) ?_
  refine SL.val (v := .string (strOf ([27, 91] ++ (fmtR ([flagZ c.clean.below]) ++ [36, 125])))) (w' := w_1802) rfl rfl (run_catL (a := [27, 91]) (b := fmtR ([flagZ c.clean.below]) ++ [36, 125]) rfl (by kernel_rfl) (by kernel_rfl) (by decide) (Nat.le_trans (set_l (by decide)) (by decide))) ?_
  refine SL.bytesR (l := [27, 91] ++ (fmtR ([flagZ c.clean.below]) ++ [36, 125])) rfl rfl rfl (Tryd.underlying9) (Tryd.underlying50) (Tryd.underlying5) (by kernel_rfl) (cat_b (by decide) (set_b (by decide))) (fun g_1805 cap_1806 w_1807 hr_1808 hg_1809 => ?_)
  have hs_1810 := hs_1804.grow hg_1809
  have hb_1812 := hs_1810.gr.blk hb_1729
  have hb_1813 := hs_1810.gr.blk hb_1730
  have hb_1814 := hs_1810.gr.blk hb_1731
  have hb_1815 := hs_1810.gr.blk hb_1732
  have hb_1816 := hs_1810.gr.blk hb_1733
  have hb_1817 := hs_1810.gr.blk hb_1734
  have hb_1818 := hs_1810.gr.blk hb_1735
  have hb_1819 := hs_1810.gr.blk hb_1736
  have hb_1820 := hs_1810.gr.blk hb_1737
  have hb_1821 := hs_1810.gr.blk hb_1738
  have hb_1822 := hs_1810.gr.blk hb_1739
  have hb_1823 := hs_1810.gr.blk hb_1740
  have hb_1824 := hs_1810.gr.blk hb_1741
  have hb_1825 := hs_1810.gr.blk hb_1742
  have hb_1826 := hs_1810.gr.blk hb_1743
  have hb_1827 := hs_1810.gr.blk hb_1744
  have hb_1828 := hs_1810.gr.blk hb_1745
  have hb_1829 := hs_1810.gr.blk hb_1746
  have hb_1830 := hs_1810.gr.blk hb_1747
  have hb_1831 := hs_1810.gr.blk hb_1748
  have hb_1832 := hs_1810.gr.blk hb_1749
  have hb_1833 := hs_1810.gr.blk hb_1750
  have hb_1834 := hs_1810.gr.blk hb_1751
  have hb_1835 := hs_1810.gr.blk hb_1752
  have hb_1836 := hs_1810.gr.blk hb_1753
  have hb_1837 := hs_1810.gr.blk hb_1754
  have hb_1838 := hs_1810.gr.blk hb_1755
  have hb_1839 := hs_1810.gr.blk hb_1756
  have hb_1840 := hs_1810.gr.blk hb_1757
  have hb_1841 := hs_1810.gr.blk hb_1723
  have hr_1842 := hr_1758.gr hs_1810.gr
  have hr_1843 := hr_1759.gr hs_1810.gr
  have hr_1844 := hr_1760.gr hs_1810.gr
  have hr_1845 := hr_1761.gr hs_1810.gr
  have hr_1846 := hr_1762.gr hs_1810.gr
  have hr_1847 := hr_1763.gr hs_1810.gr
  have hr_1848 := hr_1764.gr hs_1810.gr
  have hr_1849 := hr_1765.gr hs_1810.gr
  have hr_1850 := hr_1766.gr hs_1810.gr
  have hr_1851 := hr_1767.gr hs_1810.gr
  have hr_1852 := hr_1768.gr hs_1810.gr
  have hr_1853 := hr_1769.gr hs_1810.gr
  have hr_1854 := hr_1770.gr hs_1810.gr
  have hr_1855 := hr_1771.gr hs_1810.gr
  have hr_1856 := hr_1772.gr hs_1810.gr
  have hr_1857 := hr_1773.gr hs_1810.gr
  have hr_1858 := hr_1774.gr hs_1810.gr
  have hr_1859 := hr_1775.gr hs_1810.gr
  have hr_1860 := hr_1776.gr hs_1810.gr
  have hr_1861 := hr_1777.gr hs_1810.gr
  have hr_1862 := hr_1778.gr hs_1810.gr
  have hr_1863 := hr_1779.gr hs_1810.gr
  have hr_1864 := hr_1780.gr hs_1810.gr
  have hr_1865 := hr_1781.gr hs_1810.gr
  have hr_1866 := hr_1782.gr hs_1810.gr
  have hr_1867 := hr_1783.gr hs_1810.gr
  have hr_1868 := hr_1784.gr hs_1810.gr
  have hr_1869 := hr_1785.gr hs_1810.gr
  have hr_1870 := hr_1786.gr hs_1810.gr
  have hr_1871 := hr_1787.gr hs_1810.gr
  have hr_1872 := hr_1788.gr hs_1810.gr
  have hr_1873 := hr_1789.gr hs_1810.gr
  have hr_1874 := hr_1790.gr hs_1810.gr
  have hr_1875 := hr_1791.gr hs_1810.gr
  have hr_1876 := hr_1792.gr hs_1810.gr
  have hr_1877 := hr_1724.gr hs_1810.gr
  have hG_1878 := (hG_1793.trans hs_1810.gr)
  have hs_1879 := SH.none w_1807
  refine SL.call (f := 6) (args := #[.slice (some ⟨g_1805, 0, none⟩) (([27, 91] ++ (fmtR ([flagZ c.clean.below]) ++ [36, 125])).length) cap_1806]) (w1 := w_1807) rfl rfl (by kernel_rfl) (split_1 (t := (setT 125 [36] ([flagZ c.clean.below]))) (setT_can (by decide) ⟨by decide, by decide⟩ hN9) (by intro c_ h_; cases h_) (setT_bytes 125 [36] ([flagZ c.clean.below])) (hr_1808.gr hs_1879.gr)) ?_
  rintro x w_1890 ⟨g_1880, cap_1881, pad_1882, a_1883, c_1884, a_1885, c_1886, rfl, hb_1887, hr_1888, hc_1891⟩
  refine ⟨_, rfl, ?_⟩
  have hs_1892 := hs_1879.grow hc_1891
  have hb_1893 := hs_1892.gr.blk hb_1812
  have hb_1894 := hs_1892.gr.blk hb_1813
  have hb_1895 := hs_1892.gr.blk hb_1814
  have hb_1896 := hs_1892.gr.blk hb_1815
  have hb_1897 := hs_1892.gr.blk hb_1816
  have hb_1898 := hs_1892.gr.blk hb_1817
  have hb_1899 := hs_1892.gr.blk hb_1818
  have hb_1900 := hs_1892.gr.blk hb_1819
  have hb_1901 := hs_1892.gr.blk hb_1820
  have hb_1902 := hs_1892.gr.blk hb_1821
  have hb_1903 := hs_1892.gr.blk hb_1822
  have hb_1904 := hs_1892.gr.blk hb_1823
  have hb_1905 := hs_1892.gr.blk hb_1824
  have hb_1906 := hs_1892.gr.blk hb_1825
  have hb_1907 := hs_1892.gr.blk hb_1826
  have hb_1908 := hs_1892.gr.blk hb_1827
  have hb_1909 := hs_1892.gr.blk hb_1828
  have hb_1910 := hs_1892.gr.blk hb_1829
  have hb_1911 := hs_1892.gr.blk hb_1830
  have hb_1912 := hs_1892.gr.blk hb_1831
  have hb_1913 := hs_1892.gr.blk hb_1832
  have hb_1914 := hs_1892.gr.blk hb_1833
  have hb_1915 := hs_1892.gr.blk hb_1834
  have hb_1916 := hs_1892.gr.blk hb_1835
  have hb_1917 := hs_1892.gr.blk hb_1836
  have hb_1918 := hs_1892.gr.blk hb_1837
  have hb_1919 := hs_1892.gr.blk hb_1838
  have hb_1920 := hs_1892.gr.blk hb_1839
  have hb_1921 := hs_1892.gr.blk hb_1840
  have hb_1922 := hs_1892.gr.blk hb_1841
  have hr_1923 := hr_1842.gr hs_1892.gr
  have hr_1924 := hr_1843.gr hs_1892.gr
  have hr_1925 := hr_1844.gr hs_1892.gr
  have hr_1926 := hr_1845.gr hs_1892.gr
  have hr_1927 := hr_1846.gr hs_1892.gr
  have hr_1928 := hr_1847.gr hs_1892.gr
  have hr_1929 := hr_1848.gr hs_1892.gr
  have hr_1930 := hr_1849.gr hs_1892.gr
  have hr_1931 := hr_1850.gr hs_1892.gr
  have hr_1932 := hr_1851.gr hs_1892.gr
  have hr_1933 := hr_1852.gr hs_1892.gr
  have hr_1934 := hr_1853.gr hs_1892.gr
  have hr_1935 := hr_1854.gr hs_1892.gr
  have hr_1936 := hr_1855.gr hs_1892.gr
  have hr_1937 := hr_1856.gr hs_1892.gr
  have hr_1938 := hr_1857.gr hs_1892.gr
  have hr_1939 := hr_1858.gr hs_1892.gr
  have hr_1940 := hr_1859.gr hs_1892.gr
  have hr_1941 := hr_1860.gr hs_1892.gr
  have hr_1942 := hr_1861.gr hs_1892.gr
  have hr_1943 := hr_1862.gr hs_1892.gr
  have hr_1944 := hr_1863.gr hs_1892.gr
  have hr_1945 := hr_1864.gr hs_1892.gr
  have hr_1946 := hr_1865.gr hs_1892.gr
  have hr_1947 := hr_1866.gr hs_1892.gr
  have hr_1948 := hr_1867.gr hs_1892.gr
  have hr_1949 := hr_1868.gr hs_1892.gr
  have hr_1950 := hr_1869.gr hs_1892.gr
  have hr_1951 := hr_1870.gr hs_1892.gr
  have hr_1952 := hr_1871.gr hs_1892.gr
  have hr_1953 := hr_1872.gr hs_1892.gr
  have hr_1954 := hr_1873.gr hs_1892.gr
  have hr_1955 := hr_1874.gr hs_1892.gr
  have hr_1956 := hr_1875.gr hs_1892.gr
  have hr_1957 := hr_1876.gr hs_1892.gr
  have hr_1958 := hr_1877.gr hs_1892.gr
  have hr_1959 := hr_1808.gr hs_1892.gr
  have hG_1960 := (hG_1878.trans hs_1892.gr)
  have hs_1961 := SH.none w_1890
  refine SL.v (.slice (some ⟨g_1880, 0, none⟩) 1 cap_1881) ?_
  refine SL.nil ?_
  refine CW.seq ?_
  refine CW.seq ?_
  refine CW.region ?_
  refine SL.v (.bool true) ?_
  refine SL.v (.bool false) ?_
  refine SL.v (.bool false) ?_
  refine SL.go ?_
  refine SL.v (.slice (some ⟨g_1880, 0, none⟩) 1 cap_1881) ?_
  refine SL.go ?_
  refine SL.val (v := .int .i64 1) (w' := w_1890) rfl rfl (by kernel_rfl) ?_
  refine SL.go ?_
  refine SL.v (.bool false) ?_
  refine SL.v (.bool false) ?_
  refine SL.v (.bool false) ?_
  refine SL.go ?_
  refine SL.v (.slice (some ⟨g_1880, 0, none⟩) 1 cap_1881) ?_
  refine SL.go ?_
  refine SL.v (.pointer (some ⟨g_1880, 0, none⟩)) ?_
  refine SL.go ?_
  refine SL.v (.pointer (some ⟨g_1880, 0, none⟩)) ?_
  refine SL.go ?_
  refine SL.load (g := g_1880) (off := 0) (v := .int .i64 4) rfl rfl rfl (by kernel_rfl) (hs_1961.gr.blk hb_1887) (by kernel_rfl) ?_
  refine SL.go ?_
  refine SL.v (.bool false) ?_
  refine SL.v (.bool false) ?_
  refine SL.v (.bool false) ?_
  refine SL.go ?_
  refine SL.v (.slice (some ⟨g_1880, 0, none⟩) 1 cap_1881) ?_
  refine SL.go ?_
  refine SL.v (.pointer (some ⟨g_1880, 0, none⟩)) ?_
  refine SL.go ?_
  refine SL.load (g := g_1880) (off := 0) (v := .agg #[.int .i64 4, .int .u8 125, .int .u8 0, .slice a_1883 1 c_1884, .string (strOf ([36])), .slice a_1885 0 c_1886]) rfl rfl rfl (by kernel_rfl) (hs_1961.gr.blk hb_1887) (by kernel_rfl) ?_
  refine SL.go ?_
  refine SL.call (f := 7) (args := #[.agg #[.int .i64 4, .int .u8 125, .int .u8 0, .slice a_1883 1 c_1884, .string (strOf ([36])), .slice a_1885 0 c_1886]]) (w1 := w_1890) rfl rfl (by kernel_rfl) (tid_any (k := 4) (c := 125) (m := 0) (l := [36]) (by decide) (by decide)) ?_
  rintro x w_1962 ⟨rfl, hc_1963⟩
  refine ⟨.string ⟨#[36, 125]⟩, rfl, ?_⟩
  have hs_1964 := hs_1961.grow hc_1963
  refine SL.go ?_
  refine SL.v (.string ⟨#[36, 125]⟩) ?_
  refine SL.go ?_
  refine SL.val (v := .bool false) (w' := w_1962) rfl rfl (run_strneB (a := ⟨#[36, 125]⟩) (b := ⟨#[36, 125]⟩) (c := true) rfl (by kernel_rfl) (by kernel_rfl) (by kernel_rfl)) ?_
  refine SL.v (.bool false) ?_
  refine SL.v (.bool false) ?_
  refine SL.go ?_
  refine SL.v (.slice (some ⟨g_1880, 0, none⟩) 1 cap_1881) ?_
  refine SL.go ?_
  refine SL.v (.pointer (some ⟨g_1880, 0, none⟩)) ?_
  refine SL.go ?_
  refine SL.v (.pointer (some ⟨g_1880, 3, none⟩)) ?_
  refine SL.go ?_
  refine SL.load (g := g_1880) (off := 3) (v := .slice a_1883 1 c_1884) rfl rfl rfl (by kernel_rfl) (hs_1964.gr.blk hb_1887) (by kernel_rfl) ?_
  refine SL.go ?_
  refine SL.val (v := .int .i64 1) (w' := w_1962) rfl rfl (by kernel_rfl) ?_
  refine SL.go ?_
  refine SL.v (.bool false) ?_
  refine SL.v (.bool false) ?_
  refine SL.nil ?_
  refine CW.cond_false (by kernel_rfl) ?_
  refine CW.skip ?_
  refine CW.seq ?_
  refine CW.region ?_
  refine SL.v (.string (strOf (fmtR ([flagZ c.clean.below]) ++ [36, 125]))) ?_
  refine SL.newH (mk := fun g => .slice (some ⟨g, 0, none⟩) 1 1) (C := #[.int .i64 1]) (T := 3) hs_1964 rfl rfl (by kernel_rfl) (fun g_1965 w_1966 hs_1967 => ?_)
  have hs_1967 : SH [] w_1890 w_1966 [pt g_1965 #[.int .i64 1] 3] := hs_1967
  refine SL.call (f := 8) (args := #[.bool false, .string ⟨#[36, 114]⟩, .string (strOf (fmtR ([flagZ c.clean.below]) ++ [36, 125])), .slice (some ⟨g_1965, 0, none⟩) 1 1]) (w1 := w_1966) rfl rfl (by kernel_rfl) (dcs_set (l := fmtR ([flagZ c.clean.below]) ++ [36, 125]) (hs_1967.pt_at (i := 0) rfl) (set_dat (by decide) (by decide)) (set_b (by decide)) (hT.gr (hG_1960.trans hs_1967.gr))) ?_
  rintro x w_1972 ⟨va_1968, vc_1969, rfl, hr_1970, hc_1973⟩
  refine ⟨_, rfl, ?_⟩
  have hs_1974 := hs_1967.grow hc_1973
  have hb_1975 := hs_1974.gr.blk hb_1893
  have hb_1976 := hs_1974.gr.blk hb_1894
  have hb_1977 := hs_1974.gr.blk hb_1895
  have hb_1978 := hs_1974.gr.blk hb_1896
  have hb_1979 := hs_1974.gr.blk hb_1897
  have hb_1980 := hs_1974.gr.blk hb_1898
  have hb_1981 := hs_1974.gr.blk hb_1899
  have hb_1982 := hs_1974.gr.blk hb_1900
  have hb_1983 := hs_1974.gr.blk hb_1901
  have hb_1984 := hs_1974.gr.blk hb_1902
  have hb_1985 := hs_1974.gr.blk hb_1903
  have hb_1986 := hs_1974.gr.blk hb_1904
  have hb_1987 := hs_1974.gr.blk hb_1905
  have hb_1988 := hs_1974.gr.blk hb_1906
  have hb_1989 := hs_1974.gr.blk hb_1907
  have hb_1990 := hs_1974.gr.blk hb_1908
  have hb_1991 := hs_1974.gr.blk hb_1909
  have hb_1992 := hs_1974.gr.blk hb_1910
  have hb_1993 := hs_1974.gr.blk hb_1911
  have hb_1994 := hs_1974.gr.blk hb_1912
  have hb_1995 := hs_1974.gr.blk hb_1913
  have hb_1996 := hs_1974.gr.blk hb_1914
  have hb_1997 := hs_1974.gr.blk hb_1915
  have hb_1998 := hs_1974.gr.blk hb_1916
  have hb_1999 := hs_1974.gr.blk hb_1917
  have hb_2000 := hs_1974.gr.blk hb_1918
  have hb_2001 := hs_1974.gr.blk hb_1919
  have hb_2002 := hs_1974.gr.blk hb_1920
  have hb_2003 := hs_1974.gr.blk hb_1921
  have hb_2004 := hs_1974.gr.blk hb_1922
  have hb_2005 := hs_1974.gr.blk hb_1887
  have hr_2006 := hr_1923.gr hs_1974.gr
  have hr_2007 := hr_1924.gr hs_1974.gr
  have hr_2008 := hr_1925.gr hs_1974.gr
  have hr_2009 := hr_1926.gr hs_1974.gr
  have hr_2010 := hr_1927.gr hs_1974.gr
  have hr_2011 := hr_1928.gr hs_1974.gr
  have hr_2012 := hr_1929.gr hs_1974.gr
  have hr_2013 := hr_1930.gr hs_1974.gr
  have hr_2014 := hr_1931.gr hs_1974.gr
  have hr_2015 := hr_1932.gr hs_1974.gr
  have hr_2016 := hr_1933.gr hs_1974.gr
  have hr_2017 := hr_1934.gr hs_1974.gr
  have hr_2018 := hr_1935.gr hs_1974.gr
  have hr_2019 := hr_1936.gr hs_1974.gr
  have hr_2020 := hr_1937.gr hs_1974.gr
  have hr_2021 := hr_1938.gr hs_1974.gr
  have hr_2022 := hr_1939.gr hs_1974.gr
  have hr_2023 := hr_1940.gr hs_1974.gr
  have hr_2024 := hr_1941.gr hs_1974.gr
  have hr_2025 := hr_1942.gr hs_1974.gr
  have hr_2026 := hr_1943.gr hs_1974.gr
  have hr_2027 := hr_1944.gr hs_1974.gr
  have hr_2028 := hr_1945.gr hs_1974.gr
  have hr_2029 := hr_1946.gr hs_1974.gr
  have hr_2030 := hr_1947.gr hs_1974.gr
  have hr_2031 := hr_1948.gr hs_1974.gr
  have hr_2032 := hr_1949.gr hs_1974.gr
  have hr_2033 := hr_1950.gr hs_1974.gr
  have hr_2034 := hr_1951.gr hs_1974.gr
  have hr_2035 := hr_1952.gr hs_1974.gr
  have hr_2036 := hr_1953.gr hs_1974.gr
  have hr_2037 := hr_1954.gr hs_1974.gr
  have hr_2038 := hr_1955.gr hs_1974.gr
  have hr_2039 := hr_1956.gr hs_1974.gr
  have hr_2040 := hr_1957.gr hs_1974.gr
  have hr_2041 := hr_1958.gr hs_1974.gr
  have hr_2042 := hr_1959.gr hs_1974.gr
  have hr_2043 := hr_1888.gr hs_1974.gr
  have hb_2044 : w_1972.heap[g_1965]? = some (.cells #[.int .i64 1] 3 (0, 0)) := (hs_1974.pt_at (i := 0) rfl)
  have hG_2045 := (hG_1960.trans hs_1974.gr)
  have hs_2046 := SH.none w_1972
  refine SL.call (f := 6) (args := #[.slice va_1968 ((bytesR (dcsT (fmtR ([flagZ c.clean.below]) ++ [36, 125])) false).length) vc_1969]) (w1 := w_1972) rfl rfl (by kernel_rfl) (split_1 (t := (dcsT (fmtR ([flagZ c.clean.below]) ++ [36, 125]))) (dcsT_can (set_dat (by decide) (by decide))) (set_b (by decide)) rfl (hr_1970.gr hs_2046.gr)) ?_
  rintro x w_2057 ⟨g_2047, cap_2048, pad_2049, a_2050, c_2051, a_2052, c_2053, rfl, hb_2054, hr_2055, hc_2058⟩
  refine ⟨_, rfl, ?_⟩
  have hs_2059 := hs_2046.grow hc_2058
  have hb_2060 := hs_2059.gr.blk hb_1975
  have hb_2061 := hs_2059.gr.blk hb_1976
  have hb_2062 := hs_2059.gr.blk hb_1977
  have hb_2063 := hs_2059.gr.blk hb_1978
  have hb_2064 := hs_2059.gr.blk hb_1979
  have hb_2065 := hs_2059.gr.blk hb_1980
  have hb_2066 := hs_2059.gr.blk hb_1981
  have hb_2067 := hs_2059.gr.blk hb_1982
  have hb_2068 := hs_2059.gr.blk hb_1983
  have hb_2069 := hs_2059.gr.blk hb_1984
  have hb_2070 := hs_2059.gr.blk hb_1985
  have hb_2071 := hs_2059.gr.blk hb_1986
  have hb_2072 := hs_2059.gr.blk hb_1987
  have hb_2073 := hs_2059.gr.blk hb_1988
  have hb_2074 := hs_2059.gr.blk hb_1989
  have hb_2075 := hs_2059.gr.blk hb_1990
  have hb_2076 := hs_2059.gr.blk hb_1991
  have hb_2077 := hs_2059.gr.blk hb_1992
  have hb_2078 := hs_2059.gr.blk hb_1993
  have hb_2079 := hs_2059.gr.blk hb_1994
  have hb_2080 := hs_2059.gr.blk hb_1995
  have hb_2081 := hs_2059.gr.blk hb_1996
  have hb_2082 := hs_2059.gr.blk hb_1997
  have hb_2083 := hs_2059.gr.blk hb_1998
  have hb_2084 := hs_2059.gr.blk hb_1999
  have hb_2085 := hs_2059.gr.blk hb_2000
  have hb_2086 := hs_2059.gr.blk hb_2001
  have hb_2087 := hs_2059.gr.blk hb_2002
  have hb_2088 := hs_2059.gr.blk hb_2003
  have hb_2089 := hs_2059.gr.blk hb_2004
  have hb_2090 := hs_2059.gr.blk hb_2005
  have hb_2091 := hs_2059.gr.blk hb_2044
  have hr_2092 := hr_2006.gr hs_2059.gr
  have hr_2093 := hr_2007.gr hs_2059.gr
  have hr_2094 := hr_2008.gr hs_2059.gr
  have hr_2095 := hr_2009.gr hs_2059.gr
  have hr_2096 := hr_2010.gr hs_2059.gr
  have hr_2097 := hr_2011.gr hs_2059.gr
  have hr_2098 := hr_2012.gr hs_2059.gr
  have hr_2099 := hr_2013.gr hs_2059.gr
  have hr_2100 := hr_2014.gr hs_2059.gr
  have hr_2101 := hr_2015.gr hs_2059.gr
  have hr_2102 := hr_2016.gr hs_2059.gr
  have hr_2103 := hr_2017.gr hs_2059.gr
  have hr_2104 := hr_2018.gr hs_2059.gr
  have hr_2105 := hr_2019.gr hs_2059.gr
  have hr_2106 := hr_2020.gr hs_2059.gr
  have hr_2107 := hr_2021.gr hs_2059.gr
  have hr_2108 := hr_2022.gr hs_2059.gr
  have hr_2109 := hr_2023.gr hs_2059.gr
  have hr_2110 := hr_2024.gr hs_2059.gr
  have hr_2111 := hr_2025.gr hs_2059.gr
  have hr_2112 := hr_2026.gr hs_2059.gr
  have hr_2113 := hr_2027.gr hs_2059.gr
  have hr_2114 := hr_2028.gr hs_2059.gr
  have hr_2115 := hr_2029.gr hs_2059.gr
  have hr_2116 := hr_2030.gr hs_2059.gr
  have hr_2117 := hr_2031.gr hs_2059.gr
  have hr_2118 := hr_2032.gr hs_2059.gr
  have hr_2119 := hr_2033.gr hs_2059.gr
  have hr_2120 := hr_2034.gr hs_2059.gr
  have hr_2121 := hr_2035.gr hs_2059.gr
  have hr_2122 := hr_2036.gr hs_2059.gr
  have hr_2123 := hr_2037.gr hs_2059.gr
  have hr_2124 := hr_2038.gr hs_2059.gr
  have hr_2125 := hr_2039.gr hs_2059.gr
  have hr_2126 := hr_2040.gr hs_2059.gr
  have hr_2127 := hr_2041.gr hs_2059.gr
  have hr_2128 := hr_2042.gr hs_2059.gr
  have hr_2129 := hr_2043.gr hs_2059.gr
  have hr_2130 := hr_1970.gr hs_2059.gr
  have hG_2131 := (hG_2045.trans hs_2059.gr)
  have hs_2132 := SH.none w_2057
  refine SL.v (.slice (some ⟨g_2047, 0, none⟩) 1 cap_2048) ?_
  refine SL.nil ?_
  refine CW.seq ?_
  refine CW.region ?_
  refine SL.v (.slice (some ⟨g_2047, 0, none⟩) 1 cap_2048) ?_
  refine SL.val (v := .int .i64 1) (w' := w_2057) rfl rfl (by kernel_rfl) ?_
  refine SL.v (.bool false) ?_
  refine SL.v (.bool false) ?_
  refine SL.go ?_
  refine SL.v (.slice (some ⟨g_2047, 0, none⟩) 1 cap_2048) ?_
  refine SL.go ?_
  refine SL.v (.pointer (some ⟨g_2047, 0, none⟩)) ?_
  refine SL.go ?_
  refine SL.v (.pointer (some ⟨g_2047, 5, none⟩)) ?_
  refine SL.go ?_
  refine SL.load (g := g_2047) (off := 5) (v := .slice a_2052 ((fmtR ([flagZ c.clean.below]) ++ [36, 125]).length) c_2053) rfl rfl rfl (by kernel_rfl) (hs_2132.gr.blk hb_2054) (by kernel_rfl) ?_
  refine SL.go ?_
  refine SL.val (v := .string (strOf (fmtR ([flagZ c.clean.below]) ++ [36, 125]))) (w' := w_2057) rfl rfl (run_conv rfl (by kernel_rfl) (conv_row (hr_2055.gr hs_2132.gr))) ?_
  refine SL.go ?_
  refine SL.v (.string (strOf (fmtR ([flagZ c.clean.below]) ++ [36, 125]))) ?_
  refine SL.go ?_
  refine SL.val (v := .bool false) (w' := w_2057) rfl rfl (run_strneB (a := strOf (fmtR ([flagZ c.clean.below]) ++ [36, 125])) (b := strOf (fmtR ([flagZ c.clean.below]) ++ [36, 125])) (c := true) rfl (by kernel_rfl) (by kernel_rfl) (seqB_self _)) ?_
  refine SL.v (.bool false) ?_
  refine SL.nil ?_
  refine CW.cond_false (by kernel_rfl) ?_
  refine CW.skip ?_
  refine CW.region ?_
  refine SL.v (.int .i64 10) ?_
  refine SL.v (.int .i64 10) ?_
  refine SL.nil ?_
  refine CR.fresh (fun e9 => e9 2 = .bool false ∧ e9 3 = .pointer (some ⟨g_11, 0, none⟩) ∧ e9 34 = .slice (some ⟨g_16, 0, none⟩) 10 10 ∧ e9 35 = .int .i64 10 ∧ e9 36 = .int .i64 10) ⟨(by kernel_rfl), (by kernel_rfl), (by kernel_rfl), (by kernel_rfl), (by kernel_rfl)⟩ ?_
  rintro e_2133 ⟨hv_2135, hv_2136, hv_2137, hv_2138, hv_2139⟩
  obtain ⟨e_2134, rfl⟩ : ∃ e_2134, e_2133 = put1 (put1 (put1 (put1 (put1 e_2134 2 (.bool false)) 3 (.pointer (some ⟨g_11, 0, none⟩))) 34 (.slice (some ⟨g_16, 0, none⟩) 10 10)) 35 (.int .i64 10)) 36 (.int .i64 10) := ⟨e_2133, (put_self hv_2139).trans (congrArg (fun z => put1 z 36 (.int .i64 10)) ((put_self hv_2138).trans (congrArg (fun z => put1 z 35 (.int .i64 10)) ((put_self hv_2137).trans (congrArg (fun z => put1 z 34 (.slice (some ⟨g_16, 0, none⟩) 10 10)) ((put_self hv_2136).trans (congrArg (fun z => put1 z 3 (.pointer (some ⟨g_11, 0, none⟩))) (put_self hv_2135))))))))⟩
  clear hv_2135 hv_2136 hv_2137 hv_2138 hv_2139
  refine CR.more ?_
  refine CW.seq ?_
  refine CW.region ?_
  refine SL.v (.bool false) ?_
  refine SL.nil ?_
  refine CW.seq ?_
  refine CW.cond_false (by kernel_rfl) ?_
  refine CW.exit ?_
  repeat with_reducible first | refine PThen.exit ?_ | refine PBlock.out rfl ?_
  with_reducible refine PBlock.here ?_
  repeat with_reducible refine PBlock.normal ?_
  refine CW.seq ?_
  refine CW.region ?_
  refine SL.v (.bool true) ?_
  refine SL.nil ?_
  refine CW.ret ?_
  repeat with_reducible first | refine PThen.ret ?_ | refine PBlock.ret ?_
  refine PRet.tmp (t := 2) (v := .bool true) rfl rfl (by kernel_rfl) ?_
  exact ⟨rfl, (hG_2131.trans hs_2132.gr)⟩
theorem tabT_met19 {w : World} {rest : List (String × DataW Unit)} (h : laidMet Tryd.prog (("internal/strconv.uint64pow10", Rows.laid_internal_strconv_uint64pow10) :: rest) w) : tabT w :=
  tabIs_head2 (g := 0) (by rfl) (by kernel_rfl) (by kernel_rfl) Tryd.underlying147 (by kernel_rfl) (by kernel_rfl) (by kernel_rfl) h
/-- What is known of a state that comes in: all but that its modes fit. -/
structure Cor.In (c : Cor) : Prop where
  ok : ∀ m, 0 ≤ m ∧ m < 4294967296 → ({ c with modes := m } : Cor).Ok
theorem i6w {x : Int} (h : -9223372036854775808 ≤ x ∧ x ≤ 9223372036854775807) : I6 x := h
set_option maxRecDepth 100000 in
theorem open_cor {H : Type} {enc : TypeId × Value → H} {w : World} {base b0 : Nat} {spare : Nat → Bool} {held : Bool} {r : Reach} {v : Value} {d : DataW H} {p : List MemPlace} {X : Prop}
    (hv : Value.okWide Tryd.prog w r b0 33 v) (h : DataW.Trod enc Tryd.prog w base spare held 33 v d p) (hs : X) : ∃ c : Cor, v = c.d ∧ c.In := by
  obtain ⟨cs, rfl, hsz⟩ := okWide_struct Tryd.underlying33 hv
  obtain ⟨l⟩ := cs
  have hC : Tryd.prog.cellsOf 33 = 29 := by kernel_rfl
  match l, hsz.trans hC with
  | [x0, x1, x2, x3, x4, x5, x6, x7, x8, x9, x10, x11, x12, x13, x14, x15, x16, x17, x18, x19, x20, x21, x22, x23, x24, x25, x26, x27, x28], _ =>
    obtain ⟨fuel, hf⟩ := h
    obtain ⟨y0, e0, n0, f0, g0⟩ := flat_at 8 _ 0 (some .i64) fuel _ _ (by kernel_rfl) hf
    obtain rfl : x0 = _ := (Option.some.inj e0).trans f0
    have g0 := bounds_i64 g0
    obtain ⟨y1, e1, n1, f1, g1⟩ := flat_at 8 _ 1 (some .i64) fuel _ _ (by kernel_rfl) hf
    obtain rfl : x1 = _ := (Option.some.inj e1).trans f1
    have g1 := bounds_i64 g1
    obtain ⟨y2, e2, n2, f2, g2⟩ := flat_at 8 _ 2 (some .u8) fuel _ _ (by kernel_rfl) hf
    obtain rfl : x2 = _ := (Option.some.inj e2).trans f2
    have g2 := bounds_u8 g2
    obtain ⟨y3, e3, n3, f3⟩ := flat_at 8 _ 3 none fuel _ _ (by kernel_rfl) hf
    obtain rfl : x3 = _ := (Option.some.inj e3).trans f3
    obtain ⟨y4, e4, n4, f4⟩ := flat_at 8 _ 4 none fuel _ _ (by kernel_rfl) hf
    obtain rfl : x4 = _ := (Option.some.inj e4).trans f4
    obtain ⟨y5, e5, n5, f5⟩ := flat_at 8 _ 5 none fuel _ _ (by kernel_rfl) hf
    obtain rfl : x5 = _ := (Option.some.inj e5).trans f5
    obtain ⟨y6, e6, n6, f6, g6⟩ := flat_at 8 _ 6 (some .i64) fuel _ _ (by kernel_rfl) hf
    obtain rfl : x6 = _ := (Option.some.inj e6).trans f6
    have g6 := bounds_i64 g6
    obtain ⟨y7, e7, n7, f7, g7⟩ := flat_at 8 _ 7 (some .i64) fuel _ _ (by kernel_rfl) hf
    obtain rfl : x7 = _ := (Option.some.inj e7).trans f7
    have g7 := bounds_i64 g7
    obtain ⟨y8, e8, n8, f8, g8⟩ := flat_at 8 _ 8 (some .i64) fuel _ _ (by kernel_rfl) hf
    obtain rfl : x8 = _ := (Option.some.inj e8).trans f8
    have g8 := bounds_i64 g8
    obtain ⟨y9, e9, n9, f9, g9⟩ := flat_at 8 _ 9 (some .i64) fuel _ _ (by kernel_rfl) hf
    obtain rfl : x9 = _ := (Option.some.inj e9).trans f9
    have g9 := bounds_i64 g9
    obtain ⟨y10, e10, n10, f10, g10⟩ := flat_at 8 _ 10 (some .i64) fuel _ _ (by kernel_rfl) hf
    obtain rfl : x10 = _ := (Option.some.inj e10).trans f10
    have g10 := bounds_i64 g10
    obtain ⟨y11, e11, n11, f11, g11⟩ := flat_at 8 _ 11 (some .i64) fuel _ _ (by kernel_rfl) hf
    obtain rfl : x11 = _ := (Option.some.inj e11).trans f11
    have g11 := bounds_i64 g11
    obtain ⟨y12, e12, n12, f12, g12⟩ := flat_at 8 _ 12 (some .i64) fuel _ _ (by kernel_rfl) hf
    obtain rfl : x12 = _ := (Option.some.inj e12).trans f12
    have g12 := bounds_i64 g12
    obtain ⟨y13, e13, n13, f13, g13⟩ := flat_at 8 _ 13 (some .i64) fuel _ _ (by kernel_rfl) hf
    obtain rfl : x13 = _ := (Option.some.inj e13).trans f13
    have g13 := bounds_i64 g13
    obtain ⟨y14, e14, n14, f14, g14⟩ := flat_at 8 _ 14 (some .i64) fuel _ _ (by kernel_rfl) hf
    obtain rfl : x14 = _ := (Option.some.inj e14).trans f14
    have g14 := bounds_i64 g14
    obtain ⟨y15, e15, n15, f15, g15⟩ := flat_at 8 _ 15 (some .i64) fuel _ _ (by kernel_rfl) hf
    obtain rfl : x15 = _ := (Option.some.inj e15).trans f15
    have g15 := bounds_i64 g15
    obtain ⟨y16, e16, n16, f16, g16⟩ := flat_at 8 _ 16 (some .i64) fuel _ _ (by kernel_rfl) hf
    obtain rfl : x16 = _ := (Option.some.inj e16).trans f16
    have g16 := bounds_i64 g16
    obtain ⟨y17, e17, n17, f17, g17⟩ := flat_at 8 _ 17 (some .i64) fuel _ _ (by kernel_rfl) hf
    obtain rfl : x17 = _ := (Option.some.inj e17).trans f17
    have g17 := bounds_i64 g17
    obtain ⟨y18, e18, n18, f18, g18⟩ := flat_at 8 _ 18 (some .i64) fuel _ _ (by kernel_rfl) hf
    obtain rfl : x18 = _ := (Option.some.inj e18).trans f18
    have g18 := bounds_i64 g18
    obtain ⟨y19, e19, n19, f19, g19⟩ := flat_at 8 _ 19 (some .i64) fuel _ _ (by kernel_rfl) hf
    obtain rfl : x19 = _ := (Option.some.inj e19).trans f19
    have g19 := bounds_i64 g19
    obtain ⟨y20, e20, n20, f20, g20⟩ := flat_at 8 _ 20 (some .i64) fuel _ _ (by kernel_rfl) hf
    obtain rfl : x20 = _ := (Option.some.inj e20).trans f20
    have g20 := bounds_i64 g20
    obtain ⟨y21, e21, n21, f21, g21⟩ := flat_at 8 _ 21 (some .i64) fuel _ _ (by kernel_rfl) hf
    obtain rfl : x21 = _ := (Option.some.inj e21).trans f21
    have g21 := bounds_i64 g21
    obtain ⟨y22, e22, n22, f22, g22⟩ := flat_at 8 _ 22 (some .i64) fuel _ _ (by kernel_rfl) hf
    obtain rfl : x22 = _ := (Option.some.inj e22).trans f22
    have g22 := bounds_i64 g22
    obtain ⟨y23, e23, n23, f23⟩ := flat_at 8 _ 23 none fuel _ _ (by kernel_rfl) hf
    obtain rfl : x23 = _ := (Option.some.inj e23).trans f23
    obtain ⟨y24, e24, n24, f24⟩ := flat_at 8 _ 24 none fuel _ _ (by kernel_rfl) hf
    obtain rfl : x24 = _ := (Option.some.inj e24).trans f24
    obtain ⟨y25, e25, n25, f25, g25⟩ := flat_at 8 _ 25 (some .i64) fuel _ _ (by kernel_rfl) hf
    obtain rfl : x25 = _ := (Option.some.inj e25).trans f25
    have g25 := bounds_i64 g25
    obtain ⟨y26, e26, n26, f26⟩ := flat_at 8 _ 26 none fuel _ _ (by kernel_rfl) hf
    obtain rfl : x26 = _ := (Option.some.inj e26).trans f26
    obtain ⟨y27, e27, n27, f27, g27⟩ := flat_at 8 _ 27 (some .i64) fuel _ _ (by kernel_rfl) hf
    obtain rfl : x27 = _ := (Option.some.inj e27).trans f27
    have g27 := bounds_i64 g27
    obtain ⟨y28, e28, n28, f28, g28⟩ := flat_at 8 _ 28 (some .i64) fuel _ _ (by kernel_rfl) hf
    obtain rfl : x28 = _ := (Option.some.inj e28).trans f28
    have g28 := bounds_i64 g28
    refine ⟨⟨n0, n1, n2, n3, n4, n5, n6, n7, n8, n9, n10, n11, n12, n13, n14, n15, n16, n17, n18, n19, n20, n21, n22, n23, n24, n25, n26, n27, n28⟩, rfl, ⟨fun m hm => ?_⟩⟩
    exact ⟨i6w g0, i6w g1, by simpa using (by omega : 0 ≤ n2 ∧ n2 < 256), ⟨i6w g6, i6w g7, i6w g8, i6w g9⟩, i6w g10, i6w g11, i6w g12, ⟨i6w g13, i6w g14, i6w g15, i6w g16⟩, ⟨i6w g17, i6w g18, i6w g19, i6w g20⟩, hm, i6w g22, i6w g25, i6w g27, i6w g28⟩
theorem tab_PhosphorSet {w : World} (h : laidMetH Tryd.prog Rows.phosphorSetRow.laid w) : tabT w := by
  unfold Rows.phosphorSetRow at h
  rw [MakeChecks.laidMetH_plain _ _ _ (by kernel_rfl)] at h
  exact tabT_met19 (laidMet_tail2 (laidMet_tail2 h))
theorem pset_law (c : Cor) (w : World) (h0 : c.In) (hlaid : laidMetH Tryd.prog Rows.phosphorSetRow.laid w) (hsh : w.ShapedOpen Tryd.prog) :
    Calls Tryd.prog 3 #[c.d] w fun e w' => e = .returned (.bool true) ∧ Gr w w' := by
  have hT := tab_PhosphorSet hlaid
  by_cases k0 : c.modes < 0
  · exact pset_0 c w k0
  · by_cases k1 : 4294967296 ≤ c.modes
    · exact pset_1 c w (by omega) k1
    · by_cases k2 : 60000 < c.pb
      · exact pset_2 c w (by omega) (by omega) k2
      · by_cases k3 : 60000 < c.pr
        · exact pset_3 c w (by omega) (by omega) (by omega) k3
        · exact pset_y c w (h0.ok c.modes (by omega)) ⟨by omega, by omega, by omega⟩ hT
end Go.Proofs.YthfipedfoofobaaDoor
