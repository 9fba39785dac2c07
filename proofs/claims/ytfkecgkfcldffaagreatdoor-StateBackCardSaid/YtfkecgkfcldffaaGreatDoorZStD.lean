/-
 New states of both texts, walked (gen_std.py).
-/
import Derived.Test.YtfkecgkfcldffaaGreatDoorZHf
import Derived.Test.YtfkecgkfcldffaaGreatDoorZStC
namespace Go.Proofs.YtfkecgkfcldffaaGreatDoor
set_option linter.unusedSimpArgs false
set_option linter.unusedVariables false
open Go.RowKit
set_option linter.unusedVariables false

abbrev modeRowsA : Array Value := #[.bool false, iv 2, iv 1, .bool false, .bool false, iv 4, iv 1, .bool false, .bool false, iv 12, iv 1, .bool true, .bool false, iv 20, iv 1, .bool false, .bool true, iv 1, iv 1, .bool false, .bool true, iv 5, iv 1, .bool false, .bool true, iv 6, iv 1, .bool false, .bool true, iv 7, iv 1, .bool true, .bool true, iv 8, iv 1, .bool true, .bool true, iv 25, iv 2, .bool true, .bool true, iv 42, iv 2, .bool false, .bool true, iv 64, iv 3, .bool true, .bool true, iv 66, iv 3, .bool false, .bool true, iv 67, iv 3, .bool false, .bool true, iv 68, iv 3, .bool false, .bool true, iv 69, iv 4, .bool false, .bool true, iv 95, iv 5, .bool false]
abbrev modeRows : Value := .agg modeRowsA
set_option maxRecDepth 100000 in
set_option maxHeartbeats 4000000 in
theorem mrows_any  (w : World) : Calls Tryz.prog 88 #[] w fun e w' => e = .returned (modeRows) ∧ Gr w w' := by
 refine calls_sx (n := 19) (args := []) Tryz.func88 rfl rfl rfl ?_
 have hs0 := Bk.init w
 refine CW.seq ?_
 refine CW.region ?_
 refine SL.new (mk := fun g => pv g 0) (C := #[.bool false, iv 0, iv 0, .bool false, .bool false, iv 0, iv 0, .bool false, .bool false, iv 0, iv 0, .bool false, .bool false, iv 0, iv 0, .bool false, .bool false, iv 0, iv 0, .bool false, .bool false, iv 0, iv 0, .bool false, .bool false, iv 0, iv 0, .bool false, .bool false, iv 0, iv 0, .bool false, .bool false, iv 0, iv 0, .bool false, .bool false, iv 0, iv 0, .bool false, .bool false, iv 0, iv 0, .bool false, .bool false, iv 0, iv 0, .bool false, .bool false, iv 0, iv 0, .bool false, .bool false, iv 0, iv 0, .bool false, .bool false, iv 0, iv 0, .bool false, .bool false, iv 0, iv 0, .bool false, .bool false, iv 0, iv 0, .bool false]) (T := 148) hs0 rfl rfl (by kernel_rfl) (fun g_1 w_2 hs_3 => ?_)
 have hs_3 : Bk w w_2 [(g_1, .cells #[.bool false, iv 0, iv 0, .bool false, .bool false, iv 0, iv 0, .bool false, .bool false, iv 0, iv 0, .bool false, .bool false, iv 0, iv 0, .bool false, .bool false, iv 0, iv 0, .bool false, .bool false, iv 0, iv 0, .bool false, .bool false, iv 0, iv 0, .bool false, .bool false, iv 0, iv 0, .bool false, .bool false, iv 0, iv 0, .bool false, .bool false, iv 0, iv 0, .bool false, .bool false, iv 0, iv 0, .bool false, .bool false, iv 0, iv 0, .bool false, .bool false, iv 0, iv 0, .bool false, .bool false, iv 0, iv 0, .bool false, .bool false, iv 0, iv 0, .bool false, .bool false, iv 0, iv 0, .bool false, .bool false, iv 0, iv 0, .bool false] 148 (0, 0))] := hs_3
 refine SL.nil ?_
 refine CW.seq ?_
 refine CW.region ?_
 refine SL.v (.agg #[.bool false, iv 2, iv 1, .bool false]) ?_
 refine SL.v (.agg #[.bool false, iv 4, iv 1, .bool false]) ?_
 refine SL.v (.agg #[.bool false, iv 12, iv 1, .bool true]) ?_
 refine SL.v (.agg #[.bool false, iv 20, iv 1, .bool false]) ?_
 refine SL.v (.agg #[.bool true, iv 1, iv 1, .bool false]) ?_
 refine SL.v (.agg #[.bool true, iv 5, iv 1, .bool false]) ?_
 refine SL.v (.agg #[.bool true, iv 6, iv 1, .bool false]) ?_
 refine SL.v (.agg #[.bool true, iv 7, iv 1, .bool true]) ?_
 refine SL.v (.agg #[.bool true, iv 8, iv 1, .bool true]) ?_
 refine SL.v (.agg #[.bool true, iv 25, iv 2, .bool true]) ?_
 refine SL.v (.agg #[.bool true, iv 42, iv 2, .bool false]) ?_
 refine SL.v (.agg #[.bool true, iv 64, iv 3, .bool true]) ?_
 refine SL.v (.agg #[.bool true, iv 66, iv 3, .bool false]) ?_
 refine SL.v (.agg #[.bool true, iv 67, iv 3, .bool false]) ?_
 refine SL.v (.agg #[.bool true, iv 68, iv 3, .bool false]) ?_
 refine SL.v (.agg #[.bool true, iv 69, iv 4, .bool false]) ?_
 refine SL.v (.agg #[.bool true, iv 95, iv 5, .bool false]) ?_
 refine SL.v (modeRows) ?_
 refine SL.store (i := 0) (g := g_1) (off := 0) (v := modeRows) (L' := [(g_1, .cells modeRowsA 148 (0, 0))]) hs_3 rfl rfl rfl (by kernel_rfl) (by kernel_rfl) rfl (by kernel_rfl) (by kernel_rfl) rfl (by kernel_rfl) rfl (fun w_4 hs_5 => ?_)
 refine SL.nil ?_
 refine CW.ret ?_
 repeat with_reducible first | refine PThen.ret ?_ | refine PBlock.ret ?_
 refine PRet.cell (t := 0) (ty := 148) (g := g_1) (v := modeRows) rfl rfl (by kernel_rfl) (hs_5.all 0 g_1 _ rfl) (by kernel_rfl) ?_
 exact ⟨rfl, hs_5.gr⟩
set_option maxRecDepth 100000 in
set_option maxHeartbeats 4000000 in
theorem mis_any (x : Int) (w : World) (h : 0 ≤ x ∧ x < 17) : Calls Tryz.prog 109 #[iv x] w fun e w' => e = .returned (.bool true) ∧ Gr w w' := by
 refine calls_sx (n := 9) (args := [iv x]) Tryz.func109 rfl rfl rfl ?_
 have hs0 := Bk.init w
 refine CW.seq ?_
 refine CW.region ?_
 refine SL.v (.bool false) ?_
 refine SL.nil ?_
 refine CW.seq ?_
 refine CW.region ?_
 refine SL.v (iv x) ?_
 refine SL.v (.bool (decide (0 ≤ x))) ?_
 refine SL.v (.bool (decide (0 ≤ x))) ?_
 have hb_1 : (decide (0 ≤ x)) = true := (decide_eq_true h.1)
 rw [hb_1]
 have hqhb_1 := of_decide_eq_true hb_1
 refine SL.go ?_
 refine SL.v (iv x) ?_
 refine SL.go ?_
 refine SL.v (.bool (decide (x < 17))) ?_
 refine SL.v (.bool (decide (x < 17))) ?_
 refine SL.v (.bool (decide (x < 17))) ?_
 refine SL.nil ?_
 refine CW.ret ?_
 repeat with_reducible first | refine PThen.ret ?_ | refine PBlock.ret ?_
 refine PRet.tmp (t := 2) (v := .bool (decide (x < 17))) rfl rfl (by kernel_rfl) ?_
 exact ⟨by first | rfl | (rw [decide_eq_true h.2]), hs0.gr⟩
set_option maxRecDepth 100000 in
set_option maxHeartbeats 4000000 in
theorem mwith_0  (w : World) : Calls Tryz.prog 89 #[.int .u32 0, iv 0, .bool false] w fun e w' => e = .returned (.int .u32 0) ∧ Gr w w' := by
 refine calls_sx (n := 22) (args := [.int .u32 0, iv 0, .bool false]) Tryz.func89 rfl rfl rfl ?_
 have hs0 := Bk.init w
 refine CW.seq ?_
 refine CW.region ?_
 refine SL.v (.int .u32 0) ?_
 refine SL.nil ?_
 refine CW.seq ?_
 refine CW.block ?_
 refine CW.seq ?_
 refine CW.region ?_
 refine SL.v (iv 0) ?_
 refine SL.call (f := 109) (args := #[iv 0]) (w1 := w) rfl rfl (by kernel_rfl) (mis_any 0 w (by decide)) ?_
 rintro x w_1 ⟨rfl, hc_2⟩
 refine ⟨_, rfl, ?_⟩
 have hs_3 := hs0.grow hc_2
 refine SL.v (.bool false) ?_
 refine SL.v (.bool false) ?_
 refine SL.nil ?_
 refine CW.cond_false (by kernel_rfl) ?_
 refine CW.seq ?_
 refine CW.region ?_
 refine SL.v (.bool false) ?_
 refine SL.v (.bool false) ?_
 refine SL.nil ?_
 refine CW.cond_false (by kernel_rfl) ?_
 refine CW.skip ?_
 refine CW.seq ?_
 refine CW.region ?_
 refine SL.v (.int .u32 0) ?_
 refine SL.v (iv 0) ?_
 refine SL.v (.int .u32 1) ?_
 refine SL.v (.int .u32 0) ?_
 refine SL.v (.int .u32 0) ?_
 refine SL.nil ?_
 refine CW.ret ?_
 repeat with_reducible first | refine PThen.ret ?_ | refine PBlock.ret ?_
 refine PRet.tmp (t := 6) (v := .int .u32 0) rfl rfl (by kernel_rfl) ?_
 exact ⟨rfl, hs_3.gr⟩
set_option maxRecDepth 100000 in
set_option maxHeartbeats 4000000 in
theorem mwith_1  (w : World) : Calls Tryz.prog 89 #[.int .u32 0, iv 1, .bool false] w fun e w' => e = .returned (.int .u32 0) ∧ Gr w w' := by
 refine calls_sx (n := 22) (args := [.int .u32 0, iv 1, .bool false]) Tryz.func89 rfl rfl rfl ?_
 have hs0 := Bk.init w
 refine CW.seq ?_
 refine CW.region ?_
 refine SL.v (.int .u32 0) ?_
 refine SL.nil ?_
 refine CW.seq ?_
 refine CW.block ?_
 refine CW.seq ?_
 refine CW.region ?_
 refine SL.v (iv 1) ?_
 refine SL.call (f := 109) (args := #[iv 1]) (w1 := w) rfl rfl (by kernel_rfl) (mis_any 1 w (by decide)) ?_
 rintro x w_1 ⟨rfl, hc_2⟩
 refine ⟨_, rfl, ?_⟩
 have hs_3 := hs0.grow hc_2
 refine SL.v (.bool false) ?_
 refine SL.v (.bool false) ?_
 refine SL.nil ?_
 refine CW.cond_false (by kernel_rfl) ?_
 refine CW.seq ?_
 refine CW.region ?_
 refine SL.v (.bool false) ?_
 refine SL.v (.bool false) ?_
 refine SL.nil ?_
 refine CW.cond_false (by kernel_rfl) ?_
 refine CW.skip ?_
 refine CW.seq ?_
 refine CW.region ?_
 refine SL.v (.int .u32 0) ?_
 refine SL.v (iv 1) ?_
 refine SL.v (.int .u32 2) ?_
 refine SL.v (.int .u32 0) ?_
 refine SL.v (.int .u32 0) ?_
 refine SL.nil ?_
 refine CW.ret ?_
 repeat with_reducible first | refine PThen.ret ?_ | refine PBlock.ret ?_
 refine PRet.tmp (t := 6) (v := .int .u32 0) rfl rfl (by kernel_rfl) ?_
 exact ⟨rfl, hs_3.gr⟩
set_option maxRecDepth 100000 in
set_option maxHeartbeats 4000000 in
theorem mwith_2  (w : World) : Calls Tryz.prog 89 #[.int .u32 0, iv 2, .bool true] w fun e w' => e = .returned (.int .u32 4) ∧ Gr w w' := by
 refine calls_sx (n := 22) (args := [.int .u32 0, iv 2, .bool true]) Tryz.func89 rfl rfl rfl ?_
 have hs0 := Bk.init w
 refine CW.seq ?_
 refine CW.region ?_
 refine SL.v (.int .u32 0) ?_
 refine SL.nil ?_
 refine CW.seq ?_
 refine CW.block ?_
 refine CW.seq ?_
 refine CW.region ?_
 refine SL.v (iv 2) ?_
 refine SL.call (f := 109) (args := #[iv 2]) (w1 := w) rfl rfl (by kernel_rfl) (mis_any 2 w (by decide)) ?_
 rintro x w_1 ⟨rfl, hc_2⟩
 refine ⟨_, rfl, ?_⟩
 have hs_3 := hs0.grow hc_2
 refine SL.v (.bool false) ?_
 refine SL.v (.bool false) ?_
 refine SL.nil ?_
 refine CW.cond_false (by kernel_rfl) ?_
 refine CW.seq ?_
 refine CW.region ?_
 refine SL.v (.bool true) ?_
 refine SL.v (.bool true) ?_
 refine SL.nil ?_
 refine CW.cond_true (by kernel_rfl) ?_
 refine CW.seq ?_
 refine CW.region ?_
 refine SL.v (.int .u32 0) ?_
 refine SL.v (iv 2) ?_
 refine SL.v (.int .u32 4) ?_
 refine SL.v (.int .u32 4) ?_
 refine SL.v (.int .u32 4) ?_
 refine SL.nil ?_
 refine CW.ret ?_
 repeat with_reducible first | refine PThen.ret ?_ | refine PBlock.ret ?_
 refine PRet.tmp (t := 6) (v := .int .u32 4) rfl rfl (by kernel_rfl) ?_
 exact ⟨rfl, hs_3.gr⟩
set_option maxRecDepth 100000 in
set_option maxHeartbeats 4000000 in
theorem mwith_3  (w : World) : Calls Tryz.prog 89 #[.int .u32 4, iv 3, .bool false] w fun e w' => e = .returned (.int .u32 4) ∧ Gr w w' := by
 refine calls_sx (n := 22) (args := [.int .u32 4, iv 3, .bool false]) Tryz.func89 rfl rfl rfl ?_
 have hs0 := Bk.init w
 refine CW.seq ?_
 refine CW.region ?_
 refine SL.v (.int .u32 0) ?_
 refine SL.nil ?_
 refine CW.seq ?_
 refine CW.block ?_
 refine CW.seq ?_
 refine CW.region ?_
 refine SL.v (iv 3) ?_
 refine SL.call (f := 109) (args := #[iv 3]) (w1 := w) rfl rfl (by kernel_rfl) (mis_any 3 w (by decide)) ?_
 rintro x w_1 ⟨rfl, hc_2⟩
 refine ⟨_, rfl, ?_⟩
 have hs_3 := hs0.grow hc_2
 refine SL.v (.bool false) ?_
 refine SL.v (.bool false) ?_
 refine SL.nil ?_
 refine CW.cond_false (by kernel_rfl) ?_
 refine CW.seq ?_
 refine CW.region ?_
 refine SL.v (.bool false) ?_
 refine SL.v (.bool false) ?_
 refine SL.nil ?_
 refine CW.cond_false (by kernel_rfl) ?_
 refine CW.skip ?_
 refine CW.seq ?_
 refine CW.region ?_
 refine SL.v (.int .u32 4) ?_
 refine SL.v (iv 3) ?_
 refine SL.v (.int .u32 8) ?_
 refine SL.v (.int .u32 4) ?_
 refine SL.v (.int .u32 4) ?_
 refine SL.nil ?_
 refine CW.ret ?_
 repeat with_reducible first | refine PThen.ret ?_ | refine PBlock.ret ?_
 refine PRet.tmp (t := 6) (v := .int .u32 4) rfl rfl (by kernel_rfl) ?_
 exact ⟨rfl, hs_3.gr⟩
set_option maxRecDepth 100000 in
set_option maxHeartbeats 4000000 in
theorem mwith_4  (w : World) : Calls Tryz.prog 89 #[.int .u32 4, iv 4, .bool false] w fun e w' => e = .returned (.int .u32 4) ∧ Gr w w' := by
 refine calls_sx (n := 22) (args := [.int .u32 4, iv 4, .bool false]) Tryz.func89 rfl rfl rfl ?_
 have hs0 := Bk.init w
 refine CW.seq ?_
 refine CW.region ?_
 refine SL.v (.int .u32 0) ?_
 refine SL.nil ?_
 refine CW.seq ?_
 refine CW.block ?_
 refine CW.seq ?_
 refine CW.region ?_
 refine SL.v (iv 4) ?_
 refine SL.call (f := 109) (args := #[iv 4]) (w1 := w) rfl rfl (by kernel_rfl) (mis_any 4 w (by decide)) ?_
 rintro x w_1 ⟨rfl, hc_2⟩
 refine ⟨_, rfl, ?_⟩
 have hs_3 := hs0.grow hc_2
 refine SL.v (.bool false) ?_
 refine SL.v (.bool false) ?_
 refine SL.nil ?_
 refine CW.cond_false (by kernel_rfl) ?_
 refine CW.seq ?_
 refine CW.region ?_
 refine SL.v (.bool false) ?_
 refine SL.v (.bool false) ?_
 refine SL.nil ?_
 refine CW.cond_false (by kernel_rfl) ?_
 refine CW.skip ?_
 refine CW.seq ?_
 refine CW.region ?_
 refine SL.v (.int .u32 4) ?_
 refine SL.v (iv 4) ?_
 refine SL.v (.int .u32 16) ?_
 refine SL.v (.int .u32 4) ?_
 refine SL.v (.int .u32 4) ?_
 refine SL.nil ?_
 refine CW.ret ?_
 repeat with_reducible first | refine PThen.ret ?_ | refine PBlock.ret ?_
 refine PRet.tmp (t := 6) (v := .int .u32 4) rfl rfl (by kernel_rfl) ?_
 exact ⟨rfl, hs_3.gr⟩
set_option maxRecDepth 100000 in
set_option maxHeartbeats 4000000 in
theorem mwith_5  (w : World) : Calls Tryz.prog 89 #[.int .u32 4, iv 5, .bool false] w fun e w' => e = .returned (.int .u32 4) ∧ Gr w w' := by
 refine calls_sx (n := 22) (args := [.int .u32 4, iv 5, .bool false]) Tryz.func89 rfl rfl rfl ?_
 have hs0 := Bk.init w
 refine CW.seq ?_
 refine CW.region ?_
 refine SL.v (.int .u32 0) ?_
 refine SL.nil ?_
 refine CW.seq ?_
 refine CW.block ?_
 refine CW.seq ?_
 refine CW.region ?_
 refine SL.v (iv 5) ?_
 refine SL.call (f := 109) (args := #[iv 5]) (w1 := w) rfl rfl (by kernel_rfl) (mis_any 5 w (by decide)) ?_
 rintro x w_1 ⟨rfl, hc_2⟩
 refine ⟨_, rfl, ?_⟩
 have hs_3 := hs0.grow hc_2
 refine SL.v (.bool false) ?_
 refine SL.v (.bool false) ?_
 refine SL.nil ?_
 refine CW.cond_false (by kernel_rfl) ?_
 refine CW.seq ?_
 refine CW.region ?_
 refine SL.v (.bool false) ?_
 refine SL.v (.bool false) ?_
 refine SL.nil ?_
 refine CW.cond_false (by kernel_rfl) ?_
 refine CW.skip ?_
 refine CW.seq ?_
 refine CW.region ?_
 refine SL.v (.int .u32 4) ?_
 refine SL.v (iv 5) ?_
 refine SL.v (.int .u32 32) ?_
 refine SL.v (.int .u32 4) ?_
 refine SL.v (.int .u32 4) ?_
 refine SL.nil ?_
 refine CW.ret ?_
 repeat with_reducible first | refine PThen.ret ?_ | refine PBlock.ret ?_
 refine PRet.tmp (t := 6) (v := .int .u32 4) rfl rfl (by kernel_rfl) ?_
 exact ⟨rfl, hs_3.gr⟩
set_option maxRecDepth 100000 in
set_option maxHeartbeats 4000000 in
theorem mwith_6  (w : World) : Calls Tryz.prog 89 #[.int .u32 4, iv 6, .bool false] w fun e w' => e = .returned (.int .u32 4) ∧ Gr w w' := by
 refine calls_sx (n := 22) (args := [.int .u32 4, iv 6, .bool false]) Tryz.func89 rfl rfl rfl ?_
 have hs0 := Bk.init w
 refine CW.seq ?_
 refine CW.region ?_
 refine SL.v (.int .u32 0) ?_
 refine SL.nil ?_
 refine CW.seq ?_
 refine CW.block ?_
 refine CW.seq ?_
 refine CW.region ?_
 refine SL.v (iv 6) ?_
 refine SL.call (f := 109) (args := #[iv 6]) (w1 := w) rfl rfl (by kernel_rfl) (mis_any 6 w (by decide)) ?_
 rintro x w_1 ⟨rfl, hc_2⟩
 refine ⟨_, rfl, ?_⟩
 have hs_3 := hs0.grow hc_2
 refine SL.v (.bool false) ?_
 refine SL.v (.bool false) ?_
 refine SL.nil ?_
 refine CW.cond_false (by kernel_rfl) ?_
 refine CW.seq ?_
 refine CW.region ?_
 refine SL.v (.bool false) ?_
 refine SL.v (.bool false) ?_
 refine SL.nil ?_
 refine CW.cond_false (by kernel_rfl) ?_
 refine CW.skip ?_
 refine CW.seq ?_
 refine CW.region ?_
 refine SL.v (.int .u32 4) ?_
 refine SL.v (iv 6) ?_
 refine SL.v (.int .u32 64) ?_
 refine SL.v (.int .u32 4) ?_
 refine SL.v (.int .u32 4) ?_
 refine SL.nil ?_
 refine CW.ret ?_
 repeat with_reducible first | refine PThen.ret ?_ | refine PBlock.ret ?_
 refine PRet.tmp (t := 6) (v := .int .u32 4) rfl rfl (by kernel_rfl) ?_
 exact ⟨rfl, hs_3.gr⟩
set_option maxRecDepth 100000 in
set_option maxHeartbeats 4000000 in
theorem mwith_7  (w : World) : Calls Tryz.prog 89 #[.int .u32 4, iv 7, .bool true] w fun e w' => e = .returned (.int .u32 132) ∧ Gr w w' := by
 refine calls_sx (n := 22) (args := [.int .u32 4, iv 7, .bool true]) Tryz.func89 rfl rfl rfl ?_
 have hs0 := Bk.init w
 refine CW.seq ?_
 refine CW.region ?_
 refine SL.v (.int .u32 0) ?_
 refine SL.nil ?_
 refine CW.seq ?_
 refine CW.block ?_
 refine CW.seq ?_
 refine CW.region ?_
 refine SL.v (iv 7) ?_
 refine SL.call (f := 109) (args := #[iv 7]) (w1 := w) rfl rfl (by kernel_rfl) (mis_any 7 w (by decide)) ?_
 rintro x w_1 ⟨rfl, hc_2⟩
 refine ⟨_, rfl, ?_⟩
 have hs_3 := hs0.grow hc_2
 refine SL.v (.bool false) ?_
 refine SL.v (.bool false) ?_
 refine SL.nil ?_
 refine CW.cond_false (by kernel_rfl) ?_
 refine CW.seq ?_
 refine CW.region ?_
 refine SL.v (.bool true) ?_
 refine SL.v (.bool true) ?_
 refine SL.nil ?_
 refine CW.cond_true (by kernel_rfl) ?_
 refine CW.seq ?_
 refine CW.region ?_
 refine SL.v (.int .u32 4) ?_
 refine SL.v (iv 7) ?_
 refine SL.v (.int .u32 128) ?_
 refine SL.v (.int .u32 132) ?_
 refine SL.v (.int .u32 132) ?_
 refine SL.nil ?_
 refine CW.ret ?_
 repeat with_reducible first | refine PThen.ret ?_ | refine PBlock.ret ?_
 refine PRet.tmp (t := 6) (v := .int .u32 132) rfl rfl (by kernel_rfl) ?_
 exact ⟨rfl, hs_3.gr⟩
set_option maxRecDepth 100000 in
set_option maxHeartbeats 4000000 in
theorem mwith_8  (w : World) : Calls Tryz.prog 89 #[.int .u32 132, iv 8, .bool true] w fun e w' => e = .returned (.int .u32 388) ∧ Gr w w' := by
 refine calls_sx (n := 22) (args := [.int .u32 132, iv 8, .bool true]) Tryz.func89 rfl rfl rfl ?_
 have hs0 := Bk.init w
 refine CW.seq ?_
 refine CW.region ?_
 refine SL.v (.int .u32 0) ?_
 refine SL.nil ?_
 refine CW.seq ?_
 refine CW.block ?_
 refine CW.seq ?_
 refine CW.region ?_
 refine SL.v (iv 8) ?_
 refine SL.call (f := 109) (args := #[iv 8]) (w1 := w) rfl rfl (by kernel_rfl) (mis_any 8 w (by decide)) ?_
 rintro x w_1 ⟨rfl, hc_2⟩
 refine ⟨_, rfl, ?_⟩
 have hs_3 := hs0.grow hc_2
 refine SL.v (.bool false) ?_
 refine SL.v (.bool false) ?_
 refine SL.nil ?_
 refine CW.cond_false (by kernel_rfl) ?_
 refine CW.seq ?_
 refine CW.region ?_
 refine SL.v (.bool true) ?_
 refine SL.v (.bool true) ?_
 refine SL.nil ?_
 refine CW.cond_true (by kernel_rfl) ?_
 refine CW.seq ?_
 refine CW.region ?_
 refine SL.v (.int .u32 132) ?_
 refine SL.v (iv 8) ?_
 refine SL.v (.int .u32 256) ?_
 refine SL.v (.int .u32 388) ?_
 refine SL.v (.int .u32 388) ?_
 refine SL.nil ?_
 refine CW.ret ?_
 repeat with_reducible first | refine PThen.ret ?_ | refine PBlock.ret ?_
 refine PRet.tmp (t := 6) (v := .int .u32 388) rfl rfl (by kernel_rfl) ?_
 exact ⟨rfl, hs_3.gr⟩
set_option maxRecDepth 100000 in
set_option maxHeartbeats 4000000 in
theorem mwith_9  (w : World) : Calls Tryz.prog 89 #[.int .u32 388, iv 9, .bool true] w fun e w' => e = .returned (.int .u32 900) ∧ Gr w w' := by
 refine calls_sx (n := 22) (args := [.int .u32 388, iv 9, .bool true]) Tryz.func89 rfl rfl rfl ?_
 have hs0 := Bk.init w
 refine CW.seq ?_
 refine CW.region ?_
 refine SL.v (.int .u32 0) ?_
 refine SL.nil ?_
 refine CW.seq ?_
 refine CW.block ?_
 refine CW.seq ?_
 refine CW.region ?_
 refine SL.v (iv 9) ?_
 refine SL.call (f := 109) (args := #[iv 9]) (w1 := w) rfl rfl (by kernel_rfl) (mis_any 9 w (by decide)) ?_
 rintro x w_1 ⟨rfl, hc_2⟩
 refine ⟨_, rfl, ?_⟩
 have hs_3 := hs0.grow hc_2
 refine SL.v (.bool false) ?_
 refine SL.v (.bool false) ?_
 refine SL.nil ?_
 refine CW.cond_false (by kernel_rfl) ?_
 refine CW.seq ?_
 refine CW.region ?_
 refine SL.v (.bool true) ?_
 refine SL.v (.bool true) ?_
 refine SL.nil ?_
 refine CW.cond_true (by kernel_rfl) ?_
 refine CW.seq ?_
 refine CW.region ?_
 refine SL.v (.int .u32 388) ?_
 refine SL.v (iv 9) ?_
 refine SL.v (.int .u32 512) ?_
 refine SL.v (.int .u32 900) ?_
 refine SL.v (.int .u32 900) ?_
 refine SL.nil ?_
 refine CW.ret ?_
 repeat with_reducible first | refine PThen.ret ?_ | refine PBlock.ret ?_
 refine PRet.tmp (t := 6) (v := .int .u32 900) rfl rfl (by kernel_rfl) ?_
 exact ⟨rfl, hs_3.gr⟩
set_option maxRecDepth 100000 in
set_option maxHeartbeats 4000000 in
theorem mwith_10  (w : World) : Calls Tryz.prog 89 #[.int .u32 900, iv 10, .bool false] w fun e w' => e = .returned (.int .u32 900) ∧ Gr w w' := by
 refine calls_sx (n := 22) (args := [.int .u32 900, iv 10, .bool false]) Tryz.func89 rfl rfl rfl ?_
 have hs0 := Bk.init w
 refine CW.seq ?_
 refine CW.region ?_
 refine SL.v (.int .u32 0) ?_
 refine SL.nil ?_
 refine CW.seq ?_
 refine CW.block ?_
 refine CW.seq ?_
 refine CW.region ?_
 refine SL.v (iv 10) ?_
 refine SL.call (f := 109) (args := #[iv 10]) (w1 := w) rfl rfl (by kernel_rfl) (mis_any 10 w (by decide)) ?_
 rintro x w_1 ⟨rfl, hc_2⟩
 refine ⟨_, rfl, ?_⟩
 have hs_3 := hs0.grow hc_2
 refine SL.v (.bool false) ?_
 refine SL.v (.bool false) ?_
 refine SL.nil ?_
 refine CW.cond_false (by kernel_rfl) ?_
 refine CW.seq ?_
 refine CW.region ?_
 refine SL.v (.bool false) ?_
 refine SL.v (.bool false) ?_
 refine SL.nil ?_
 refine CW.cond_false (by kernel_rfl) ?_
 refine CW.skip ?_
 refine CW.seq ?_
 refine CW.region ?_
 refine SL.v (.int .u32 900) ?_
 refine SL.v (iv 10) ?_
 refine SL.v (.int .u32 1024) ?_
 refine SL.v (.int .u32 900) ?_
 refine SL.v (.int .u32 900) ?_
 refine SL.nil ?_
 refine CW.ret ?_
 repeat with_reducible first | refine PThen.ret ?_ | refine PBlock.ret ?_
 refine PRet.tmp (t := 6) (v := .int .u32 900) rfl rfl (by kernel_rfl) ?_
 exact ⟨rfl, hs_3.gr⟩
set_option maxRecDepth 100000 in
set_option maxHeartbeats 4000000 in
theorem mwith_11  (w : World) : Calls Tryz.prog 89 #[.int .u32 900, iv 11, .bool true] w fun e w' => e = .returned (.int .u32 2948) ∧ Gr w w' := by
 refine calls_sx (n := 22) (args := [.int .u32 900, iv 11, .bool true]) Tryz.func89 rfl rfl rfl ?_
 have hs0 := Bk.init w
 refine CW.seq ?_
 refine CW.region ?_
 refine SL.v (.int .u32 0) ?_
 refine SL.nil ?_
 refine CW.seq ?_
 refine CW.block ?_
 refine CW.seq ?_
 refine CW.region ?_
 refine SL.v (iv 11) ?_
 refine SL.call (f := 109) (args := #[iv 11]) (w1 := w) rfl rfl (by kernel_rfl) (mis_any 11 w (by decide)) ?_
 rintro x w_1 ⟨rfl, hc_2⟩
 refine ⟨_, rfl, ?_⟩
 have hs_3 := hs0.grow hc_2
 refine SL.v (.bool false) ?_
 refine SL.v (.bool false) ?_
 refine SL.nil ?_
 refine CW.cond_false (by kernel_rfl) ?_
 refine CW.seq ?_
 refine CW.region ?_
 refine SL.v (.bool true) ?_
 refine SL.v (.bool true) ?_
 refine SL.nil ?_
 refine CW.cond_true (by kernel_rfl) ?_
 refine CW.seq ?_
 refine CW.region ?_
 refine SL.v (.int .u32 900) ?_
 refine SL.v (iv 11) ?_
 refine SL.v (.int .u32 2048) ?_
 refine SL.v (.int .u32 2948) ?_
 refine SL.v (.int .u32 2948) ?_
 refine SL.nil ?_
 refine CW.ret ?_
 repeat with_reducible first | refine PThen.ret ?_ | refine PBlock.ret ?_
 refine PRet.tmp (t := 6) (v := .int .u32 2948) rfl rfl (by kernel_rfl) ?_
 exact ⟨rfl, hs_3.gr⟩
set_option maxRecDepth 100000 in
set_option maxHeartbeats 4000000 in
theorem mwith_12  (w : World) : Calls Tryz.prog 89 #[.int .u32 2948, iv 12, .bool false] w fun e w' => e = .returned (.int .u32 2948) ∧ Gr w w' := by
 refine calls_sx (n := 22) (args := [.int .u32 2948, iv 12, .bool false]) Tryz.func89 rfl rfl rfl ?_
 have hs0 := Bk.init w
 refine CW.seq ?_
 refine CW.region ?_
 refine SL.v (.int .u32 0) ?_
 refine SL.nil ?_
 refine CW.seq ?_
 refine CW.block ?_
 refine CW.seq ?_
 refine CW.region ?_
 refine SL.v (iv 12) ?_
 refine SL.call (f := 109) (args := #[iv 12]) (w1 := w) rfl rfl (by kernel_rfl) (mis_any 12 w (by decide)) ?_
 rintro x w_1 ⟨rfl, hc_2⟩
 refine ⟨_, rfl, ?_⟩
 have hs_3 := hs0.grow hc_2
 refine SL.v (.bool false) ?_
 refine SL.v (.bool false) ?_
 refine SL.nil ?_
 refine CW.cond_false (by kernel_rfl) ?_
 refine CW.seq ?_
 refine CW.region ?_
 refine SL.v (.bool false) ?_
 refine SL.v (.bool false) ?_
 refine SL.nil ?_
 refine CW.cond_false (by kernel_rfl) ?_
 refine CW.skip ?_
 refine CW.seq ?_
 refine CW.region ?_
 refine SL.v (.int .u32 2948) ?_
 refine SL.v (iv 12) ?_
 refine SL.v (.int .u32 4096) ?_
 refine SL.v (.int .u32 2948) ?_
 refine SL.v (.int .u32 2948) ?_
 refine SL.nil ?_
 refine CW.ret ?_
 repeat with_reducible first | refine PThen.ret ?_ | refine PBlock.ret ?_
 refine PRet.tmp (t := 6) (v := .int .u32 2948) rfl rfl (by kernel_rfl) ?_
 exact ⟨rfl, hs_3.gr⟩
set_option maxRecDepth 100000 in
set_option maxHeartbeats 4000000 in
theorem mwith_13  (w : World) : Calls Tryz.prog 89 #[.int .u32 2948, iv 13, .bool false] w fun e w' => e = .returned (.int .u32 2948) ∧ Gr w w' := by
 refine calls_sx (n := 22) (args := [.int .u32 2948, iv 13, .bool false]) Tryz.func89 rfl rfl rfl ?_
 have hs0 := Bk.init w
 refine CW.seq ?_
 refine CW.region ?_
 refine SL.v (.int .u32 0) ?_
 refine SL.nil ?_
 refine CW.seq ?_
 refine CW.block ?_
 refine CW.seq ?_
 refine CW.region ?_
 refine SL.v (iv 13) ?_
 refine SL.call (f := 109) (args := #[iv 13]) (w1 := w) rfl rfl (by kernel_rfl) (mis_any 13 w (by decide)) ?_
 rintro x w_1 ⟨rfl, hc_2⟩
 refine ⟨_, rfl, ?_⟩
 have hs_3 := hs0.grow hc_2
 refine SL.v (.bool false) ?_
 refine SL.v (.bool false) ?_
 refine SL.nil ?_
 refine CW.cond_false (by kernel_rfl) ?_
 refine CW.seq ?_
 refine CW.region ?_
 refine SL.v (.bool false) ?_
 refine SL.v (.bool false) ?_
 refine SL.nil ?_
 refine CW.cond_false (by kernel_rfl) ?_
 refine CW.skip ?_
 refine CW.seq ?_
 refine CW.region ?_
 refine SL.v (.int .u32 2948) ?_
 refine SL.v (iv 13) ?_
 refine SL.v (.int .u32 8192) ?_
 refine SL.v (.int .u32 2948) ?_
 refine SL.v (.int .u32 2948) ?_
 refine SL.nil ?_
 refine CW.ret ?_
 repeat with_reducible first | refine PThen.ret ?_ | refine PBlock.ret ?_
 refine PRet.tmp (t := 6) (v := .int .u32 2948) rfl rfl (by kernel_rfl) ?_
 exact ⟨rfl, hs_3.gr⟩
set_option maxRecDepth 100000 in
set_option maxHeartbeats 4000000 in
theorem mwith_14  (w : World) : Calls Tryz.prog 89 #[.int .u32 2948, iv 14, .bool false] w fun e w' => e = .returned (.int .u32 2948) ∧ Gr w w' := by
 refine calls_sx (n := 22) (args := [.int .u32 2948, iv 14, .bool false]) Tryz.func89 rfl rfl rfl ?_
 have hs0 := Bk.init w
 refine CW.seq ?_
 refine CW.region ?_
 refine SL.v (.int .u32 0) ?_
 refine SL.nil ?_
 refine CW.seq ?_
 refine CW.block ?_
 refine CW.seq ?_
 refine CW.region ?_
 refine SL.v (iv 14) ?_
 refine SL.call (f := 109) (args := #[iv 14]) (w1 := w) rfl rfl (by kernel_rfl) (mis_any 14 w (by decide)) ?_
 rintro x w_1 ⟨rfl, hc_2⟩
 refine ⟨_, rfl, ?_⟩
 have hs_3 := hs0.grow hc_2
 refine SL.v (.bool false) ?_
 refine SL.v (.bool false) ?_
 refine SL.nil ?_
 refine CW.cond_false (by kernel_rfl) ?_
 refine CW.seq ?_
 refine CW.region ?_
 refine SL.v (.bool false) ?_
 refine SL.v (.bool false) ?_
 refine SL.nil ?_
 refine CW.cond_false (by kernel_rfl) ?_
 refine CW.skip ?_
 refine CW.seq ?_
 refine CW.region ?_
 refine SL.v (.int .u32 2948) ?_
 refine SL.v (iv 14) ?_
 refine SL.v (.int .u32 16384) ?_
 refine SL.v (.int .u32 2948) ?_
 refine SL.v (.int .u32 2948) ?_
 refine SL.nil ?_
 refine CW.ret ?_
 repeat with_reducible first | refine PThen.ret ?_ | refine PBlock.ret ?_
 refine PRet.tmp (t := 6) (v := .int .u32 2948) rfl rfl (by kernel_rfl) ?_
 exact ⟨rfl, hs_3.gr⟩
set_option maxRecDepth 100000 in
set_option maxHeartbeats 4000000 in
theorem mwith_15  (w : World) : Calls Tryz.prog 89 #[.int .u32 2948, iv 15, .bool false] w fun e w' => e = .returned (.int .u32 2948) ∧ Gr w w' := by
 refine calls_sx (n := 22) (args := [.int .u32 2948, iv 15, .bool false]) Tryz.func89 rfl rfl rfl ?_
 have hs0 := Bk.init w
 refine CW.seq ?_
 refine CW.region ?_
 refine SL.v (.int .u32 0) ?_
 refine SL.nil ?_
 refine CW.seq ?_
 refine CW.block ?_
 refine CW.seq ?_
 refine CW.region ?_
 refine SL.v (iv 15) ?_
 refine SL.call (f := 109) (args := #[iv 15]) (w1 := w) rfl rfl (by kernel_rfl) (mis_any 15 w (by decide)) ?_
 rintro x w_1 ⟨rfl, hc_2⟩
 refine ⟨_, rfl, ?_⟩
 have hs_3 := hs0.grow hc_2
 refine SL.v (.bool false) ?_
 refine SL.v (.bool false) ?_
 refine SL.nil ?_
 refine CW.cond_false (by kernel_rfl) ?_
 refine CW.seq ?_
 refine CW.region ?_
 refine SL.v (.bool false) ?_
 refine SL.v (.bool false) ?_
 refine SL.nil ?_
 refine CW.cond_false (by kernel_rfl) ?_
 refine CW.skip ?_
 refine CW.seq ?_
 refine CW.region ?_
 refine SL.v (.int .u32 2948) ?_
 refine SL.v (iv 15) ?_
 refine SL.v (.int .u32 32768) ?_
 refine SL.v (.int .u32 2948) ?_
 refine SL.v (.int .u32 2948) ?_
 refine SL.nil ?_
 refine CW.ret ?_
 repeat with_reducible first | refine PThen.ret ?_ | refine PBlock.ret ?_
 refine PRet.tmp (t := 6) (v := .int .u32 2948) rfl rfl (by kernel_rfl) ?_
 exact ⟨rfl, hs_3.gr⟩
set_option maxRecDepth 100000 in
set_option maxHeartbeats 4000000 in
theorem mwith_16  (w : World) : Calls Tryz.prog 89 #[.int .u32 2948, iv 16, .bool false] w fun e w' => e = .returned (.int .u32 2948) ∧ Gr w w' := by
 refine calls_sx (n := 22) (args := [.int .u32 2948, iv 16, .bool false]) Tryz.func89 rfl rfl rfl ?_
 have hs0 := Bk.init w
 refine CW.seq ?_
 refine CW.region ?_
 refine SL.v (.int .u32 0) ?_
 refine SL.nil ?_
 refine CW.seq ?_
 refine CW.block ?_
 refine CW.seq ?_
 refine CW.region ?_
 refine SL.v (iv 16) ?_
 refine SL.call (f := 109) (args := #[iv 16]) (w1 := w) rfl rfl (by kernel_rfl) (mis_any 16 w (by decide)) ?_
 rintro x w_1 ⟨rfl, hc_2⟩
 refine ⟨_, rfl, ?_⟩
 have hs_3 := hs0.grow hc_2
 refine SL.v (.bool false) ?_
 refine SL.v (.bool false) ?_
 refine SL.nil ?_
 refine CW.cond_false (by kernel_rfl) ?_
 refine CW.seq ?_
 refine CW.region ?_
 refine SL.v (.bool false) ?_
 refine SL.v (.bool false) ?_
 refine SL.nil ?_
 refine CW.cond_false (by kernel_rfl) ?_
 refine CW.skip ?_
 refine CW.seq ?_
 refine CW.region ?_
 refine SL.v (.int .u32 2948) ?_
 refine SL.v (iv 16) ?_
 refine SL.v (.int .u32 65536) ?_
 refine SL.v (.int .u32 2948) ?_
 refine SL.v (.int .u32 2948) ?_
 refine SL.nil ?_
 refine CW.ret ?_
 repeat with_reducible first | refine PThen.ret ?_ | refine PBlock.ret ?_
 refine PRet.tmp (t := 6) (v := .int .u32 2948) rfl rfl (by kernel_rfl) ?_
 exact ⟨rfl, hs_3.gr⟩
abbrev qStD_0  : Array Value := #[.bool false, iv 0, iv 0, .bool false]
set_option maxRecDepth 100000 in
set_option maxHeartbeats 4000000 in
theorem mbegin_any  (w : World) : Calls Tryz.prog 52 #[] w fun e w' => e = .returned (.int .u32 2948) ∧ Gr w w' := by
 refine calls_sx (n := 16) (args := []) Tryz.func52 rfl rfl rfl ?_
 have hs0 := Bk.init w
 refine CW.seq ?_
 refine CW.region ?_
 refine SL.v (.int .u32 0) ?_
 refine SL.nil ?_
 refine CW.seq ?_
 refine CW.region ?_
 refine SL.v (.int .u32 0) ?_
 refine SL.nil ?_
 refine CW.seq ?_
 refine CW.seq ?_
 refine CW.region ?_
 refine SL.call (f := 88) (args := #[]) (w1 := w) rfl rfl (by kernel_rfl) (mrows_any w) ?_
 rintro x w_1 ⟨rfl, hc_2⟩
 refine ⟨_, rfl, ?_⟩
 have hs_3 := hs0.grow hc_2
 refine SL.v (iv 0) ?_
 refine SL.nil ?_
 refine CW.block ?_
 refine CW.loopN 18 ?_
 refine CR.more ?_
 refine CW.seq ?_
 refine CW.region ?_
 refine SL.v (.bool true) ?_
 refine SL.nil ?_
 refine CW.seq ?_
 refine CW.cond_true (by kernel_rfl) ?_
 refine CW.skip ?_
 refine CW.seq ?_
 refine CW.block ?_
 refine CW.seq ?_
 refine CW.region ?_
 refine SL.v (iv 0) ?_
 refine SL.v (.agg #[.bool false, iv 2, iv 1, .bool false]) ?_
 refine SL.new (mk := fun g => pv g 0) (C := (qStD_0)) (T := 147) hs_3 rfl rfl (by kernel_rfl) (fun g_4 w_5 hs_6 => ?_)
 have hs_6 : Bk w w_5 [(g_4, .cells (qStD_0) 147 (0, 0))] := hs_6
 refine SL.v (iv 0) ?_
 refine SL.store (i := 0) (g := g_4) (off := 0) (v := .agg #[.bool false, iv 2, iv 1, .bool false]) (L' := [(g_4, .cells #[.bool false, iv 2, iv 1, .bool false] 147 (0, 0))]) hs_6 rfl rfl rfl (by kernel_rfl) (by kernel_rfl) rfl (by kernel_rfl) (by kernel_rfl) rfl (by kernel_rfl) rfl (fun w_7 hs_8 => ?_)
 refine SL.nil ?_
 refine CW.region ?_
 refine SL.v (.int .u32 0) ?_
 refine SL.v (iv 0) ?_
 refine SL.v (pv g_4 3) ?_
 refine SL.load (g := g_4) (off := 3) (v := .bool false) rfl rfl rfl (by kernel_rfl) (hs_8.all 0 g_4 _ rfl) (by kernel_rfl) ?_
 refine SL.call (f := 89) (args := #[.int .u32 0, iv 0, .bool false]) (w1 := w_7) rfl rfl (by kernel_rfl) (mwith_0 w_7) ?_
 rintro x w_9 ⟨rfl, hc_10⟩
 refine ⟨_, rfl, ?_⟩
 have hs_11 := hs_8.grow hc_10
 refine SL.v (.int .u32 0) ?_
 refine SL.nil ?_
 refine CW.region ?_
 refine SL.v (iv 1) ?_
 refine SL.v (iv 1) ?_
 refine SL.nil ?_
 have hs_12 : Bk w w_9 [] := hs_11.erase 0
 refine CR.fresh (fun e9 => e9 0 = .int .u32 0 ∧ e9 1 = .int .u32 0 ∧ e9 4 = modeRows ∧ e9 5 = iv 1) ⟨(by kernel_rfl), (by kernel_rfl), (by kernel_rfl), (by kernel_rfl)⟩ ?_
 rintro e_13 ⟨hv_15, hv_16, hv_17, hv_18⟩
 obtain ⟨e_14, rfl⟩ : ∃ e_14, e_13 = put1 (put1 (put1 (put1 e_14 0 (.int .u32 0)) 1 (.int .u32 0)) 4 (modeRows)) 5 (iv 1) := ⟨e_13, (put_self hv_18).trans (congrArg (fun z => put1 z 5 (iv 1)) ((put_self hv_17).trans (congrArg (fun z => put1 z 4 (modeRows)) ((put_self hv_16).trans (congrArg (fun z => put1 z 1 (.int .u32 0)) (put_self hv_15))))))⟩
 clear hv_15 hv_16 hv_17 hv_18
 refine CR.more ?_
 refine CW.seq ?_
 refine CW.region ?_
 refine SL.v (.bool true) ?_
 refine SL.nil ?_
 refine CW.seq ?_
 refine CW.cond_true (by kernel_rfl) ?_
 refine CW.skip ?_
 refine CW.seq ?_
 refine CW.block ?_
 refine CW.seq ?_
 refine CW.region ?_
 refine SL.v (iv 1) ?_
 refine SL.v (.agg #[.bool false, iv 4, iv 1, .bool false]) ?_
 refine SL.new (mk := fun g => pv g 0) (C := (qStD_0)) (T := 147) hs_12 rfl rfl (by kernel_rfl) (fun g_19 w_20 hs_21 => ?_)
 have hs_21 : Bk w w_20 [(g_19, .cells (qStD_0) 147 (0, 0))] := hs_21
 refine SL.v (iv 1) ?_
 refine SL.store (i := 0) (g := g_19) (off := 0) (v := .agg #[.bool false, iv 4, iv 1, .bool false]) (L' := [(g_19, .cells #[.bool false, iv 4, iv 1, .bool false] 147 (0, 0))]) hs_21 rfl rfl rfl (by kernel_rfl) (by kernel_rfl) rfl (by kernel_rfl) (by kernel_rfl) rfl (by kernel_rfl) rfl (fun w_22 hs_23 => ?_)
 refine SL.nil ?_
 refine CW.region ?_
 refine SL.v (.int .u32 0) ?_
 refine SL.v (iv 1) ?_
 refine SL.v (pv g_19 3) ?_
 refine SL.load (g := g_19) (off := 3) (v := .bool false) rfl rfl rfl (by kernel_rfl) (hs_23.all 0 g_19 _ rfl) (by kernel_rfl) ?_
 refine SL.call (f := 89) (args := #[.int .u32 0, iv 1, .bool false]) (w1 := w_22) rfl rfl (by kernel_rfl) (mwith_1 w_22) ?_
 rintro x w_24 ⟨rfl, hc_25⟩
 refine ⟨_, rfl, ?_⟩
 have hs_26 := hs_23.grow hc_25
 refine SL.v (.int .u32 0) ?_
 refine SL.nil ?_
 refine CW.region ?_
 refine SL.v (iv 2) ?_
 refine SL.v (iv 2) ?_
 refine SL.nil ?_
 have hs_27 : Bk w w_24 [] := hs_26.erase 0
 refine CR.fresh (fun e9 => e9 0 = .int .u32 0 ∧ e9 1 = .int .u32 0 ∧ e9 4 = modeRows ∧ e9 5 = iv 2) ⟨(by kernel_rfl), (by kernel_rfl), (by kernel_rfl), (by kernel_rfl)⟩ ?_
 rintro e_28 ⟨hv_30, hv_31, hv_32, hv_33⟩
 obtain ⟨e_29, rfl⟩ : ∃ e_29, e_28 = put1 (put1 (put1 (put1 e_29 0 (.int .u32 0)) 1 (.int .u32 0)) 4 (modeRows)) 5 (iv 2) := ⟨e_28, (put_self hv_33).trans (congrArg (fun z => put1 z 5 (iv 2)) ((put_self hv_32).trans (congrArg (fun z => put1 z 4 (modeRows)) ((put_self hv_31).trans (congrArg (fun z => put1 z 1 (.int .u32 0)) (put_self hv_30))))))⟩
 clear hv_30 hv_31 hv_32 hv_33
 refine CR.more ?_
 refine CW.seq ?_
 refine CW.region ?_
 refine SL.v (.bool true) ?_
 refine SL.nil ?_
 refine CW.seq ?_
 refine CW.cond_true (by kernel_rfl) ?_
 refine CW.skip ?_
 refine CW.seq ?_
 refine CW.block ?_
 refine CW.seq ?_
 refine CW.region ?_
 refine SL.v (iv 2) ?_
 refine SL.v (.agg #[.bool false, iv 12, iv 1, .bool true]) ?_
 refine SL.new (mk := fun g => pv g 0) (C := (qStD_0)) (T := 147) hs_27 rfl rfl (by kernel_rfl) (fun g_34 w_35 hs_36 => ?_)
 have hs_36 : Bk w w_35 [(g_34, .cells (qStD_0) 147 (0, 0))] := hs_36
 refine SL.v (iv 2) ?_
 refine SL.store (i := 0) (g := g_34) (off := 0) (v := .agg #[.bool false, iv 12, iv 1, .bool true]) (L' := [(g_34, .cells #[.bool false, iv 12, iv 1, .bool true] 147 (0, 0))]) hs_36 rfl rfl rfl (by kernel_rfl) (by kernel_rfl) rfl (by kernel_rfl) (by kernel_rfl) rfl (by kernel_rfl) rfl (fun w_37 hs_38 => ?_)
 refine SL.nil ?_
 refine CW.region ?_
 refine SL.v (.int .u32 0) ?_
 refine SL.v (iv 2) ?_
 refine SL.v (pv g_34 3) ?_
 refine SL.load (g := g_34) (off := 3) (v := .bool true) rfl rfl rfl (by kernel_rfl) (hs_38.all 0 g_34 _ rfl) (by kernel_rfl) ?_
 refine SL.call (f := 89) (args := #[.int .u32 0, iv 2, .bool true]) (w1 := w_37) rfl rfl (by kernel_rfl) (mwith_2 w_37) ?_
 rintro x w_39 ⟨rfl, hc_40⟩
 refine ⟨_, rfl, ?_⟩
 have hs_41 := hs_38.grow hc_40
 refine SL.v (.int .u32 4) ?_
 refine SL.nil ?_
 refine CW.region ?_
 refine SL.v (iv 3) ?_
 refine SL.v (iv 3) ?_
 refine SL.nil ?_
 have hs_42 : Bk w w_39 [] := hs_41.erase 0
 refine CR.fresh (fun e9 => e9 0 = .int .u32 0 ∧ e9 1 = .int .u32 4 ∧ e9 4 = modeRows ∧ e9 5 = iv 3) ⟨(by kernel_rfl), (by kernel_rfl), (by kernel_rfl), (by kernel_rfl)⟩ ?_
 rintro e_43 ⟨hv_45, hv_46, hv_47, hv_48⟩
 obtain ⟨e_44, rfl⟩ : ∃ e_44, e_43 = put1 (put1 (put1 (put1 e_44 0 (.int .u32 0)) 1 (.int .u32 4)) 4 (modeRows)) 5 (iv 3) := ⟨e_43, (put_self hv_48).trans (congrArg (fun z => put1 z 5 (iv 3)) ((put_self hv_47).trans (congrArg (fun z => put1 z 4 (modeRows)) ((put_self hv_46).trans (congrArg (fun z => put1 z 1 (.int .u32 4)) (put_self hv_45))))))⟩
 clear hv_45 hv_46 hv_47 hv_48
 refine CR.more ?_
 refine CW.seq ?_
 refine CW.region ?_
 refine SL.v (.bool true) ?_
 refine SL.nil ?_
 refine CW.seq ?_
 refine CW.cond_true (by kernel_rfl) ?_
 refine CW.skip ?_
 refine CW.seq ?_
 refine CW.block ?_
 refine CW.seq ?_
 refine CW.region ?_
 refine SL.v (iv 3) ?_
 refine SL.v (.agg #[.bool false, iv 20, iv 1, .bool false]) ?_
 refine SL.new (mk := fun g => pv g 0) (C := (qStD_0)) (T := 147) hs_42 rfl rfl (by kernel_rfl) (fun g_49 w_50 hs_51 => ?_)
 have hs_51 : Bk w w_50 [(g_49, .cells (qStD_0) 147 (0, 0))] := hs_51
 refine SL.v (iv 3) ?_
 refine SL.store (i := 0) (g := g_49) (off := 0) (v := .agg #[.bool false, iv 20, iv 1, .bool false]) (L' := [(g_49, .cells #[.bool false, iv 20, iv 1, .bool false] 147 (0, 0))]) hs_51 rfl rfl rfl (by kernel_rfl) (by kernel_rfl) rfl (by kernel_rfl) (by kernel_rfl) rfl (by kernel_rfl) rfl (fun w_52 hs_53 => ?_)
 refine SL.nil ?_
 refine CW.region ?_
 refine SL.v (.int .u32 4) ?_
 refine SL.v (iv 3) ?_
 refine SL.v (pv g_49 3) ?_
 refine SL.load (g := g_49) (off := 3) (v := .bool false) rfl rfl rfl (by kernel_rfl) (hs_53.all 0 g_49 _ rfl) (by kernel_rfl) ?_
 refine SL.call (f := 89) (args := #[.int .u32 4, iv 3, .bool false]) (w1 := w_52) rfl rfl (by kernel_rfl) (mwith_3 w_52) ?_
 rintro x w_54 ⟨rfl, hc_55⟩
 refine ⟨_, rfl, ?_⟩
 have hs_56 := hs_53.grow hc_55
 refine SL.v (.int .u32 4) ?_
 refine SL.nil ?_
 refine CW.region ?_
 refine SL.v (iv 4) ?_
 refine SL.v (iv 4) ?_
 refine SL.nil ?_
 have hs_57 : Bk w w_54 [] := hs_56.erase 0
 refine CR.fresh (fun e9 => e9 0 = .int .u32 0 ∧ e9 1 = .int .u32 4 ∧ e9 4 = modeRows ∧ e9 5 = iv 4) ⟨(by kernel_rfl), (by kernel_rfl), (by kernel_rfl), (by kernel_rfl)⟩ ?_
 rintro e_58 ⟨hv_60, hv_61, hv_62, hv_63⟩
 obtain ⟨e_59, rfl⟩ : ∃ e_59, e_58 = put1 (put1 (put1 (put1 e_59 0 (.int .u32 0)) 1 (.int .u32 4)) 4 (modeRows)) 5 (iv 4) := ⟨e_58, (put_self hv_63).trans (congrArg (fun z => put1 z 5 (iv 4)) ((put_self hv_62).trans (congrArg (fun z => put1 z 4 (modeRows)) ((put_self hv_61).trans (congrArg (fun z => put1 z 1 (.int .u32 4)) (put_self hv_60))))))⟩
 clear hv_60 hv_61 hv_62 hv_63
 refine CR.more ?_
 refine CW.seq ?_
 refine CW.region ?_
 refine SL.v (.bool true) ?_
 refine SL.nil ?_
 refine CW.seq ?_
 refine CW.cond_true (by kernel_rfl) ?_
 refine CW.skip ?_
 refine CW.seq ?_
 refine CW.block ?_
 refine CW.seq ?_
 refine CW.region ?_
 refine SL.v (iv 4) ?_
 refine SL.v (.agg #[.bool true, iv 1, iv 1, .bool false]) ?_
 refine SL.new (mk := fun g => pv g 0) (C := (qStD_0)) (T := 147) hs_57 rfl rfl (by kernel_rfl) (fun g_64 w_65 hs_66 => ?_)
 have hs_66 : Bk w w_65 [(g_64, .cells (qStD_0) 147 (0, 0))] := hs_66
 refine SL.v (iv 4) ?_
 refine SL.store (i := 0) (g := g_64) (off := 0) (v := .agg #[.bool true, iv 1, iv 1, .bool false]) (L' := [(g_64, .cells #[.bool true, iv 1, iv 1, .bool false] 147 (0, 0))]) hs_66 rfl rfl rfl (by kernel_rfl) (by kernel_rfl) rfl (by kernel_rfl) (by kernel_rfl) rfl (by kernel_rfl) rfl (fun w_67 hs_68 => ?_)
 refine SL.nil ?_
 refine CW.region ?_
 refine SL.v (.int .u32 4) ?_
 refine SL.v (iv 4) ?_
 refine SL.v (pv g_64 3) ?_
 refine SL.load (g := g_64) (off := 3) (v := .bool false) rfl rfl rfl (by kernel_rfl) (hs_68.all 0 g_64 _ rfl) (by kernel_rfl) ?_
 refine SL.call (f := 89) (args := #[.int .u32 4, iv 4, .bool false]) (w1 := w_67) rfl rfl (by kernel_rfl) (mwith_4 w_67) ?_
 rintro x w_69 ⟨rfl, hc_70⟩
 refine ⟨_, rfl, ?_⟩
 have hs_71 := hs_68.grow hc_70
 refine SL.v (.int .u32 4) ?_
 refine SL.nil ?_
 refine CW.region ?_
 refine SL.v (iv 5) ?_
 refine SL.v (iv 5) ?_
 refine SL.nil ?_
 have hs_72 : Bk w w_69 [] := hs_71.erase 0
 refine CR.fresh (fun e9 => e9 0 = .int .u32 0 ∧ e9 1 = .int .u32 4 ∧ e9 4 = modeRows ∧ e9 5 = iv 5) ⟨(by kernel_rfl), (by kernel_rfl), (by kernel_rfl), (by kernel_rfl)⟩ ?_
 rintro e_73 ⟨hv_75, hv_76, hv_77, hv_78⟩
 obtain ⟨e_74, rfl⟩ : ∃ e_74, e_73 = put1 (put1 (put1 (put1 e_74 0 (.int .u32 0)) 1 (.int .u32 4)) 4 (modeRows)) 5 (iv 5) := ⟨e_73, (put_self hv_78).trans (congrArg (fun z => put1 z 5 (iv 5)) ((put_self hv_77).trans (congrArg (fun z => put1 z 4 (modeRows)) ((put_self hv_76).trans (congrArg (fun z => put1 z 1 (.int .u32 4)) (put_self hv_75))))))⟩
 clear hv_75 hv_76 hv_77 hv_78
 refine CR.more ?_
 refine CW.seq ?_
 refine CW.region ?_
 refine SL.v (.bool true) ?_
 refine SL.nil ?_
 refine CW.seq ?_
 refine CW.cond_true (by kernel_rfl) ?_
 refine CW.skip ?_
 refine CW.seq ?_
 refine CW.block ?_
 refine CW.seq ?_
 refine CW.region ?_
 refine SL.v (iv 5) ?_
 refine SL.v (.agg #[.bool true, iv 5, iv 1, .bool false]) ?_
 refine SL.new (mk := fun g => pv g 0) (C := (qStD_0)) (T := 147) hs_72 rfl rfl (by kernel_rfl) (fun g_79 w_80 hs_81 => ?_)
 have hs_81 : Bk w w_80 [(g_79, .cells (qStD_0) 147 (0, 0))] := hs_81
 refine SL.v (iv 5) ?_
 refine SL.store (i := 0) (g := g_79) (off := 0) (v := .agg #[.bool true, iv 5, iv 1, .bool false]) (L' := [(g_79, .cells #[.bool true, iv 5, iv 1, .bool false] 147 (0, 0))]) hs_81 rfl rfl rfl (by kernel_rfl) (by kernel_rfl) rfl (by kernel_rfl) (by kernel_rfl) rfl (by kernel_rfl) rfl (fun w_82 hs_83 => ?_)
 refine SL.nil ?_
 refine CW.region ?_
 refine SL.v (.int .u32 4) ?_
 refine SL.v (iv 5) ?_
 refine SL.v (pv g_79 3) ?_
 refine SL.load (g := g_79) (off := 3) (v := .bool false) rfl rfl rfl (by kernel_rfl) (hs_83.all 0 g_79 _ rfl) (by kernel_rfl) ?_
 refine SL.call (f := 89) (args := #[.int .u32 4, iv 5, .bool false]) (w1 := w_82) rfl rfl (by kernel_rfl) (mwith_5 w_82) ?_
 rintro x w_84 ⟨rfl, hc_85⟩
 refine ⟨_, rfl, ?_⟩
 have hs_86 := hs_83.grow hc_85
 refine SL.v (.int .u32 4) ?_
 refine SL.nil ?_
 refine CW.region ?_
 refine SL.v (iv 6) ?_
 refine SL.v (iv 6) ?_
 refine SL.nil ?_
 have hs_87 : Bk w w_84 [] := hs_86.erase 0
 refine CR.fresh (fun e9 => e9 0 = .int .u32 0 ∧ e9 1 = .int .u32 4 ∧ e9 4 = modeRows ∧ e9 5 = iv 6) ⟨(by kernel_rfl), (by kernel_rfl), (by kernel_rfl), (by kernel_rfl)⟩ ?_
 rintro e_88 ⟨hv_90, hv_91, hv_92, hv_93⟩
 obtain ⟨e_89, rfl⟩ : ∃ e_89, e_88 = put1 (put1 (put1 (put1 e_89 0 (.int .u32 0)) 1 (.int .u32 4)) 4 (modeRows)) 5 (iv 6) := ⟨e_88, (put_self hv_93).trans (congrArg (fun z => put1 z 5 (iv 6)) ((put_self hv_92).trans (congrArg (fun z => put1 z 4 (modeRows)) ((put_self hv_91).trans (congrArg (fun z => put1 z 1 (.int .u32 4)) (put_self hv_90))))))⟩
 clear hv_90 hv_91 hv_92 hv_93
 refine CR.more ?_
 refine CW.seq ?_
 refine CW.region ?_
 refine SL.v (.bool true) ?_
 refine SL.nil ?_
 refine CW.seq ?_
 refine CW.cond_true (by kernel_rfl) ?_
 refine CW.skip ?_
 refine CW.seq ?_
 refine CW.block ?_
 refine CW.seq ?_
 refine CW.region ?_
 refine SL.v (iv 6) ?_
 refine SL.v (.agg #[.bool true, iv 6, iv 1, .bool false]) ?_
 refine SL.new (mk := fun g => pv g 0) (C := (qStD_0)) (T := 147) hs_87 rfl rfl (by kernel_rfl) (fun g_94 w_95 hs_96 => ?_)
 have hs_96 : Bk w w_95 [(g_94, .cells (qStD_0) 147 (0, 0))] := hs_96
 refine SL.v (iv 6) ?_
 refine SL.store (i := 0) (g := g_94) (off := 0) (v := .agg #[.bool true, iv 6, iv 1, .bool false]) (L' := [(g_94, .cells #[.bool true, iv 6, iv 1, .bool false] 147 (0, 0))]) hs_96 rfl rfl rfl (by kernel_rfl) (by kernel_rfl) rfl (by kernel_rfl) (by kernel_rfl) rfl (by kernel_rfl) rfl (fun w_97 hs_98 => ?_)
 refine SL.nil ?_
 refine CW.region ?_
 refine SL.v (.int .u32 4) ?_
 refine SL.v (iv 6) ?_
 refine SL.v (pv g_94 3) ?_
 refine SL.load (g := g_94) (off := 3) (v := .bool false) rfl rfl rfl (by kernel_rfl) (hs_98.all 0 g_94 _ rfl) (by kernel_rfl) ?_
 refine SL.call (f := 89) (args := #[.int .u32 4, iv 6, .bool false]) (w1 := w_97) rfl rfl (by kernel_rfl) (mwith_6 w_97) ?_
 rintro x w_99 ⟨rfl, hc_100⟩
 refine ⟨_, rfl, ?_⟩
 have hs_101 := hs_98.grow hc_100
 refine SL.v (.int .u32 4) ?_
 refine SL.nil ?_
 refine CW.region ?_
 refine SL.v (iv 7) ?_
 refine SL.v (iv 7) ?_
 refine SL.nil ?_
 have hs_102 : Bk w w_99 [] := hs_101.erase 0
 refine CR.fresh (fun e9 => e9 0 = .int .u32 0 ∧ e9 1 = .int .u32 4 ∧ e9 4 = modeRows ∧ e9 5 = iv 7) ⟨(by kernel_rfl), (by kernel_rfl), (by kernel_rfl), (by kernel_rfl)⟩ ?_
 rintro e_103 ⟨hv_105, hv_106, hv_107, hv_108⟩
 obtain ⟨e_104, rfl⟩ : ∃ e_104, e_103 = put1 (put1 (put1 (put1 e_104 0 (.int .u32 0)) 1 (.int .u32 4)) 4 (modeRows)) 5 (iv 7) := ⟨e_103, (put_self hv_108).trans (congrArg (fun z => put1 z 5 (iv 7)) ((put_self hv_107).trans (congrArg (fun z => put1 z 4 (modeRows)) ((put_self hv_106).trans (congrArg (fun z => put1 z 1 (.int .u32 4)) (put_self hv_105))))))⟩
 clear hv_105 hv_106 hv_107 hv_108
 refine CR.more ?_
 refine CW.seq ?_
 refine CW.region ?_
 refine SL.v (.bool true) ?_
 refine SL.nil ?_
 refine CW.seq ?_
 refine CW.cond_true (by kernel_rfl) ?_
 refine CW.skip ?_
 refine CW.seq ?_
 refine CW.block ?_
 refine CW.seq ?_
 refine CW.region ?_
 refine SL.v (iv 7) ?_
 refine SL.v (.agg #[.bool true, iv 7, iv 1, .bool true]) ?_
 refine SL.new (mk := fun g => pv g 0) (C := (qStD_0)) (T := 147) hs_102 rfl rfl (by kernel_rfl) (fun g_109 w_110 hs_111 => ?_)
 have hs_111 : Bk w w_110 [(g_109, .cells (qStD_0) 147 (0, 0))] := hs_111
 refine SL.v (iv 7) ?_
 refine SL.store (i := 0) (g := g_109) (off := 0) (v := .agg #[.bool true, iv 7, iv 1, .bool true]) (L' := [(g_109, .cells #[.bool true, iv 7, iv 1, .bool true] 147 (0, 0))]) hs_111 rfl rfl rfl (by kernel_rfl) (by kernel_rfl) rfl (by kernel_rfl) (by kernel_rfl) rfl (by kernel_rfl) rfl (fun w_112 hs_113 => ?_)
 refine SL.nil ?_
 refine CW.region ?_
 refine SL.v (.int .u32 4) ?_
 refine SL.v (iv 7) ?_
 refine SL.v (pv g_109 3) ?_
 refine SL.load (g := g_109) (off := 3) (v := .bool true) rfl rfl rfl (by kernel_rfl) (hs_113.all 0 g_109 _ rfl) (by kernel_rfl) ?_
 refine SL.call (f := 89) (args := #[.int .u32 4, iv 7, .bool true]) (w1 := w_112) rfl rfl (by kernel_rfl) (mwith_7 w_112) ?_
 rintro x w_114 ⟨rfl, hc_115⟩
 refine ⟨_, rfl, ?_⟩
 have hs_116 := hs_113.grow hc_115
 refine SL.v (.int .u32 132) ?_
 refine SL.nil ?_
 refine CW.region ?_
 refine SL.v (iv 8) ?_
 refine SL.v (iv 8) ?_
 refine SL.nil ?_
 have hs_117 : Bk w w_114 [] := hs_116.erase 0
 refine CR.fresh (fun e9 => e9 0 = .int .u32 0 ∧ e9 1 = .int .u32 132 ∧ e9 4 = modeRows ∧ e9 5 = iv 8) ⟨(by kernel_rfl), (by kernel_rfl), (by kernel_rfl), (by kernel_rfl)⟩ ?_
 rintro e_118 ⟨hv_120, hv_121, hv_122, hv_123⟩
 obtain ⟨e_119, rfl⟩ : ∃ e_119, e_118 = put1 (put1 (put1 (put1 e_119 0 (.int .u32 0)) 1 (.int .u32 132)) 4 (modeRows)) 5 (iv 8) := ⟨e_118, (put_self hv_123).trans (congrArg (fun z => put1 z 5 (iv 8)) ((put_self hv_122).trans (congrArg (fun z => put1 z 4 (modeRows)) ((put_self hv_121).trans (congrArg (fun z => put1 z 1 (.int .u32 132)) (put_self hv_120))))))⟩
 clear hv_120 hv_121 hv_122 hv_123
 refine CR.more ?_
 refine CW.seq ?_
 refine CW.region ?_
 refine SL.v (.bool true) ?_
 refine SL.nil ?_
 refine CW.seq ?_
 refine CW.cond_true (by kernel_rfl) ?_
 refine CW.skip ?_
 refine CW.seq ?_
 refine CW.block ?_
 refine CW.seq ?_
 refine CW.region ?_
 refine SL.v (iv 8) ?_
 refine SL.v (.agg #[.bool true, iv 8, iv 1, .bool true]) ?_
 refine SL.new (mk := fun g => pv g 0) (C := (qStD_0)) (T := 147) hs_117 rfl rfl (by kernel_rfl) (fun g_124 w_125 hs_126 => ?_)
 have hs_126 : Bk w w_125 [(g_124, .cells (qStD_0) 147 (0, 0))] := hs_126
 refine SL.v (iv 8) ?_
 refine SL.store (i := 0) (g := g_124) (off := 0) (v := .agg #[.bool true, iv 8, iv 1, .bool true]) (L' := [(g_124, .cells #[.bool true, iv 8, iv 1, .bool true] 147 (0, 0))]) hs_126 rfl rfl rfl (by kernel_rfl) (by kernel_rfl) rfl (by kernel_rfl) (by kernel_rfl) rfl (by kernel_rfl) rfl (fun w_127 hs_128 => ?_)
 refine SL.nil ?_
 refine CW.region ?_
 refine SL.v (.int .u32 132) ?_
 refine SL.v (iv 8) ?_
 refine SL.v (pv g_124 3) ?_
 refine SL.load (g := g_124) (off := 3) (v := .bool true) rfl rfl rfl (by kernel_rfl) (hs_128.all 0 g_124 _ rfl) (by kernel_rfl) ?_
 refine SL.call (f := 89) (args := #[.int .u32 132, iv 8, .bool true]) (w1 := w_127) rfl rfl (by kernel_rfl) (mwith_8 w_127) ?_
 rintro x w_129 ⟨rfl, hc_130⟩
 refine ⟨_, rfl, ?_⟩
 have hs_131 := hs_128.grow hc_130
 refine SL.v (.int .u32 388) ?_
 refine SL.nil ?_
 refine CW.region ?_
 refine SL.v (iv 9) ?_
 refine SL.v (iv 9) ?_
 refine SL.nil ?_
 have hs_132 : Bk w w_129 [] := hs_131.erase 0
 refine CR.fresh (fun e9 => e9 0 = .int .u32 0 ∧ e9 1 = .int .u32 388 ∧ e9 4 = modeRows ∧ e9 5 = iv 9) ⟨(by kernel_rfl), (by kernel_rfl), (by kernel_rfl), (by kernel_rfl)⟩ ?_
 rintro e_133 ⟨hv_135, hv_136, hv_137, hv_138⟩
 obtain ⟨e_134, rfl⟩ : ∃ e_134, e_133 = put1 (put1 (put1 (put1 e_134 0 (.int .u32 0)) 1 (.int .u32 388)) 4 (modeRows)) 5 (iv 9) := ⟨e_133, (put_self hv_138).trans (congrArg (fun z => put1 z 5 (iv 9)) ((put_self hv_137).trans (congrArg (fun z => put1 z 4 (modeRows)) ((put_self hv_136).trans (congrArg (fun z => put1 z 1 (.int .u32 388)) (put_self hv_135))))))⟩
 clear hv_135 hv_136 hv_137 hv_138
 refine CR.more ?_
 refine CW.seq ?_
 refine CW.region ?_
 refine SL.v (.bool true) ?_
 refine SL.nil ?_
 refine CW.seq ?_
 refine CW.cond_true (by kernel_rfl) ?_
 refine CW.skip ?_
 refine CW.seq ?_
 refine CW.block ?_
 refine CW.seq ?_
 refine CW.region ?_
 refine SL.v (iv 9) ?_
 refine SL.v (.agg #[.bool true, iv 25, iv 2, .bool true]) ?_
 refine SL.new (mk := fun g => pv g 0) (C := (qStD_0)) (T := 147) hs_132 rfl rfl (by kernel_rfl) (fun g_139 w_140 hs_141 => ?_)
 have hs_141 : Bk w w_140 [(g_139, .cells (qStD_0) 147 (0, 0))] := hs_141
 refine SL.v (iv 9) ?_
 refine SL.store (i := 0) (g := g_139) (off := 0) (v := .agg #[.bool true, iv 25, iv 2, .bool true]) (L' := [(g_139, .cells #[.bool true, iv 25, iv 2, .bool true] 147 (0, 0))]) hs_141 rfl rfl rfl (by kernel_rfl) (by kernel_rfl) rfl (by kernel_rfl) (by kernel_rfl) rfl (by kernel_rfl) rfl (fun w_142 hs_143 => ?_)
 refine SL.nil ?_
 refine CW.region ?_
 refine SL.v (.int .u32 388) ?_
 refine SL.v (iv 9) ?_
 refine SL.v (pv g_139 3) ?_
 refine SL.load (g := g_139) (off := 3) (v := .bool true) rfl rfl rfl (by kernel_rfl) (hs_143.all 0 g_139 _ rfl) (by kernel_rfl) ?_
 refine SL.call (f := 89) (args := #[.int .u32 388, iv 9, .bool true]) (w1 := w_142) rfl rfl (by kernel_rfl) (mwith_9 w_142) ?_
 rintro x w_144 ⟨rfl, hc_145⟩
 refine ⟨_, rfl, ?_⟩
 have hs_146 := hs_143.grow hc_145
 refine SL.v (.int .u32 900) ?_
 refine SL.nil ?_
 refine CW.region ?_
 refine SL.v (iv 10) ?_
 refine SL.v (iv 10) ?_
 refine SL.nil ?_
 have hs_147 : Bk w w_144 [] := hs_146.erase 0
 refine CR.fresh (fun e9 => e9 0 = .int .u32 0 ∧ e9 1 = .int .u32 900 ∧ e9 4 = modeRows ∧ e9 5 = iv 10) ⟨(by kernel_rfl), (by kernel_rfl), (by kernel_rfl), (by kernel_rfl)⟩ ?_
 rintro e_148 ⟨hv_150, hv_151, hv_152, hv_153⟩
 obtain ⟨e_149, rfl⟩ : ∃ e_149, e_148 = put1 (put1 (put1 (put1 e_149 0 (.int .u32 0)) 1 (.int .u32 900)) 4 (modeRows)) 5 (iv 10) := ⟨e_148, (put_self hv_153).trans (congrArg (fun z => put1 z 5 (iv 10)) ((put_self hv_152).trans (congrArg (fun z => put1 z 4 (modeRows)) ((put_self hv_151).trans (congrArg (fun z => put1 z 1 (.int .u32 900)) (put_self hv_150))))))⟩
 clear hv_150 hv_151 hv_152 hv_153
 refine CR.more ?_
 refine CW.seq ?_
 refine CW.region ?_
 refine SL.v (.bool true) ?_
 refine SL.nil ?_
 refine CW.seq ?_
 refine CW.cond_true (by kernel_rfl) ?_
 refine CW.skip ?_
 refine CW.seq ?_
 refine CW.block ?_
 refine CW.seq ?_
 refine CW.region ?_
 refine SL.v (iv 10) ?_
 refine SL.v (.agg #[.bool true, iv 42, iv 2, .bool false]) ?_
 refine SL.new (mk := fun g => pv g 0) (C := (qStD_0)) (T := 147) hs_147 rfl rfl (by kernel_rfl) (fun g_154 w_155 hs_156 => ?_)
 have hs_156 : Bk w w_155 [(g_154, .cells (qStD_0) 147 (0, 0))] := hs_156
 refine SL.v (iv 10) ?_
 refine SL.store (i := 0) (g := g_154) (off := 0) (v := .agg #[.bool true, iv 42, iv 2, .bool false]) (L' := [(g_154, .cells #[.bool true, iv 42, iv 2, .bool false] 147 (0, 0))]) hs_156 rfl rfl rfl (by kernel_rfl) (by kernel_rfl) rfl (by kernel_rfl) (by kernel_rfl) rfl (by kernel_rfl) rfl (fun w_157 hs_158 => ?_)
 refine SL.nil ?_
 refine CW.region ?_
 refine SL.v (.int .u32 900) ?_
 refine SL.v (iv 10) ?_
 refine SL.v (pv g_154 3) ?_
 refine SL.load (g := g_154) (off := 3) (v := .bool false) rfl rfl rfl (by kernel_rfl) (hs_158.all 0 g_154 _ rfl) (by kernel_rfl) ?_
 refine SL.call (f := 89) (args := #[.int .u32 900, iv 10, .bool false]) (w1 := w_157) rfl rfl (by kernel_rfl) (mwith_10 w_157) ?_
 rintro x w_159 ⟨rfl, hc_160⟩
 refine ⟨_, rfl, ?_⟩
 have hs_161 := hs_158.grow hc_160
 refine SL.v (.int .u32 900) ?_
 refine SL.nil ?_
 refine CW.region ?_
 refine SL.v (iv 11) ?_
 refine SL.v (iv 11) ?_
 refine SL.nil ?_
 have hs_162 : Bk w w_159 [] := hs_161.erase 0
 refine CR.fresh (fun e9 => e9 0 = .int .u32 0 ∧ e9 1 = .int .u32 900 ∧ e9 4 = modeRows ∧ e9 5 = iv 11) ⟨(by kernel_rfl), (by kernel_rfl), (by kernel_rfl), (by kernel_rfl)⟩ ?_
 rintro e_163 ⟨hv_165, hv_166, hv_167, hv_168⟩
 obtain ⟨e_164, rfl⟩ : ∃ e_164, e_163 = put1 (put1 (put1 (put1 e_164 0 (.int .u32 0)) 1 (.int .u32 900)) 4 (modeRows)) 5 (iv 11) := ⟨e_163, (put_self hv_168).trans (congrArg (fun z => put1 z 5 (iv 11)) ((put_self hv_167).trans (congrArg (fun z => put1 z 4 (modeRows)) ((put_self hv_166).trans (congrArg (fun z => put1 z 1 (.int .u32 900)) (put_self hv_165))))))⟩
 clear hv_165 hv_166 hv_167 hv_168
 refine CR.more ?_
 refine CW.seq ?_
 refine CW.region ?_
 refine SL.v (.bool true) ?_
 refine SL.nil ?_
 refine CW.seq ?_
 refine CW.cond_true (by kernel_rfl) ?_
 refine CW.skip ?_
 refine CW.seq ?_
 refine CW.block ?_
 refine CW.seq ?_
 refine CW.region ?_
 refine SL.v (iv 11) ?_
 refine SL.v (.agg #[.bool true, iv 64, iv 3, .bool true]) ?_
 refine SL.new (mk := fun g => pv g 0) (C := (qStD_0)) (T := 147) hs_162 rfl rfl (by kernel_rfl) (fun g_169 w_170 hs_171 => ?_)
 have hs_171 : Bk w w_170 [(g_169, .cells (qStD_0) 147 (0, 0))] := hs_171
 refine SL.v (iv 11) ?_
 refine SL.store (i := 0) (g := g_169) (off := 0) (v := .agg #[.bool true, iv 64, iv 3, .bool true]) (L' := [(g_169, .cells #[.bool true, iv 64, iv 3, .bool true] 147 (0, 0))]) hs_171 rfl rfl rfl (by kernel_rfl) (by kernel_rfl) rfl (by kernel_rfl) (by kernel_rfl) rfl (by kernel_rfl) rfl (fun w_172 hs_173 => ?_)
 refine SL.nil ?_
 refine CW.region ?_
 refine SL.v (.int .u32 900) ?_
 refine SL.v (iv 11) ?_
 refine SL.v (pv g_169 3) ?_
 refine SL.load (g := g_169) (off := 3) (v := .bool true) rfl rfl rfl (by kernel_rfl) (hs_173.all 0 g_169 _ rfl) (by kernel_rfl) ?_
 refine SL.call (f := 89) (args := #[.int .u32 900, iv 11, .bool true]) (w1 := w_172) rfl rfl (by kernel_rfl) (mwith_11 w_172) ?_
 rintro x w_174 ⟨rfl, hc_175⟩
 refine ⟨_, rfl, ?_⟩
 have hs_176 := hs_173.grow hc_175
 refine SL.v (.int .u32 2948) ?_
 refine SL.nil ?_
 refine CW.region ?_
 refine SL.v (iv 12) ?_
 refine SL.v (iv 12) ?_
 refine SL.nil ?_
 have hs_177 : Bk w w_174 [] := hs_176.erase 0
 refine CR.fresh (fun e9 => e9 0 = .int .u32 0 ∧ e9 1 = .int .u32 2948 ∧ e9 4 = modeRows ∧ e9 5 = iv 12) ⟨(by kernel_rfl), (by kernel_rfl), (by kernel_rfl), (by kernel_rfl)⟩ ?_
 rintro e_178 ⟨hv_180, hv_181, hv_182, hv_183⟩
 obtain ⟨e_179, rfl⟩ : ∃ e_179, e_178 = put1 (put1 (put1 (put1 e_179 0 (.int .u32 0)) 1 (.int .u32 2948)) 4 (modeRows)) 5 (iv 12) := ⟨e_178, (put_self hv_183).trans (congrArg (fun z => put1 z 5 (iv 12)) ((put_self hv_182).trans (congrArg (fun z => put1 z 4 (modeRows)) ((put_self hv_181).trans (congrArg (fun z => put1 z 1 (.int .u32 2948)) (put_self hv_180))))))⟩
 clear hv_180 hv_181 hv_182 hv_183
 refine CR.more ?_
 refine CW.seq ?_
 refine CW.region ?_
 refine SL.v (.bool true) ?_
 refine SL.nil ?_
 refine CW.seq ?_
 refine CW.cond_true (by kernel_rfl) ?_
 refine CW.skip ?_
 refine CW.seq ?_
 refine CW.block ?_
 refine CW.seq ?_
 refine CW.region ?_
 refine SL.v (iv 12) ?_
 refine SL.v (.agg #[.bool true, iv 66, iv 3, .bool false]) ?_
 refine SL.new (mk := fun g => pv g 0) (C := (qStD_0)) (T := 147) hs_177 rfl rfl (by kernel_rfl) (fun g_184 w_185 hs_186 => ?_)
 have hs_186 : Bk w w_185 [(g_184, .cells (qStD_0) 147 (0, 0))] := hs_186
 refine SL.v (iv 12) ?_
 refine SL.store (i := 0) (g := g_184) (off := 0) (v := .agg #[.bool true, iv 66, iv 3, .bool false]) (L' := [(g_184, .cells #[.bool true, iv 66, iv 3, .bool false] 147 (0, 0))]) hs_186 rfl rfl rfl (by kernel_rfl) (by kernel_rfl) rfl (by kernel_rfl) (by kernel_rfl) rfl (by kernel_rfl) rfl (fun w_187 hs_188 => ?_)
 refine SL.nil ?_
 refine CW.region ?_
 refine SL.v (.int .u32 2948) ?_
 refine SL.v (iv 12) ?_
 refine SL.v (pv g_184 3) ?_
 refine SL.load (g := g_184) (off := 3) (v := .bool false) rfl rfl rfl (by kernel_rfl) (hs_188.all 0 g_184 _ rfl) (by kernel_rfl) ?_
 refine SL.call (f := 89) (args := #[.int .u32 2948, iv 12, .bool false]) (w1 := w_187) rfl rfl (by kernel_rfl) (mwith_12 w_187) ?_
 rintro x w_189 ⟨rfl, hc_190⟩
 refine ⟨_, rfl, ?_⟩
 have hs_191 := hs_188.grow hc_190
 refine SL.v (.int .u32 2948) ?_
 refine SL.nil ?_
 refine CW.region ?_
 refine SL.v (iv 13) ?_
 refine SL.v (iv 13) ?_
 refine SL.nil ?_
 have hs_192 : Bk w w_189 [] := hs_191.erase 0
 refine CR.fresh (fun e9 => e9 0 = .int .u32 0 ∧ e9 1 = .int .u32 2948 ∧ e9 4 = modeRows ∧ e9 5 = iv 13) ⟨(by kernel_rfl), (by kernel_rfl), (by kernel_rfl), (by kernel_rfl)⟩ ?_
 rintro e_193 ⟨hv_195, hv_196, hv_197, hv_198⟩
 obtain ⟨e_194, rfl⟩ : ∃ e_194, e_193 = put1 (put1 (put1 (put1 e_194 0 (.int .u32 0)) 1 (.int .u32 2948)) 4 (modeRows)) 5 (iv 13) := ⟨e_193, (put_self hv_198).trans (congrArg (fun z => put1 z 5 (iv 13)) ((put_self hv_197).trans (congrArg (fun z => put1 z 4 (modeRows)) ((put_self hv_196).trans (congrArg (fun z => put1 z 1 (.int .u32 2948)) (put_self hv_195))))))⟩
 clear hv_195 hv_196 hv_197 hv_198
 refine CR.more ?_
 refine CW.seq ?_
 refine CW.region ?_
 refine SL.v (.bool true) ?_
 refine SL.nil ?_
 refine CW.seq ?_
 refine CW.cond_true (by kernel_rfl) ?_
 refine CW.skip ?_
 refine CW.seq ?_
 refine CW.block ?_
 refine CW.seq ?_
 refine CW.region ?_
 refine SL.v (iv 13) ?_
 refine SL.v (.agg #[.bool true, iv 67, iv 3, .bool false]) ?_
 refine SL.new (mk := fun g => pv g 0) (C := (qStD_0)) (T := 147) hs_192 rfl rfl (by kernel_rfl) (fun g_199 w_200 hs_201 => ?_)
 have hs_201 : Bk w w_200 [(g_199, .cells (qStD_0) 147 (0, 0))] := hs_201
 refine SL.v (iv 13) ?_
 refine SL.store (i := 0) (g := g_199) (off := 0) (v := .agg #[.bool true, iv 67, iv 3, .bool false]) (L' := [(g_199, .cells #[.bool true, iv 67, iv 3, .bool false] 147 (0, 0))]) hs_201 rfl rfl rfl (by kernel_rfl) (by kernel_rfl) rfl (by kernel_rfl) (by kernel_rfl) rfl (by kernel_rfl) rfl (fun w_202 hs_203 => ?_)
 refine SL.nil ?_
 refine CW.region ?_
 refine SL.v (.int .u32 2948) ?_
 refine SL.v (iv 13) ?_
 refine SL.v (pv g_199 3) ?_
 refine SL.load (g := g_199) (off := 3) (v := .bool false) rfl rfl rfl (by kernel_rfl) (hs_203.all 0 g_199 _ rfl) (by kernel_rfl) ?_
 refine SL.call (f := 89) (args := #[.int .u32 2948, iv 13, .bool false]) (w1 := w_202) rfl rfl (by kernel_rfl) (mwith_13 w_202) ?_
 rintro x w_204 ⟨rfl, hc_205⟩
 refine ⟨_, rfl, ?_⟩
 have hs_206 := hs_203.grow hc_205
 refine SL.v (.int .u32 2948) ?_
 refine SL.nil ?_
 refine CW.region ?_
 refine SL.v (iv 14) ?_
 refine SL.v (iv 14) ?_
 refine SL.nil ?_
 have hs_207 : Bk w w_204 [] := hs_206.erase 0
 refine CR.fresh (fun e9 => e9 0 = .int .u32 0 ∧ e9 1 = .int .u32 2948 ∧ e9 4 = modeRows ∧ e9 5 = iv 14) ⟨(by kernel_rfl), (by kernel_rfl), (by kernel_rfl), (by kernel_rfl)⟩ ?_
 rintro e_208 ⟨hv_210, hv_211, hv_212, hv_213⟩
 obtain ⟨e_209, rfl⟩ : ∃ e_209, e_208 = put1 (put1 (put1 (put1 e_209 0 (.int .u32 0)) 1 (.int .u32 2948)) 4 (modeRows)) 5 (iv 14) := ⟨e_208, (put_self hv_213).trans (congrArg (fun z => put1 z 5 (iv 14)) ((put_self hv_212).trans (congrArg (fun z => put1 z 4 (modeRows)) ((put_self hv_211).trans (congrArg (fun z => put1 z 1 (.int .u32 2948)) (put_self hv_210))))))⟩
 clear hv_210 hv_211 hv_212 hv_213
 refine CR.more ?_
 refine CW.seq ?_
 refine CW.region ?_
 refine SL.v (.bool true) ?_
 refine SL.nil ?_
 refine CW.seq ?_
 refine CW.cond_true (by kernel_rfl) ?_
 refine CW.skip ?_
 refine CW.seq ?_
 refine CW.block ?_
 refine CW.seq ?_
 refine CW.region ?_
 refine SL.v (iv 14) ?_
 refine SL.v (.agg #[.bool true, iv 68, iv 3, .bool false]) ?_
 refine SL.new (mk := fun g => pv g 0) (C := (qStD_0)) (T := 147) hs_207 rfl rfl (by kernel_rfl) (fun g_214 w_215 hs_216 => ?_)
 have hs_216 : Bk w w_215 [(g_214, .cells (qStD_0) 147 (0, 0))] := hs_216
 refine SL.v (iv 14) ?_
 refine SL.store (i := 0) (g := g_214) (off := 0) (v := .agg #[.bool true, iv 68, iv 3, .bool false]) (L' := [(g_214, .cells #[.bool true, iv 68, iv 3, .bool false] 147 (0, 0))]) hs_216 rfl rfl rfl (by kernel_rfl) (by kernel_rfl) rfl (by kernel_rfl) (by kernel_rfl) rfl (by kernel_rfl) rfl (fun w_217 hs_218 => ?_)
 refine SL.nil ?_
 refine CW.region ?_
 refine SL.v (.int .u32 2948) ?_
 refine SL.v (iv 14) ?_
 refine SL.v (pv g_214 3) ?_
 refine SL.load (g := g_214) (off := 3) (v := .bool false) rfl rfl rfl (by kernel_rfl) (hs_218.all 0 g_214 _ rfl) (by kernel_rfl) ?_
 refine SL.call (f := 89) (args := #[.int .u32 2948, iv 14, .bool false]) (w1 := w_217) rfl rfl (by kernel_rfl) (mwith_14 w_217) ?_
 rintro x w_219 ⟨rfl, hc_220⟩
 refine ⟨_, rfl, ?_⟩
 have hs_221 := hs_218.grow hc_220
 refine SL.v (.int .u32 2948) ?_
 refine SL.nil ?_
 refine CW.region ?_
 refine SL.v (iv 15) ?_
 refine SL.v (iv 15) ?_
 refine SL.nil ?_
 have hs_222 : Bk w w_219 [] := hs_221.erase 0
 refine CR.fresh (fun e9 => e9 0 = .int .u32 0 ∧ e9 1 = .int .u32 2948 ∧ e9 4 = modeRows ∧ e9 5 = iv 15) ⟨(by kernel_rfl), (by kernel_rfl), (by kernel_rfl), (by kernel_rfl)⟩ ?_
 rintro e_223 ⟨hv_225, hv_226, hv_227, hv_228⟩
 obtain ⟨e_224, rfl⟩ : ∃ e_224, e_223 = put1 (put1 (put1 (put1 e_224 0 (.int .u32 0)) 1 (.int .u32 2948)) 4 (modeRows)) 5 (iv 15) := ⟨e_223, (put_self hv_228).trans (congrArg (fun z => put1 z 5 (iv 15)) ((put_self hv_227).trans (congrArg (fun z => put1 z 4 (modeRows)) ((put_self hv_226).trans (congrArg (fun z => put1 z 1 (.int .u32 2948)) (put_self hv_225))))))⟩
 clear hv_225 hv_226 hv_227 hv_228
 refine CR.more ?_
 refine CW.seq ?_
 refine CW.region ?_
 refine SL.v (.bool true) ?_
 refine SL.nil ?_
 refine CW.seq ?_
 refine CW.cond_true (by kernel_rfl) ?_
 refine CW.skip ?_
 refine CW.seq ?_
 refine CW.block ?_
 refine CW.seq ?_
 refine CW.region ?_
 refine SL.v (iv 15) ?_
 refine SL.v (.agg #[.bool true, iv 69, iv 4, .bool false]) ?_
 refine SL.new (mk := fun g => pv g 0) (C := (qStD_0)) (T := 147) hs_222 rfl rfl (by kernel_rfl) (fun g_229 w_230 hs_231 => ?_)
 have hs_231 : Bk w w_230 [(g_229, .cells (qStD_0) 147 (0, 0))] := hs_231
 refine SL.v (iv 15) ?_
 refine SL.store (i := 0) (g := g_229) (off := 0) (v := .agg #[.bool true, iv 69, iv 4, .bool false]) (L' := [(g_229, .cells #[.bool true, iv 69, iv 4, .bool false] 147 (0, 0))]) hs_231 rfl rfl rfl (by kernel_rfl) (by kernel_rfl) rfl (by kernel_rfl) (by kernel_rfl) rfl (by kernel_rfl) rfl (fun w_232 hs_233 => ?_)
 refine SL.nil ?_
 refine CW.region ?_
 refine SL.v (.int .u32 2948) ?_
 refine SL.v (iv 15) ?_
 refine SL.v (pv g_229 3) ?_
 refine SL.load (g := g_229) (off := 3) (v := .bool false) rfl rfl rfl (by kernel_rfl) (hs_233.all 0 g_229 _ rfl) (by kernel_rfl) ?_
 refine SL.call (f := 89) (args := #[.int .u32 2948, iv 15, .bool false]) (w1 := w_232) rfl rfl (by kernel_rfl) (mwith_15 w_232) ?_
 rintro x w_234 ⟨rfl, hc_235⟩
 refine ⟨_, rfl, ?_⟩
 have hs_236 := hs_233.grow hc_235
 refine SL.v (.int .u32 2948) ?_
 refine SL.nil ?_
 refine CW.region ?_
 refine SL.v (iv 16) ?_
 refine SL.v (iv 16) ?_
 refine SL.nil ?_
 have hs_237 : Bk w w_234 [] := hs_236.erase 0
 refine CR.fresh (fun e9 => e9 0 = .int .u32 0 ∧ e9 1 = .int .u32 2948 ∧ e9 4 = modeRows ∧ e9 5 = iv 16) ⟨(by kernel_rfl), (by kernel_rfl), (by kernel_rfl), (by kernel_rfl)⟩ ?_
 rintro e_238 ⟨hv_240, hv_241, hv_242, hv_243⟩
 obtain ⟨e_239, rfl⟩ : ∃ e_239, e_238 = put1 (put1 (put1 (put1 e_239 0 (.int .u32 0)) 1 (.int .u32 2948)) 4 (modeRows)) 5 (iv 16) := ⟨e_238, (put_self hv_243).trans (congrArg (fun z => put1 z 5 (iv 16)) ((put_self hv_242).trans (congrArg (fun z => put1 z 4 (modeRows)) ((put_self hv_241).trans (congrArg (fun z => put1 z 1 (.int .u32 2948)) (put_self hv_240))))))⟩
 clear hv_240 hv_241 hv_242 hv_243
 refine CR.more ?_
 refine CW.seq ?_
 refine CW.region ?_
 refine SL.v (.bool true) ?_
 refine SL.nil ?_
 refine CW.seq ?_
 refine CW.cond_true (by kernel_rfl) ?_
 refine CW.skip ?_
 refine CW.seq ?_
 refine CW.block ?_
 refine CW.seq ?_
 refine CW.region ?_
 refine SL.v (iv 16) ?_
 refine SL.v (.agg #[.bool true, iv 95, iv 5, .bool false]) ?_
 refine SL.new (mk := fun g => pv g 0) (C := (qStD_0)) (T := 147) hs_237 rfl rfl (by kernel_rfl) (fun g_244 w_245 hs_246 => ?_)
 have hs_246 : Bk w w_245 [(g_244, .cells (qStD_0) 147 (0, 0))] := hs_246
 refine SL.v (iv 16) ?_
 refine SL.store (i := 0) (g := g_244) (off := 0) (v := .agg #[.bool true, iv 95, iv 5, .bool false]) (L' := [(g_244, .cells #[.bool true, iv 95, iv 5, .bool false] 147 (0, 0))]) hs_246 rfl rfl rfl (by kernel_rfl) (by kernel_rfl) rfl (by kernel_rfl) (by kernel_rfl) rfl (by kernel_rfl) rfl (fun w_247 hs_248 => ?_)
 refine SL.nil ?_
 refine CW.region ?_
 refine SL.v (.int .u32 2948) ?_
 refine SL.v (iv 16) ?_
 refine SL.v (pv g_244 3) ?_
 refine SL.load (g := g_244) (off := 3) (v := .bool false) rfl rfl rfl (by kernel_rfl) (hs_248.all 0 g_244 _ rfl) (by kernel_rfl) ?_
 refine SL.call (f := 89) (args := #[.int .u32 2948, iv 16, .bool false]) (w1 := w_247) rfl rfl (by kernel_rfl) (mwith_16 w_247) ?_
 rintro x w_249 ⟨rfl, hc_250⟩
 refine ⟨_, rfl, ?_⟩
 have hs_251 := hs_248.grow hc_250
 refine SL.v (.int .u32 2948) ?_
 refine SL.nil ?_
 refine CW.region ?_
 refine SL.v (iv 17) ?_
 refine SL.v (iv 17) ?_
 refine SL.nil ?_
 have hs_252 : Bk w w_249 [] := hs_251.erase 0
 refine CR.fresh (fun e9 => e9 0 = .int .u32 0 ∧ e9 1 = .int .u32 2948 ∧ e9 4 = modeRows ∧ e9 5 = iv 17) ⟨(by kernel_rfl), (by kernel_rfl), (by kernel_rfl), (by kernel_rfl)⟩ ?_
 rintro e_253 ⟨hv_255, hv_256, hv_257, hv_258⟩
 obtain ⟨e_254, rfl⟩ : ∃ e_254, e_253 = put1 (put1 (put1 (put1 e_254 0 (.int .u32 0)) 1 (.int .u32 2948)) 4 (modeRows)) 5 (iv 17) := ⟨e_253, (put_self hv_258).trans (congrArg (fun z => put1 z 5 (iv 17)) ((put_self hv_257).trans (congrArg (fun z => put1 z 4 (modeRows)) ((put_self hv_256).trans (congrArg (fun z => put1 z 1 (.int .u32 2948)) (put_self hv_255))))))⟩
 clear hv_255 hv_256 hv_257 hv_258
 refine CR.more ?_
 refine CW.seq ?_
 refine CW.region ?_
 refine SL.v (.bool false) ?_
 refine SL.nil ?_
 refine CW.seq ?_
 refine CW.cond_false (by kernel_rfl) ?_
 refine CW.exit ?_
 repeat with_reducible first | refine PThen.exit ?_ | refine PBlock.out rfl ?_
 with_reducible refine PBlock.here ?_
 repeat with_reducible refine PBlock.normal ?_
 refine CW.seq ?_
 refine CW.region ?_
 refine SL.v (.int .u32 2948) ?_
 refine SL.v (.int .u32 2948) ?_
 refine SL.nil ?_
 refine CW.ret ?_
 repeat with_reducible first | refine PThen.ret ?_ | refine PBlock.ret ?_
 refine PRet.tmp (t := 0) (v := .int .u32 2948) rfl rfl (by kernel_rfl) ?_
 exact ⟨rfl, hs_252.gr⟩
abbrev qStD_3  : Array Value := #[iv 1, iv 1, iv 4, iv 4, iv 0, iv 2, iv 0]
set_option maxRecDepth 100000 in
set_option maxHeartbeats 4000000 in
theorem inew_any  (w : World) : Calls Tryz.prog 87 #[] w fun e w' => e = .returned (.agg (qStD_3)) ∧ Gr w w' := by
 refine calls_sx (n := 3) (args := []) Tryz.func87 rfl rfl rfl ?_
 have hs0 := Bk.init w
 refine CW.seq ?_
 refine CW.region ?_
 refine SL.new (mk := fun g => pv g 0) (C := #[iv 0, iv 0, iv 0, iv 0, iv 0, iv 0, iv 0]) (T := 38) hs0 rfl rfl (by kernel_rfl) (fun g_1 w_2 hs_3 => ?_)
 have hs_3 : Bk w w_2 [(g_1, .cells #[iv 0, iv 0, iv 0, iv 0, iv 0, iv 0, iv 0] 38 (0, 0))] := hs_3
 refine SL.nil ?_
 refine CW.seq ?_
 refine CW.region ?_
 refine SL.v (.agg #[iv 1, iv 1, iv 4, iv 4]) ?_
 refine SL.v (.agg (qStD_3)) ?_
 refine SL.store (i := 0) (g := g_1) (off := 0) (v := .agg (qStD_3)) (L' := [(g_1, .cells (qStD_3) 38 (0, 0))]) hs_3 rfl rfl rfl (by kernel_rfl) (by kernel_rfl) rfl (by kernel_rfl) (by kernel_rfl) rfl (by kernel_rfl) rfl (fun w_4 hs_5 => ?_)
 refine SL.nil ?_
 refine CW.ret ?_
 repeat with_reducible first | refine PThen.ret ?_ | refine PBlock.ret ?_
 refine PRet.cell (t := 0) (ty := 38) (g := g_1) (v := .agg (qStD_3)) rfl rfl (by kernel_rfl) (hs_5.all 0 g_1 _ rfl) (by kernel_rfl) ?_
 exact ⟨rfl, hs_5.gr⟩
abbrev qStD_1  : Array Value := #[iv 0, iv 0, .int .u8 0, .bool false, .bool false, .bool false, iv 1, iv 1, iv 4, iv 4, iv 0, iv 2, iv 0]
set_option maxRecDepth 100000 in
set_option maxHeartbeats 4000000 in
theorem cnew_any  (w : World) : Calls Tryz.prog 51 #[] w fun e w' => e = .returned (.agg (qStD_1)) ∧ Gr w w' := by
 refine calls_sx (n := 3) (args := []) Tryz.func51 rfl rfl rfl ?_
 have hs0 := Bk.init w
 refine CW.seq ?_
 refine CW.region ?_
 refine SL.new (mk := fun g => pv g 0) (C := #[iv 0, iv 0, .int .u8 0, .bool false, .bool false, .bool false, iv 0, iv 0, iv 0, iv 0, iv 0, iv 0, iv 0]) (T := 40) hs0 rfl rfl (by kernel_rfl) (fun g_1 w_2 hs_3 => ?_)
 have hs_3 : Bk w w_2 [(g_1, .cells #[iv 0, iv 0, .int .u8 0, .bool false, .bool false, .bool false, iv 0, iv 0, iv 0, iv 0, iv 0, iv 0, iv 0] 40 (0, 0))] := hs_3
 refine SL.nil ?_
 refine CW.seq ?_
 refine CW.region ?_
 refine SL.call (f := 87) (args := #[]) (w1 := w_2) rfl rfl (by kernel_rfl) (inew_any w_2) ?_
 rintro x w_4 ⟨rfl, hc_5⟩
 refine ⟨_, rfl, ?_⟩
 have hs_6 := hs_3.grow hc_5
 refine SL.v (.agg (qStD_1)) ?_
 refine SL.store (i := 0) (g := g_1) (off := 0) (v := .agg (qStD_1)) (L' := [(g_1, .cells (qStD_1) 40 (0, 0))]) hs_6 rfl rfl rfl (by kernel_rfl) (by kernel_rfl) rfl (by kernel_rfl) (by kernel_rfl) rfl (by kernel_rfl) rfl (fun w_7 hs_8 => ?_)
 refine SL.nil ?_
 refine CW.ret ?_
 repeat with_reducible first | refine PThen.ret ?_ | refine PBlock.ret ?_
 refine PRet.cell (t := 0) (ty := 40) (g := g_1) (v := .agg (qStD_1)) rfl rfl (by kernel_rfl) (hs_8.all 0 g_1 _ rfl) (by kernel_rfl) ?_
 exact ⟨rfl, hs_8.gr⟩
/-- As at the beginning. -/
def newC (rows cols pages : Int) : Cor := ⟨0, 0, 0, false, false, false, 1, 1, 4, 4, 0, 2, 0, 0, 0, max 0 rows, max 0 cols, 0, 0, max 0 rows, max 0 cols, 2948, 5, false, false, 0, false, 0, pages⟩
abbrev qStD_2 (rows : Int) (cols : Int) : Array Value := #[iv 0, iv 0, iv (max 0 rows), iv (max 0 cols)]
abbrev qStD_4 (rows : Int) (cols : Int) : Array Value := #[iv 0, iv 0, iv (max 0 rows), iv (max 0 cols), iv 0, iv 0, iv (max 0 rows), iv (max 0 cols)]
set_option maxRecDepth 100000 in
set_option maxHeartbeats 4000000 in
theorem snew_any (rows cols pages : Int) (w : World) : Calls Tryz.prog 16 #[iv rows, iv cols, iv pages] w fun e w' => e = .returned ((newC rows cols pages).v) ∧ Gr w w' := by
 refine calls_sx (n := 18) (args := [iv rows, iv cols, iv pages]) Tryz.func16 rfl rfl rfl ?_
 have hs0 := Bk.init w
 refine CW.seq ?_
 refine CW.region ?_
 refine SL.new (mk := fun g => pv g 0) (C := czA) (T := 45) hs0 rfl rfl (by kernel_rfl) (fun g_1 w_2 hs_3 => ?_)
 have hs_3 : Bk w w_2 [(g_1, .cells czA 45 (0, 0))] := hs_3
 refine SL.nil ?_
 refine CW.seq ?_
 refine CW.region ?_
 refine SL.v (iv rows) ?_
 refine SL.v (iv cols) ?_
 refine SL.call (f := 50) (args := #[iv rows, iv cols]) (w1 := w_2) rfl rfl (by kernel_rfl) (whole_any rows cols w_2) ?_
 rintro x w_4 ⟨rfl, hc_5⟩
 refine ⟨_, rfl, ?_⟩
 have hs_6 := hs_3.grow hc_5
 refine SL.new (mk := fun g => pv g 0) (C := #[iv 0, iv 0, iv 0, iv 0]) (T := 29) hs_6 rfl rfl (by kernel_rfl) (fun g_7 w_8 hs_9 => ?_)
 have hs_9 : Bk w w_8 [(g_1, .cells czA 45 (0, 0)), (g_7, .cells #[iv 0, iv 0, iv 0, iv 0] 29 (0, 0))] := hs_9
 refine SL.store (i := 1) (g := g_7) (off := 0) (v := .agg (qStD_2 rows cols)) (L' := [(g_1, .cells czA 45 (0, 0)), (g_7, .cells (qStD_2 rows cols) 29 (0, 0))]) hs_9 rfl rfl rfl (by kernel_rfl) (by kernel_rfl) rfl (by kernel_rfl) (by kernel_rfl) rfl (by kernel_rfl) rfl (fun w_10 hs_11 => ?_)
 refine SL.nil ?_
 refine CW.seq ?_
 have HGR : GrL [fun v _ => v = .agg (qStD_1), fun v _ => v = .agg (qStD_2 rows cols), fun v _ => v = .agg (qStD_2 rows cols), fun v _ => v = .agg (qStD_4 rows cols), fun v _ => v = .int .u32 2948, fun v _ => v = iv pages] := ⟨fun _ _ _ _ h => h, ⟨fun _ _ _ _ h => h, ⟨fun _ _ _ _ h => h, ⟨fun _ _ _ _ h => h, ⟨fun _ _ _ _ h => h, ⟨fun _ _ _ _ h => h, trivial⟩⟩⟩⟩⟩⟩
 refine CW.draw 6 (FW [fun v _ => v = .agg (qStD_1), fun v _ => v = .agg (qStD_2 rows cols), fun v _ => v = .agg (qStD_2 rows cols), fun v _ => v = .agg (qStD_4 rows cols), fun v _ => v = .int .u32 2948, fun v _ => v = iv pages]) (fun W => Bk w W [(g_1, .cells czA 45 (0, 0)), (g_7, .cells (qStD_2 rows cols) 29 (0, 0))] ∧ Gr w_10 W) (by kernel_rfl) (by kernel_rfl) (by kernel_rfl) (by kernel_rfl) (by kernel_rfl) ⟨hs_11.drew, (Gr.refl _).drew⟩ ?_ ?_
 ·refine ⟨?_, ⟨?_, ⟨?_, ⟨?_, ⟨?_, ⟨?_, trivial⟩⟩⟩⟩⟩⟩
  ·intro L ys W hB hF hP K hK
   show OpE _ _ _ W K
   exact OpE.call 51 #[] W _ (by kernel_rfl) (cnew_any W) (fun x w' hx => by obtain ⟨rfl, hg⟩ := hx; exact ⟨_, rfl, hK _ w' ⟨hB.1.grow hg, hB.2.trans hg⟩ rfl (fun _ _ h => FW.gr HGR hg h)⟩)
  ·intro L ys W hB hF hP K hK
   show OpE _ _ _ W K
   exact OpE.load (g := g_7) (off := 0) (v := .agg (qStD_2 rows cols)) rfl (by kernel_rfl) (hB.1.all 1 g_7 _ rfl) (by kernel_rfl) (hK _ W hB rfl (fun _ _ h => h))
  ·intro L ys W hB hF hP K hK
   show OpE _ _ _ W K
   exact OpE.load (g := g_7) (off := 0) (v := .agg (qStD_2 rows cols)) rfl (by kernel_rfl) (hB.1.all 1 g_7 _ rfl) (by kernel_rfl) (hK _ W hB rfl (fun _ _ h => h))
  ·intro L ys W hB hF hP K hK
   show OpE _ _ _ W K
   exact OpE.known (j := 1) (v := .agg (qStD_2 rows cols)) (hF 1 (hP.1 rfl)) (OpE.known (j := 2) (v := .agg (qStD_2 rows cols)) (hF 2 (hP.2.1 rfl)) (OpE.val (.agg (qStD_4 rows cols)) W (by kernel_rfl) (hK _ W hB rfl (fun _ _ h => h))))
  ·intro L ys W hB hF hP K hK
   show OpE _ _ _ W K
   exact OpE.call 52 #[] W _ (by kernel_rfl) (mbegin_any W) (fun x w' hx => by obtain ⟨rfl, hg⟩ := hx; exact ⟨_, rfl, hK _ w' ⟨hB.1.grow hg, hB.2.trans hg⟩ rfl (fun _ _ h => FW.gr HGR hg h)⟩)
  ·intro L ys W hB hF hP K hK
   show OpE _ _ _ W K
   exact OpE.val (iv pages) W (by kernel_rfl) (hK _ W hB rfl (fun _ _ h => h))
 ·intro ys_15 w_12 hs_13 hF_14
  have hs_13 : Bk w w_12 [(g_1, .cells czA 45 (0, 0)), (g_7, .cells (qStD_2 rows cols) 29 (0, 0))] := hs_13.1
  refine SL.knownY (j := 0) (v := .agg (qStD_1)) (show ys_15 0 = .agg (qStD_1) from hF_14 0 (by decide)) (SL.knownY (j := 3) (v := .agg (qStD_4 rows cols)) (show ys_15 3 = .agg (qStD_4 rows cols) from hF_14 3 (by decide)) (SL.knownY (j := 4) (v := .int .u32 2948) (show ys_15 4 = .int .u32 2948 from hF_14 4 (by decide)) (SL.knownY (j := 5) (v := iv pages) (show ys_15 5 = iv pages from hF_14 5 (by decide)) (?_))))
  clear hF_14 HGR
  refine SL.v (.agg #[iv 0, iv 0, .int .u8 0, .bool false, .bool false, .bool false, iv 1, iv 1, iv 4, iv 4, iv 0, iv 2, iv 0, iv 0, iv 0, iv (max 0 rows), iv (max 0 cols), iv 0, iv 0, iv (max 0 rows), iv (max 0 cols), .int .u32 2948, iv 5, .bool false, .bool false, iv 0, .bool false, iv 0, iv pages]) ?_
  refine SL.store (i := 0) (g := g_1) (off := 0) (v := .agg #[iv 0, iv 0, .int .u8 0, .bool false, .bool false, .bool false, iv 1, iv 1, iv 4, iv 4, iv 0, iv 2, iv 0, iv 0, iv 0, iv (max 0 rows), iv (max 0 cols), iv 0, iv 0, iv (max 0 rows), iv (max 0 cols), .int .u32 2948, iv 5, .bool false, .bool false, iv 0, .bool false, iv 0, iv pages]) (L' := [(g_1, .cells #[iv 0, iv 0, .int .u8 0, .bool false, .bool false, .bool false, iv 1, iv 1, iv 4, iv 4, iv 0, iv 2, iv 0, iv 0, iv 0, iv (max 0 rows), iv (max 0 cols), iv 0, iv 0, iv (max 0 rows), iv (max 0 cols), .int .u32 2948, iv 5, .bool false, .bool false, iv 0, .bool false, iv 0, iv pages] 45 (0, 0)), (g_7, .cells (qStD_2 rows cols) 29 (0, 0))]) hs_13 rfl rfl rfl (by kernel_rfl) (by kernel_rfl) rfl (by kernel_rfl) (by kernel_rfl) rfl (by kernel_rfl) rfl (fun w_16 hs_17 => ?_)
  refine SL.nil ?_
  refine CW.ret ?_
  repeat with_reducible first | refine PThen.ret ?_ | refine PBlock.ret ?_
  refine PRet.cell (t := 6) (ty := 45) (g := g_1) (v := .agg #[iv 0, iv 0, .int .u8 0, .bool false, .bool false, .bool false, iv 1, iv 1, iv 4, iv 4, iv 0, iv 2, iv 0, iv 0, iv 0, iv (max 0 rows), iv (max 0 cols), iv 0, iv 0, iv (max 0 rows), iv (max 0 cols), .int .u32 2948, iv 5, .bool false, .bool false, iv 0, .bool false, iv 0, iv pages]) rfl rfl (by kernel_rfl) (hs_17.all 0 g_1 _ rfl) (by kernel_rfl) ?_
  exact ⟨rfl, hs_17.gr⟩
/-- Modes that fit, and pages that may be counted. -/
def smallZ (c : Cor) : Bool := decide (0 ≤ c.modes) && decide (c.modes < 4294967296) && decide (c.pb ≤ 60000) && decide (c.pr ≤ 60000)
set_option maxRecDepth 100000 in
set_option maxHeartbeats 4000000 in
theorem small_any (c : Cor) (w : World) : Calls Tryz.prog 6 #[.agg (cdA c)] w fun e w' => e = .returned (.bool (smallZ c)) ∧ Gr w w' := by
 refine calls_sx (n := 25) (args := [.agg (cdA c)]) Tryz.func6 rfl rfl rfl ?_
 have hs0 := Bk.init w
 refine CW.seq ?_
 refine CW.region ?_
 refine SL.new (mk := fun g => pv g 0) (C := (cdA c)) (T := 33) hs0 rfl rfl (by kernel_rfl) (fun g_1 w_2 hs_3 => ?_)
 have hs_3 : Bk w w_2 [(g_1, .cells (cdA c) 33 (0, 0))] := hs_3
 refine SL.v (.bool false) ?_
 refine SL.nil ?_
 refine CW.seq ?_
 refine CW.region ?_
 refine SL.v (pv g_1 21) ?_
 refine SL.load (g := g_1) (off := 21) (v := iv c.modes) rfl rfl rfl (by kernel_rfl) (hs_3.all 0 g_1 _ rfl) (by kernel_rfl) ?_
 refine SL.v (.bool (decide (0 ≤ c.modes))) ?_
 refine SL.v (.bool (decide (0 ≤ c.modes))) ?_
 rcases Bool.eq_false_or_eq_true (decide (0 ≤ c.modes)) with hb_4 | hb_4
 ·try rw [hb_4]
  have hqhb_4 := of_decide_eq_true hb_4
  refine SL.go ?_
  refine SL.v (pv g_1 21) ?_
  refine SL.go ?_
  refine SL.load (g := g_1) (off := 21) (v := iv c.modes) rfl rfl rfl (by kernel_rfl) (hs_3.all 0 g_1 _ rfl) (by kernel_rfl) ?_
  refine SL.go ?_
  refine SL.v (.bool (decide (c.modes < 4294967296))) ?_
  refine SL.v (.bool (decide (c.modes < 4294967296))) ?_
  refine SL.v (.bool (decide (c.modes < 4294967296))) ?_
  rcases Bool.eq_false_or_eq_true (decide (c.modes < 4294967296)) with hb_5 | hb_5
  ·try rw [hb_5]
   have hqhb_5 := of_decide_eq_true hb_5
   refine SL.go ?_
   refine SL.v (pv g_1 13) ?_
   refine SL.go ?_
   refine SL.v (pv g_1 13) ?_
   refine SL.go ?_
   refine SL.v (pv g_1 15) ?_
   refine SL.go ?_
   refine SL.load (g := g_1) (off := 15) (v := iv c.pb) rfl rfl rfl (by kernel_rfl) (hs_3.all 0 g_1 _ rfl) (by kernel_rfl) ?_
   refine SL.go ?_
   refine SL.v (.bool (decide (c.pb ≤ 60000))) ?_
   refine SL.v (.bool (decide (c.pb ≤ 60000))) ?_
   refine SL.v (.bool (decide (c.pb ≤ 60000))) ?_
   rcases Bool.eq_false_or_eq_true (decide (c.pb ≤ 60000)) with hb_6 | hb_6
   ·try rw [hb_6]
    have hqhb_6 := of_decide_eq_true hb_6
    refine SL.go ?_
    refine SL.v (pv g_1 13) ?_
    refine SL.go ?_
    refine SL.v (pv g_1 13) ?_
    refine SL.go ?_
    refine SL.v (pv g_1 16) ?_
    refine SL.go ?_
    refine SL.load (g := g_1) (off := 16) (v := iv c.pr) rfl rfl rfl (by kernel_rfl) (hs_3.all 0 g_1 _ rfl) (by kernel_rfl) ?_
    refine SL.go ?_
    refine SL.v (.bool (decide (c.pr ≤ 60000))) ?_
    refine SL.v (.bool (decide (c.pr ≤ 60000))) ?_
    refine SL.v (.bool (decide (c.pr ≤ 60000))) ?_
    refine SL.nil ?_
    refine CW.ret ?_
    repeat with_reducible first | refine PThen.ret ?_ | refine PBlock.ret ?_
    refine PRet.tmp (t := 2) (v := .bool (decide (c.pr ≤ 60000))) rfl rfl (by kernel_rfl) ?_
    exact ⟨by unfold smallZ; simp only [hb_4, hb_5, hb_6, Bool.true_and, Bool.false_and, Bool.and_true, Bool.and_false], hs_3.gr⟩
   ·try rw [hb_6]
    have hqhb_6 := of_decide_eq_false hb_6
    refine SL.no false ?_
    refine SL.no false ?_
    refine SL.no false ?_
    refine SL.no false ?_
    refine SL.no false ?_
    refine SL.v (.bool false) ?_
    refine SL.v (.bool false) ?_
    refine SL.nil ?_
    refine CW.ret ?_
    repeat with_reducible first | refine PThen.ret ?_ | refine PBlock.ret ?_
    refine PRet.tmp (t := 2) (v := .bool false) rfl rfl (by kernel_rfl) ?_
    exact ⟨by unfold smallZ; simp only [hb_4, hb_5, hb_6, Bool.true_and, Bool.false_and, Bool.and_true, Bool.and_false], hs_3.gr⟩
  ·try rw [hb_5]
   have hqhb_5 := of_decide_eq_false hb_5
   refine SL.no false ?_
   refine SL.no false ?_
   refine SL.no false ?_
   refine SL.no false ?_
   refine SL.no false ?_
   refine SL.v (.bool false) ?_
   refine SL.v (.bool false) ?_
   refine SL.no false ?_
   refine SL.no false ?_
   refine SL.no false ?_
   refine SL.no false ?_
   refine SL.no false ?_
   refine SL.v (.bool false) ?_
   refine SL.v (.bool false) ?_
   refine SL.nil ?_
   refine CW.ret ?_
   repeat with_reducible first | refine PThen.ret ?_ | refine PBlock.ret ?_
   refine PRet.tmp (t := 2) (v := .bool false) rfl rfl (by kernel_rfl) ?_
   exact ⟨by unfold smallZ; simp only [hb_4, hb_5, Bool.true_and, Bool.false_and, Bool.and_true, Bool.and_false], hs_3.gr⟩
 ·try rw [hb_4]
  have hqhb_4 := of_decide_eq_false hb_4
  refine SL.no false ?_
  refine SL.no false ?_
  refine SL.no false ?_
  refine SL.v (.bool false) ?_
  refine SL.v (.bool false) ?_
  refine SL.no false ?_
  refine SL.no false ?_
  refine SL.no false ?_
  refine SL.no false ?_
  refine SL.no false ?_
  refine SL.v (.bool false) ?_
  refine SL.v (.bool false) ?_
  refine SL.no false ?_
  refine SL.no false ?_
  refine SL.no false ?_
  refine SL.no false ?_
  refine SL.no false ?_
  refine SL.v (.bool false) ?_
  refine SL.v (.bool false) ?_
  refine SL.nil ?_
  refine CW.ret ?_
  repeat with_reducible first | refine PThen.ret ?_ | refine PBlock.ret ?_
  refine PRet.tmp (t := 2) (v := .bool false) rfl rfl (by kernel_rfl) ?_
  exact ⟨by unfold smallZ; simp only [hb_4, Bool.true_and, Bool.false_and, Bool.and_true, Bool.and_false], hs_3.gr⟩
end Go.Proofs.YtfkecgkfcldffaaGreatDoor
