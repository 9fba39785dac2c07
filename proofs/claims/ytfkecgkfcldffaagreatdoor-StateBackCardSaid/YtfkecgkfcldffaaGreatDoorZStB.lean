/-
 Renditions, modes and states of both texts, walked (gen_stb.py).
-/
import Derived.Test.YtfkecgkfcldffaaGreatDoorZStA
import Derived.Test.YtfkecgkfcldffaaGreatDoorZSr
import Derived.Test.YtfkecgkfcldffaaGreatDoorZIsD
namespace Go.Proofs.YtfkecgkfcldffaaGreatDoor
set_option linter.unusedSimpArgs false
set_option linter.unusedVariables false
open Go.RowKit
set_option linter.unusedVariables false

set_option maxRecDepth 100000 in
set_option maxHeartbeats 4000000 in
theorem part_m1  (w : World) : Calls Tryz.prog 91 #[iv (-1)] w fun e w' => e = .returned (.int .u8 0) ∧ Gr w w' := by
 refine calls_sx (n := 14) (args := [iv (-1)]) Tryz.func91 rfl rfl rfl ?_
 have hs0 := Bk.init w
 refine CW.seq ?_
 refine CW.region ?_
 refine SL.v (.int .u8 0) ?_
 refine SL.nil ?_
 refine CW.seq ?_
 refine CW.seq ?_
 refine CW.region ?_
 refine SL.v (iv (-1)) ?_
 refine SL.nil ?_
 refine CW.block ?_
 refine CW.seq ?_
 refine CW.region ?_
 refine SL.v (.bool false) ?_
 refine SL.v (.bool false) ?_
 refine SL.nil ?_
 refine CW.cond_false (by kernel_rfl) ?_
 refine CW.seq ?_
 refine CW.region ?_
 refine SL.v (.bool false) ?_
 refine SL.v (.bool false) ?_
 refine SL.nil ?_
 refine CW.cond_false (by kernel_rfl) ?_
 refine CW.seq ?_
 refine CW.region ?_
 refine SL.v (.bool false) ?_
 refine SL.v (.bool false) ?_
 refine SL.nil ?_
 refine CW.cond_false (by kernel_rfl) ?_
 refine CW.seq ?_
 refine CW.region ?_
 refine SL.v (.bool false) ?_
 refine SL.v (.bool false) ?_
 refine SL.nil ?_
 refine CW.cond_false (by kernel_rfl) ?_
 refine CW.seq ?_
 refine CW.region ?_
 refine SL.v (.bool false) ?_
 refine SL.v (.bool false) ?_
 refine SL.nil ?_
 refine CW.cond_false (by kernel_rfl) ?_
 refine CW.skip ?_
 refine CW.seq ?_
 refine CW.region ?_
 refine SL.v (.int .u8 0) ?_
 refine SL.nil ?_
 refine CW.ret ?_
 repeat with_reducible first | refine PThen.ret ?_ | refine PBlock.ret ?_
 refine PRet.tmp (t := 2) (v := .int .u8 0) rfl rfl (by kernel_rfl) ?_
 exact ⟨rfl, hs0.gr⟩
set_option maxRecDepth 100000 in
set_option maxHeartbeats 4000000 in
theorem ended_m1  (w : World) : Calls Tryz.prog 110 #[iv (-1)] w fun e w' => e = .returned (.int .u8 0) ∧ Gr w w' := by
 refine calls_sx (n := 14) (args := [iv (-1)]) Tryz.func110 rfl rfl rfl ?_
 have hs0 := Bk.init w
 refine CW.seq ?_
 refine CW.region ?_
 refine SL.v (.int .u8 0) ?_
 refine SL.nil ?_
 refine CW.seq ?_
 refine CW.seq ?_
 refine CW.region ?_
 refine SL.v (iv (-1)) ?_
 refine SL.nil ?_
 refine CW.block ?_
 refine CW.seq ?_
 refine CW.region ?_
 refine SL.v (.bool false) ?_
 refine SL.v (.bool false) ?_
 refine SL.nil ?_
 refine CW.cond_false (by kernel_rfl) ?_
 refine CW.seq ?_
 refine CW.seq ?_
 refine CW.region ?_
 refine SL.v (.bool false) ?_
 refine SL.v (.bool false) ?_
 refine SL.nil ?_
 refine CW.cond_false (by kernel_rfl) ?_
 refine CW.seq ?_
 refine CW.region ?_
 refine SL.v (.bool false) ?_
 refine SL.v (.bool false) ?_
 refine SL.nil ?_
 refine CW.cond_false (by kernel_rfl) ?_
 refine CW.seq ?_
 refine CW.region ?_
 refine SL.v (.bool false) ?_
 refine SL.v (.bool false) ?_
 refine SL.nil ?_
 refine CW.cond_false (by kernel_rfl) ?_
 refine CW.region ?_
 refine SL.v (.bool false) ?_
 refine SL.v (.bool false) ?_
 refine SL.nil ?_
 refine CW.cond_false (by kernel_rfl) ?_
 refine CW.skip ?_
 refine CW.seq ?_
 refine CW.region ?_
 refine SL.v (.int .u8 0) ?_
 refine SL.nil ?_
 refine CW.ret ?_
 repeat with_reducible first | refine PThen.ret ?_ | refine PBlock.ret ?_
 refine PRet.tmp (t := 2) (v := .int .u8 0) rfl rfl (by kernel_rfl) ?_
 exact ⟨rfl, hs0.gr⟩
set_option maxRecDepth 100000 in
set_option maxHeartbeats 4000000 in
theorem one_m1 (r : Int) (w : World) : Calls Tryz.prog 95 #[.int .u8 r, iv (-1)] w fun e w' => e = .returned (.int .u8 (bits .andNot .u8 (bits .or .u8 r 0) 0)) ∧ Gr w w' := by
 refine calls_sx (n := 14) (args := [.int .u8 r, iv (-1)]) Tryz.func95 rfl rfl rfl ?_
 have hs0 := Bk.init w
 refine CW.seq ?_
 refine CW.region ?_
 refine SL.v (.int .u8 0) ?_
 refine SL.nil ?_
 refine CW.seq ?_
 refine CW.seq ?_
 refine CW.region ?_
 refine SL.v (iv (-1)) ?_
 refine SL.v (.bool false) ?_
 refine SL.nil ?_
 refine CW.cond_false (by kernel_rfl) ?_
 refine CW.skip ?_
 refine CW.seq ?_
 refine CW.region ?_
 refine SL.v (.int .u8 r) ?_
 refine SL.v (iv (-1)) ?_
 refine SL.call (f := 91) (args := #[iv (-1)]) (w1 := w) rfl rfl (by kernel_rfl) (part_m1 w) ?_
 rintro x w_1 ⟨rfl, hc_2⟩
 refine ⟨_, rfl, ?_⟩
 have hs_3 := hs0.grow hc_2
 refine SL.v (.int .u8 (bits .or .u8 r 0)) ?_
 refine SL.v (iv (-1)) ?_
 refine SL.call (f := 110) (args := #[iv (-1)]) (w1 := w_1) rfl rfl (by kernel_rfl) (ended_m1 w_1) ?_
 rintro x w_4 ⟨rfl, hc_5⟩
 refine ⟨_, rfl, ?_⟩
 have hs_6 := hs_3.grow hc_5
 refine SL.v (.int .u8 (bits .andNot .u8 (bits .or .u8 r 0) 0)) ?_
 refine SL.v (.int .u8 (bits .andNot .u8 (bits .or .u8 r 0) 0)) ?_
 refine SL.nil ?_
 refine CW.ret ?_
 repeat with_reducible first | refine PThen.ret ?_ | refine PBlock.ret ?_
 refine PRet.tmp (t := 4) (v := .int .u8 (bits .andNot .u8 (bits .or .u8 r 0) 0)) rfl rfl (by kernel_rfl) ?_
 exact ⟨rfl, hs_6.gr⟩
set_option maxRecDepth 100000 in
set_option maxHeartbeats 4000000 in
theorem each_m1 (r : Int) (g : Nat) (w : World) (hb : w.heap[g]? = some (.cells #[iv (-1)] 3 (0, 0))) : Calls Tryz.prog 94 #[.int .u8 r, sv g 0 1 1, .func (.func 95) #[] #[]] w fun e w' => e = .returned (.int .u8 (bits .andNot .u8 (bits .or .u8 (bits .and .u8 r 31) 0) 0)) ∧ Gr w w' := by
 refine calls_sx (n := 29) (args := [.int .u8 r, sv g 0 1 1, .func (.func 95) #[] #[]]) Tryz.func94 rfl rfl rfl ?_
 have hs0 := Bk.init w
 refine CW.seq ?_
 refine CW.region ?_
 refine SL.v (.int .u8 0) ?_
 refine SL.nil ?_
 refine CW.seq ?_
 refine CW.region ?_
 refine SL.v (.int .u8 r) ?_
 refine SL.v (.int .u8 (bits .and .u8 r 31)) ?_
 refine SL.v (.int .u8 (bits .and .u8 r 31)) ?_
 refine SL.nil ?_
 refine CW.seq ?_
 refine CW.seq ?_
 refine CW.region ?_
 refine SL.v (sv g 0 1 1) ?_
 refine SL.val (v := iv 1) (w' := w) rfl rfl (by kernel_rfl) ?_
 refine SL.v (.bool false) ?_
 refine SL.nil ?_
 refine CW.cond_false (by kernel_rfl) ?_
 refine CW.skip ?_
 refine CW.seq ?_
 refine CW.seq ?_
 refine CW.region ?_
 refine SL.v (sv g 0 1 1) ?_
 refine SL.val (v := iv 1) (w' := w) rfl rfl (by kernel_rfl) ?_
 refine SL.v (iv 0) ?_
 refine SL.nil ?_
 refine CW.block ?_
 refine CW.loopN 2 ?_
 refine CR.more ?_
 refine CW.seq ?_
 refine CW.region ?_
 refine SL.v (.bool true) ?_
 refine SL.nil ?_
 refine CW.seq ?_
 refine CW.cond_true (by kernel_rfl) ?_
 refine CW.skip ?_
 refine CW.seq ?_
 refine CW.block ?_
 refine CW.seq ?_
 refine CW.region ?_
 refine SL.v (pv g 0) ?_
 refine SL.load (g := g) (off := 0) (v := iv (-1)) rfl rfl rfl (by kernel_rfl) (hs0.gr.blk hb) (by kernel_rfl) ?_
 refine SL.v (iv (-1)) ?_
 refine SL.nil ?_
 refine CW.region ?_
 refine SL.v (.func (.func 95) #[] #[]) ?_
 refine SL.v (.int .u8 (bits .and .u8 r 31)) ?_
 refine SL.v (iv (-1)) ?_
 refine SL.call (f := 95) (args := #[.int .u8 (bits .and .u8 r 31), iv (-1)]) (w1 := w) rfl rfl (by kernel_rfl) (one_m1 (bits .and .u8 r 31) w) ?_
 rintro x w_1 ⟨rfl, hc_2⟩
 refine ⟨_, rfl, ?_⟩
 have hs_3 := hs0.grow hc_2
 refine SL.v (.int .u8 (bits .andNot .u8 (bits .or .u8 (bits .and .u8 r 31) 0) 0)) ?_
 refine SL.nil ?_
 refine CW.region ?_
 refine SL.v (iv 1) ?_
 refine SL.v (iv 1) ?_
 refine SL.nil ?_
 refine CR.fresh (fun e9 => e9 0 = .int .u8 (bits .andNot .u8 (bits .or .u8 (bits .and .u8 r 31) 0) 0) ∧ e9 2 = .func (.func 95) #[] #[] ∧ e9 6 = .int .u8 0 ∧ e9 17 = sv g 0 1 1 ∧ e9 18 = iv 1 ∧ e9 19 = iv 1) ⟨(by kernel_rfl), (by kernel_rfl), (by kernel_rfl), (by kernel_rfl), (by kernel_rfl), (by kernel_rfl)⟩ ?_
 rintro e_4 ⟨hv_6, hv_7, hv_8, hv_9, hv_10, hv_11⟩
 obtain ⟨e_5, rfl⟩ : ∃ e_5, e_4 = put1 (put1 (put1 (put1 (put1 (put1 e_5 0 (.int .u8 (bits .andNot .u8 (bits .or .u8 (bits .and .u8 r 31) 0) 0))) 2 (.func (.func 95) #[] #[])) 6 (.int .u8 0)) 17 (sv g 0 1 1)) 18 (iv 1)) 19 (iv 1) := ⟨e_4, (put_self hv_11).trans (congrArg (fun z => put1 z 19 (iv 1)) ((put_self hv_10).trans (congrArg (fun z => put1 z 18 (iv 1)) ((put_self hv_9).trans (congrArg (fun z => put1 z 17 (sv g 0 1 1)) ((put_self hv_8).trans (congrArg (fun z => put1 z 6 (.int .u8 0)) ((put_self hv_7).trans (congrArg (fun z => put1 z 2 (.func (.func 95) #[] #[])) (put_self hv_6))))))))))⟩
 clear hv_6 hv_7 hv_8 hv_9 hv_10 hv_11
 refine CR.more ?_
 refine CW.seq ?_
 refine CW.region ?_
 refine SL.v (.bool false) ?_
 refine SL.nil ?_
 refine CW.seq ?_
 refine CW.cond_false (by kernel_rfl) ?_
 refine CW.exit ?_
 repeat with_reducible first | refine PThen.exit ?_ | refine PBlock.out rfl ?_
 with_reducible refine PBlock.here ?_
 repeat with_reducible refine PBlock.normal ?_
 refine CW.seq ?_
 refine CW.region ?_
 refine SL.v (.int .u8 (bits .andNot .u8 (bits .or .u8 (bits .and .u8 r 31) 0) 0)) ?_
 refine SL.v (.int .u8 (bits .andNot .u8 (bits .or .u8 (bits .and .u8 r 31) 0) 0)) ?_
 refine SL.nil ?_
 refine CW.ret ?_
 repeat with_reducible first | refine PThen.ret ?_ | refine PBlock.ret ?_
 refine PRet.tmp (t := 6) (v := .int .u8 (bits .andNot .u8 (bits .or .u8 (bits .and .u8 r 31) 0) 0)) rfl rfl (by kernel_rfl) ?_
 exact ⟨rfl, hs_3.gr⟩
set_option maxRecDepth 100000 in
set_option maxHeartbeats 4000000 in
theorem apply_m1 (r : Int) (g : Nat) (w : World) (hb : w.heap[g]? = some (.cells #[iv (-1)] 3 (0, 0))) : Calls Tryz.prog 59 #[.int .u8 r, sv g 0 1 1] w fun e w' => e = .returned (.int .u8 (bits .andNot .u8 (bits .or .u8 (bits .and .u8 r 31) 0) 0)) ∧ Gr w w' := by
 refine calls_sx (n := 8) (args := [.int .u8 r, sv g 0 1 1]) Tryz.func59 rfl rfl rfl ?_
 have hs0 := Bk.init w
 refine CW.seq ?_
 refine CW.region ?_
 refine SL.v (.int .u8 0) ?_
 refine SL.nil ?_
 refine CW.seq ?_
 refine CW.region ?_
 refine SL.v (.int .u8 r) ?_
 refine SL.v (sv g 0 1 1) ?_
 refine SL.call (f := 94) (args := #[.int .u8 r, sv g 0 1 1, .func (.func 95) #[] #[]]) (w1 := w) rfl rfl (by kernel_rfl) (each_m1 r g w (hs0.gr.blk hb)) ?_
 rintro x w_1 ⟨rfl, hc_2⟩
 refine ⟨_, rfl, ?_⟩
 have hs_3 := hs0.grow hc_2
 refine SL.v (.int .u8 (bits .andNot .u8 (bits .or .u8 (bits .and .u8 r 31) 0) 0)) ?_
 refine SL.nil ?_
 refine CW.ret ?_
 repeat with_reducible first | refine PThen.ret ?_ | refine PBlock.ret ?_
 refine PRet.tmp (t := 4) (v := .int .u8 (bits .andNot .u8 (bits .or .u8 (bits .and .u8 r 31) 0) 0)) rfl rfl (by kernel_rfl) ?_
 exact ⟨rfl, hs_3.gr⟩
theorem rend_m1 {r : Int} (h0 : 0 ≤ r) (h1 : r < 256) : bits .andNot .u8 (bits .or .u8 (bits .and .u8 r 31) 0) 0 = r % 32 := by
 have H : ∀ k : Fin 256, bits .andNot .u8 (bits .or .u8 (bits .and .u8 (k.val : Int) 31) 0) 0 = (k.val : Int) % 32 := by decide +kernel
 have := H ⟨r.toNat, by omega⟩
 simpa [Int.toNat_of_nonneg h0] using this
set_option maxRecDepth 100000 in
set_option maxHeartbeats 4000000 in
theorem mclear_any (m : Int) (w : World) : Calls Tryz.prog 60 #[.int .u32 m] w fun e w' => e = .returned (.int .u32 (bits .and .u32 m 131071)) ∧ Gr w w' := by
 refine calls_sx (n := 5) (args := [.int .u32 m]) Tryz.func60 rfl rfl rfl ?_
 have hs0 := Bk.init w
 refine CW.seq ?_
 refine CW.region ?_
 refine SL.v (.int .u32 0) ?_
 refine SL.nil ?_
 refine CW.seq ?_
 refine CW.region ?_
 refine SL.v (.int .u32 m) ?_
 refine SL.v (.int .u32 (bits .and .u32 m 131071)) ?_
 refine SL.v (.int .u32 (bits .and .u32 m 131071)) ?_
 refine SL.nil ?_
 refine CW.ret ?_
 repeat with_reducible first | refine PThen.ret ?_ | refine PBlock.ret ?_
 refine PRet.tmp (t := 2) (v := .int .u32 (bits .and .u32 m 131071)) rfl rfl (by kernel_rfl) ?_
 exact ⟨rfl, hs0.gr⟩
set_option maxRecDepth 100000 in
set_option maxHeartbeats 4000000 in
theorem rof_any (r : Int) (w : World) (h0 : 0 ≤ r ∧ r < 256) : Calls Tryz.prog 43 #[.int .u8 r] w fun e w' => e = .returned (.agg #[.bool (r % 2 == 1), .bool (r / 2 % 2 == 1), .bool (r / 4 % 2 == 1), .bool (r / 8 % 2 == 1), .bool (r / 16 % 2 == 1)]) ∧ Gr w w' := by
 obtain ⟨h1, h2⟩ := h0
 refine calls_sx (n := 26) (args := [.int .u8 r]) Tryz.func43 rfl rfl rfl ?_
 have hs0 := Bk.init w
 refine CW.seq ?_
 refine CW.region ?_
 refine SL.new (mk := fun g => pv g 0) (C := #[.bool false, .bool false, .bool false, .bool false, .bool false]) (T := 98) hs0 rfl rfl (by kernel_rfl) (fun g_1 w_2 hs_3 => ?_)
 have hs_3 : Bk w w_2 [(g_1, .cells #[.bool false, .bool false, .bool false, .bool false, .bool false] 98 (0, 0))] := hs_3
 refine SL.nil ?_
 refine CW.seq ?_
 refine CW.region ?_
 refine SL.v (.int .u8 r) ?_
 refine SL.val (v := iv r) (w' := w_2) rfl rfl (by have hw : IntKind.i64.wrap (r) = r := IntWalk.i64_in _ (by omega); exact run_eqv (by kernel_rfl) (congrArg (fun z => Value.int .i64 z) hw)) ?_
 refine SL.v (iv r) ?_
 refine SL.nil ?_
 refine CW.seq ?_
 refine CW.region ?_
 refine SL.v (iv r) ?_
 refine SL.val (v := iv (r % 2)) (w' := w_2) rfl rfl (run_eqv (by kernel_rfl) (congrArg (Value.int .i64) (Int.tmod_eq_emod_of_nonneg (a := r) (b := 2) (by omega)))) ?_
 refine SL.v (.bool ((r % 2) == 1)) ?_
 refine SL.v (iv r) ?_
 refine SL.val (v := iv (r / 2)) (w' := w_2) rfl rfl (by have hw : IntKind.i64.wrap (Int.tdiv r 2) = r / 2 := (by rw [Int.tdiv_eq_ediv_of_nonneg (by omega)]; exact IntWalk.i64_in _ (by omega)); exact run_eqv (by kernel_rfl) (congrArg (Value.int .i64) hw)) ?_
 refine SL.val (v := iv ((r / 2) % 2)) (w' := w_2) rfl rfl (run_eqv (by kernel_rfl) (congrArg (Value.int .i64) (Int.tmod_eq_emod_of_nonneg (a := (r / 2)) (b := 2) (by omega)))) ?_
 refine SL.v (.bool (((r / 2) % 2) == 1)) ?_
 refine SL.v (iv r) ?_
 refine SL.val (v := iv (r / 4)) (w' := w_2) rfl rfl (by have hw : IntKind.i64.wrap (Int.tdiv r 4) = r / 4 := (by rw [Int.tdiv_eq_ediv_of_nonneg (by omega)]; exact IntWalk.i64_in _ (by omega)); exact run_eqv (by kernel_rfl) (congrArg (Value.int .i64) hw)) ?_
 refine SL.val (v := iv ((r / 4) % 2)) (w' := w_2) rfl rfl (run_eqv (by kernel_rfl) (congrArg (Value.int .i64) (Int.tmod_eq_emod_of_nonneg (a := (r / 4)) (b := 2) (by omega)))) ?_
 refine SL.v (.bool (((r / 4) % 2) == 1)) ?_
 refine SL.v (iv r) ?_
 refine SL.val (v := iv (r / 8)) (w' := w_2) rfl rfl (by have hw : IntKind.i64.wrap (Int.tdiv r 8) = r / 8 := (by rw [Int.tdiv_eq_ediv_of_nonneg (by omega)]; exact IntWalk.i64_in _ (by omega)); exact run_eqv (by kernel_rfl) (congrArg (Value.int .i64) hw)) ?_
 refine SL.val (v := iv ((r / 8) % 2)) (w' := w_2) rfl rfl (run_eqv (by kernel_rfl) (congrArg (Value.int .i64) (Int.tmod_eq_emod_of_nonneg (a := (r / 8)) (b := 2) (by omega)))) ?_
 refine SL.v (.bool (((r / 8) % 2) == 1)) ?_
 refine SL.v (iv r) ?_
 refine SL.val (v := iv (r / 16)) (w' := w_2) rfl rfl (by have hw : IntKind.i64.wrap (Int.tdiv r 16) = r / 16 := (by rw [Int.tdiv_eq_ediv_of_nonneg (by omega)]; exact IntWalk.i64_in _ (by omega)); exact run_eqv (by kernel_rfl) (congrArg (Value.int .i64) hw)) ?_
 refine SL.val (v := iv ((r / 16) % 2)) (w' := w_2) rfl rfl (run_eqv (by kernel_rfl) (congrArg (Value.int .i64) (Int.tmod_eq_emod_of_nonneg (a := (r / 16)) (b := 2) (by omega)))) ?_
 refine SL.v (.bool (((r / 16) % 2) == 1)) ?_
 refine SL.v (.agg #[.bool ((r % 2) == 1), .bool (((r / 2) % 2) == 1), .bool (((r / 4) % 2) == 1), .bool (((r / 8) % 2) == 1), .bool (((r / 16) % 2) == 1)]) ?_
 refine SL.store (i := 0) (g := g_1) (off := 0) (v := .agg #[.bool ((r % 2) == 1), .bool (((r / 2) % 2) == 1), .bool (((r / 4) % 2) == 1), .bool (((r / 8) % 2) == 1), .bool (((r / 16) % 2) == 1)]) (L' := [(g_1, .cells #[.bool ((r % 2) == 1), .bool (((r / 2) % 2) == 1), .bool (((r / 4) % 2) == 1), .bool (((r / 8) % 2) == 1), .bool (((r / 16) % 2) == 1)] 98 (0, 0))]) hs_3 rfl rfl rfl (by kernel_rfl) (by kernel_rfl) rfl (by kernel_rfl) (by kernel_rfl) rfl (by kernel_rfl) rfl (fun w_4 hs_5 => ?_)
 refine SL.nil ?_
 refine CW.ret ?_
 repeat with_reducible first | refine PThen.ret ?_ | refine PBlock.ret ?_
 refine PRet.cell (t := 2) (ty := 98) (g := g_1) (v := .agg #[.bool ((r % 2) == 1), .bool (((r / 2) % 2) == 1), .bool (((r / 4) % 2) == 1), .bool (((r / 8) % 2) == 1), .bool (((r / 16) % 2) == 1)]) rfl rfl (by kernel_rfl) (hs_5.all 0 g_1 _ rfl) (by kernel_rfl) ?_
 exact ⟨rfl, hs_5.gr⟩
def rendB (b u k r h : Bool) : Int := (bif b then 1 else 0) + (bif u then 2 else 0) + (bif k then 4 else 0) + (bif r then 8 else 0) + (bif h then 16 else 0)
set_option maxRecDepth 100000 in
set_option maxHeartbeats 4000000 in
theorem rrend_any (b u k r h : Bool) (w : World) : Calls Tryz.prog 42 #[.agg #[.bool b, .bool u, .bool k, .bool r, .bool h]] w fun e w' => e = .returned (.int .u8 (rendB b u k r h)) ∧ Gr w w' := by
 refine calls_sx (n := 26) (args := [.agg #[.bool b, .bool u, .bool k, .bool r, .bool h]]) Tryz.func42 rfl rfl rfl ?_
 have hs0 := Bk.init w
 refine CW.seq ?_
 refine CW.region ?_
 refine SL.new (mk := fun g => pv g 0) (C := #[.bool b, .bool u, .bool k, .bool r, .bool h]) (T := 98) hs0 rfl rfl (by kernel_rfl) (fun g_1 w_2 hs_3 => ?_)
 have hs_3 : Bk w w_2 [(g_1, .cells #[.bool b, .bool u, .bool k, .bool r, .bool h] 98 (0, 0))] := hs_3
 refine SL.v (.int .u8 0) ?_
 refine SL.nil ?_
 refine CW.seq ?_
 refine CW.region ?_
 refine SL.v (iv 0) ?_
 refine SL.nil ?_
 refine CW.seq ?_
 refine CW.seq ?_
 refine CW.region ?_
 refine SL.v (pv g_1 0) ?_
 refine SL.load (g := g_1) (off := 0) (v := .bool b) rfl rfl rfl (by kernel_rfl) (hs_3.all 0 g_1 _ rfl) (by kernel_rfl) ?_
 refine SL.nil ?_
 rcases Bool.eq_false_or_eq_true (b) with hb_4 | hb_4
 ·try rw [hb_4]
  rw [hb_4] at hs_3
  refine CW.cond_true (by kernel_rfl) ?_
  refine CW.region ?_
  refine SL.v (iv 0) ?_
  refine SL.v (iv 1) ?_
  refine SL.v (iv 1) ?_
  refine SL.nil ?_
  refine CW.seq ?_
  refine CW.seq ?_
  refine CW.region ?_
  refine SL.v (pv g_1 1) ?_
  refine SL.load (g := g_1) (off := 1) (v := .bool u) rfl rfl rfl (by kernel_rfl) (hs_3.all 0 g_1 _ rfl) (by kernel_rfl) ?_
  refine SL.nil ?_
  rcases Bool.eq_false_or_eq_true (u) with hb_5 | hb_5
  ·try rw [hb_5]
   rw [hb_5] at hs_3
   refine CW.cond_true (by kernel_rfl) ?_
   refine CW.region ?_
   refine SL.v (iv 1) ?_
   refine SL.v (iv 3) ?_
   refine SL.v (iv 3) ?_
   refine SL.nil ?_
   refine CW.seq ?_
   refine CW.seq ?_
   refine CW.region ?_
   refine SL.v (pv g_1 2) ?_
   refine SL.load (g := g_1) (off := 2) (v := .bool k) rfl rfl rfl (by kernel_rfl) (hs_3.all 0 g_1 _ rfl) (by kernel_rfl) ?_
   refine SL.nil ?_
   rcases Bool.eq_false_or_eq_true (k) with hb_6 | hb_6
   ·try rw [hb_6]
    rw [hb_6] at hs_3
    refine CW.cond_true (by kernel_rfl) ?_
    refine CW.region ?_
    refine SL.v (iv 3) ?_
    refine SL.v (iv 7) ?_
    refine SL.v (iv 7) ?_
    refine SL.nil ?_
    refine CW.seq ?_
    refine CW.seq ?_
    refine CW.region ?_
    refine SL.v (pv g_1 3) ?_
    refine SL.load (g := g_1) (off := 3) (v := .bool r) rfl rfl rfl (by kernel_rfl) (hs_3.all 0 g_1 _ rfl) (by kernel_rfl) ?_
    refine SL.nil ?_
    rcases Bool.eq_false_or_eq_true (r) with hb_7 | hb_7
    ·try rw [hb_7]
     rw [hb_7] at hs_3
     refine CW.cond_true (by kernel_rfl) ?_
     refine CW.region ?_
     refine SL.v (iv 7) ?_
     refine SL.v (iv 15) ?_
     refine SL.v (iv 15) ?_
     refine SL.nil ?_
     refine CW.seq ?_
     refine CW.seq ?_
     refine CW.region ?_
     refine SL.v (pv g_1 4) ?_
     refine SL.load (g := g_1) (off := 4) (v := .bool h) rfl rfl rfl (by kernel_rfl) (hs_3.all 0 g_1 _ rfl) (by kernel_rfl) ?_
     refine SL.nil ?_
     rcases Bool.eq_false_or_eq_true (h) with hb_8 | hb_8
     ·try rw [hb_8]
      rw [hb_8] at hs_3
      refine CW.cond_true (by kernel_rfl) ?_
      refine CW.region ?_
      refine SL.v (iv 15) ?_
      refine SL.v (iv 31) ?_
      refine SL.v (iv 31) ?_
      refine SL.nil ?_
      refine CW.seq ?_
      refine CW.region ?_
      refine SL.v (iv 31) ?_
      refine SL.v (.int .u8 31) ?_
      refine SL.v (.int .u8 31) ?_
      refine SL.nil ?_
      refine CW.ret ?_
      repeat with_reducible first | refine PThen.ret ?_ | refine PBlock.ret ?_
      refine PRet.tmp (t := 2) (v := .int .u8 31) rfl rfl (by kernel_rfl) ?_
      exact ⟨rfl, hs_3.gr⟩
     ·try rw [hb_8]
      rw [hb_8] at hs_3
      refine CW.cond_false (by kernel_rfl) ?_
      refine CW.skip ?_
      refine CW.seq ?_
      refine CW.region ?_
      refine SL.v (iv 15) ?_
      refine SL.v (.int .u8 15) ?_
      refine SL.v (.int .u8 15) ?_
      refine SL.nil ?_
      refine CW.ret ?_
      repeat with_reducible first | refine PThen.ret ?_ | refine PBlock.ret ?_
      refine PRet.tmp (t := 2) (v := .int .u8 15) rfl rfl (by kernel_rfl) ?_
      exact ⟨rfl, hs_3.gr⟩
    ·try rw [hb_7]
     rw [hb_7] at hs_3
     refine CW.cond_false (by kernel_rfl) ?_
     refine CW.skip ?_
     refine CW.seq ?_
     refine CW.seq ?_
     refine CW.region ?_
     refine SL.v (pv g_1 4) ?_
     refine SL.load (g := g_1) (off := 4) (v := .bool h) rfl rfl rfl (by kernel_rfl) (hs_3.all 0 g_1 _ rfl) (by kernel_rfl) ?_
     refine SL.nil ?_
     rcases Bool.eq_false_or_eq_true (h) with hb_9 | hb_9
     ·try rw [hb_9]
      rw [hb_9] at hs_3
      refine CW.cond_true (by kernel_rfl) ?_
      refine CW.region ?_
      refine SL.v (iv 7) ?_
      refine SL.v (iv 23) ?_
      refine SL.v (iv 23) ?_
      refine SL.nil ?_
      refine CW.seq ?_
      refine CW.region ?_
      refine SL.v (iv 23) ?_
      refine SL.v (.int .u8 23) ?_
      refine SL.v (.int .u8 23) ?_
      refine SL.nil ?_
      refine CW.ret ?_
      repeat with_reducible first | refine PThen.ret ?_ | refine PBlock.ret ?_
      refine PRet.tmp (t := 2) (v := .int .u8 23) rfl rfl (by kernel_rfl) ?_
      exact ⟨rfl, hs_3.gr⟩
     ·try rw [hb_9]
      rw [hb_9] at hs_3
      refine CW.cond_false (by kernel_rfl) ?_
      refine CW.skip ?_
      refine CW.seq ?_
      refine CW.region ?_
      refine SL.v (iv 7) ?_
      refine SL.v (.int .u8 7) ?_
      refine SL.v (.int .u8 7) ?_
      refine SL.nil ?_
      refine CW.ret ?_
      repeat with_reducible first | refine PThen.ret ?_ | refine PBlock.ret ?_
      refine PRet.tmp (t := 2) (v := .int .u8 7) rfl rfl (by kernel_rfl) ?_
      exact ⟨rfl, hs_3.gr⟩
   ·try rw [hb_6]
    rw [hb_6] at hs_3
    refine CW.cond_false (by kernel_rfl) ?_
    refine CW.skip ?_
    refine CW.seq ?_
    refine CW.seq ?_
    refine CW.region ?_
    refine SL.v (pv g_1 3) ?_
    refine SL.load (g := g_1) (off := 3) (v := .bool r) rfl rfl rfl (by kernel_rfl) (hs_3.all 0 g_1 _ rfl) (by kernel_rfl) ?_
    refine SL.nil ?_
    rcases Bool.eq_false_or_eq_true (r) with hb_10 | hb_10
    ·try rw [hb_10]
     rw [hb_10] at hs_3
     refine CW.cond_true (by kernel_rfl) ?_
     refine CW.region ?_
     refine SL.v (iv 3) ?_
     refine SL.v (iv 11) ?_
     refine SL.v (iv 11) ?_
     refine SL.nil ?_
     refine CW.seq ?_
     refine CW.seq ?_
     refine CW.region ?_
     refine SL.v (pv g_1 4) ?_
     refine SL.load (g := g_1) (off := 4) (v := .bool h) rfl rfl rfl (by kernel_rfl) (hs_3.all 0 g_1 _ rfl) (by kernel_rfl) ?_
     refine SL.nil ?_
     rcases Bool.eq_false_or_eq_true (h) with hb_11 | hb_11
     ·try rw [hb_11]
      rw [hb_11] at hs_3
      refine CW.cond_true (by kernel_rfl) ?_
      refine CW.region ?_
      refine SL.v (iv 11) ?_
      refine SL.v (iv 27) ?_
      refine SL.v (iv 27) ?_
      refine SL.nil ?_
      refine CW.seq ?_
      refine CW.region ?_
      refine SL.v (iv 27) ?_
      refine SL.v (.int .u8 27) ?_
      refine SL.v (.int .u8 27) ?_
      refine SL.nil ?_
      refine CW.ret ?_
      repeat with_reducible first | refine PThen.ret ?_ | refine PBlock.ret ?_
      refine PRet.tmp (t := 2) (v := .int .u8 27) rfl rfl (by kernel_rfl) ?_
      exact ⟨rfl, hs_3.gr⟩
     ·try rw [hb_11]
      rw [hb_11] at hs_3
      refine CW.cond_false (by kernel_rfl) ?_
      refine CW.skip ?_
      refine CW.seq ?_
      refine CW.region ?_
      refine SL.v (iv 11) ?_
      refine SL.v (.int .u8 11) ?_
      refine SL.v (.int .u8 11) ?_
      refine SL.nil ?_
      refine CW.ret ?_
      repeat with_reducible first | refine PThen.ret ?_ | refine PBlock.ret ?_
      refine PRet.tmp (t := 2) (v := .int .u8 11) rfl rfl (by kernel_rfl) ?_
      exact ⟨rfl, hs_3.gr⟩
    ·try rw [hb_10]
     rw [hb_10] at hs_3
     refine CW.cond_false (by kernel_rfl) ?_
     refine CW.skip ?_
     refine CW.seq ?_
     refine CW.seq ?_
     refine CW.region ?_
     refine SL.v (pv g_1 4) ?_
     refine SL.load (g := g_1) (off := 4) (v := .bool h) rfl rfl rfl (by kernel_rfl) (hs_3.all 0 g_1 _ rfl) (by kernel_rfl) ?_
     refine SL.nil ?_
     rcases Bool.eq_false_or_eq_true (h) with hb_12 | hb_12
     ·try rw [hb_12]
      rw [hb_12] at hs_3
      refine CW.cond_true (by kernel_rfl) ?_
      refine CW.region ?_
      refine SL.v (iv 3) ?_
      refine SL.v (iv 19) ?_
      refine SL.v (iv 19) ?_
      refine SL.nil ?_
      refine CW.seq ?_
      refine CW.region ?_
      refine SL.v (iv 19) ?_
      refine SL.v (.int .u8 19) ?_
      refine SL.v (.int .u8 19) ?_
      refine SL.nil ?_
      refine CW.ret ?_
      repeat with_reducible first | refine PThen.ret ?_ | refine PBlock.ret ?_
      refine PRet.tmp (t := 2) (v := .int .u8 19) rfl rfl (by kernel_rfl) ?_
      exact ⟨rfl, hs_3.gr⟩
     ·try rw [hb_12]
      rw [hb_12] at hs_3
      refine CW.cond_false (by kernel_rfl) ?_
      refine CW.skip ?_
      refine CW.seq ?_
      refine CW.region ?_
      refine SL.v (iv 3) ?_
      refine SL.v (.int .u8 3) ?_
      refine SL.v (.int .u8 3) ?_
      refine SL.nil ?_
      refine CW.ret ?_
      repeat with_reducible first | refine PThen.ret ?_ | refine PBlock.ret ?_
      refine PRet.tmp (t := 2) (v := .int .u8 3) rfl rfl (by kernel_rfl) ?_
      exact ⟨rfl, hs_3.gr⟩
  ·try rw [hb_5]
   rw [hb_5] at hs_3
   refine CW.cond_false (by kernel_rfl) ?_
   refine CW.skip ?_
   refine CW.seq ?_
   refine CW.seq ?_
   refine CW.region ?_
   refine SL.v (pv g_1 2) ?_
   refine SL.load (g := g_1) (off := 2) (v := .bool k) rfl rfl rfl (by kernel_rfl) (hs_3.all 0 g_1 _ rfl) (by kernel_rfl) ?_
   refine SL.nil ?_
   rcases Bool.eq_false_or_eq_true (k) with hb_13 | hb_13
   ·try rw [hb_13]
    rw [hb_13] at hs_3
    refine CW.cond_true (by kernel_rfl) ?_
    refine CW.region ?_
    refine SL.v (iv 1) ?_
    refine SL.v (iv 5) ?_
    refine SL.v (iv 5) ?_
    refine SL.nil ?_
    refine CW.seq ?_
    refine CW.seq ?_
    refine CW.region ?_
    refine SL.v (pv g_1 3) ?_
    refine SL.load (g := g_1) (off := 3) (v := .bool r) rfl rfl rfl (by kernel_rfl) (hs_3.all 0 g_1 _ rfl) (by kernel_rfl) ?_
    refine SL.nil ?_
    rcases Bool.eq_false_or_eq_true (r) with hb_14 | hb_14
    ·try rw [hb_14]
     rw [hb_14] at hs_3
     refine CW.cond_true (by kernel_rfl) ?_
     refine CW.region ?_
     refine SL.v (iv 5) ?_
     refine SL.v (iv 13) ?_
     refine SL.v (iv 13) ?_
     refine SL.nil ?_
     refine CW.seq ?_
     refine CW.seq ?_
     refine CW.region ?_
     refine SL.v (pv g_1 4) ?_
     refine SL.load (g := g_1) (off := 4) (v := .bool h) rfl rfl rfl (by kernel_rfl) (hs_3.all 0 g_1 _ rfl) (by kernel_rfl) ?_
     refine SL.nil ?_
     rcases Bool.eq_false_or_eq_true (h) with hb_15 | hb_15
     ·try rw [hb_15]
      rw [hb_15] at hs_3
      refine CW.cond_true (by kernel_rfl) ?_
      refine CW.region ?_
      refine SL.v (iv 13) ?_
      refine SL.v (iv 29) ?_
      refine SL.v (iv 29) ?_
      refine SL.nil ?_
      refine CW.seq ?_
      refine CW.region ?_
      refine SL.v (iv 29) ?_
      refine SL.v (.int .u8 29) ?_
      refine SL.v (.int .u8 29) ?_
      refine SL.nil ?_
      refine CW.ret ?_
      repeat with_reducible first | refine PThen.ret ?_ | refine PBlock.ret ?_
      refine PRet.tmp (t := 2) (v := .int .u8 29) rfl rfl (by kernel_rfl) ?_
      exact ⟨rfl, hs_3.gr⟩
     ·try rw [hb_15]
      rw [hb_15] at hs_3
      refine CW.cond_false (by kernel_rfl) ?_
      refine CW.skip ?_
      refine CW.seq ?_
      refine CW.region ?_
      refine SL.v (iv 13) ?_
      refine SL.v (.int .u8 13) ?_
      refine SL.v (.int .u8 13) ?_
      refine SL.nil ?_
      refine CW.ret ?_
      repeat with_reducible first | refine PThen.ret ?_ | refine PBlock.ret ?_
      refine PRet.tmp (t := 2) (v := .int .u8 13) rfl rfl (by kernel_rfl) ?_
      exact ⟨rfl, hs_3.gr⟩
    ·try rw [hb_14]
     rw [hb_14] at hs_3
     refine CW.cond_false (by kernel_rfl) ?_
     refine CW.skip ?_
     refine CW.seq ?_
     refine CW.seq ?_
     refine CW.region ?_
     refine SL.v (pv g_1 4) ?_
     refine SL.load (g := g_1) (off := 4) (v := .bool h) rfl rfl rfl (by kernel_rfl) (hs_3.all 0 g_1 _ rfl) (by kernel_rfl) ?_
     refine SL.nil ?_
     rcases Bool.eq_false_or_eq_true (h) with hb_16 | hb_16
     ·try rw [hb_16]
      rw [hb_16] at hs_3
      refine CW.cond_true (by kernel_rfl) ?_
      refine CW.region ?_
      refine SL.v (iv 5) ?_
      refine SL.v (iv 21) ?_
      refine SL.v (iv 21) ?_
      refine SL.nil ?_
      refine CW.seq ?_
      refine CW.region ?_
      refine SL.v (iv 21) ?_
      refine SL.v (.int .u8 21) ?_
      refine SL.v (.int .u8 21) ?_
      refine SL.nil ?_
      refine CW.ret ?_
      repeat with_reducible first | refine PThen.ret ?_ | refine PBlock.ret ?_
      refine PRet.tmp (t := 2) (v := .int .u8 21) rfl rfl (by kernel_rfl) ?_
      exact ⟨rfl, hs_3.gr⟩
     ·try rw [hb_16]
      rw [hb_16] at hs_3
      refine CW.cond_false (by kernel_rfl) ?_
      refine CW.skip ?_
      refine CW.seq ?_
      refine CW.region ?_
      refine SL.v (iv 5) ?_
      refine SL.v (.int .u8 5) ?_
      refine SL.v (.int .u8 5) ?_
      refine SL.nil ?_
      refine CW.ret ?_
      repeat with_reducible first | refine PThen.ret ?_ | refine PBlock.ret ?_
      refine PRet.tmp (t := 2) (v := .int .u8 5) rfl rfl (by kernel_rfl) ?_
      exact ⟨rfl, hs_3.gr⟩
   ·try rw [hb_13]
    rw [hb_13] at hs_3
    refine CW.cond_false (by kernel_rfl) ?_
    refine CW.skip ?_
    refine CW.seq ?_
    refine CW.seq ?_
    refine CW.region ?_
    refine SL.v (pv g_1 3) ?_
    refine SL.load (g := g_1) (off := 3) (v := .bool r) rfl rfl rfl (by kernel_rfl) (hs_3.all 0 g_1 _ rfl) (by kernel_rfl) ?_
    refine SL.nil ?_
    rcases Bool.eq_false_or_eq_true (r) with hb_17 | hb_17
    ·try rw [hb_17]
     rw [hb_17] at hs_3
     refine CW.cond_true (by kernel_rfl) ?_
     refine CW.region ?_
     refine SL.v (iv 1) ?_
     refine SL.v (iv 9) ?_
     refine SL.v (iv 9) ?_
     refine SL.nil ?_
     refine CW.seq ?_
     refine CW.seq ?_
     refine CW.region ?_
     refine SL.v (pv g_1 4) ?_
     refine SL.load (g := g_1) (off := 4) (v := .bool h) rfl rfl rfl (by kernel_rfl) (hs_3.all 0 g_1 _ rfl) (by kernel_rfl) ?_
     refine SL.nil ?_
     rcases Bool.eq_false_or_eq_true (h) with hb_18 | hb_18
     ·try rw [hb_18]
      rw [hb_18] at hs_3
      refine CW.cond_true (by kernel_rfl) ?_
      refine CW.region ?_
      refine SL.v (iv 9) ?_
      refine SL.v (iv 25) ?_
      refine SL.v (iv 25) ?_
      refine SL.nil ?_
      refine CW.seq ?_
      refine CW.region ?_
      refine SL.v (iv 25) ?_
      refine SL.v (.int .u8 25) ?_
      refine SL.v (.int .u8 25) ?_
      refine SL.nil ?_
      refine CW.ret ?_
      repeat with_reducible first | refine PThen.ret ?_ | refine PBlock.ret ?_
      refine PRet.tmp (t := 2) (v := .int .u8 25) rfl rfl (by kernel_rfl) ?_
      exact ⟨rfl, hs_3.gr⟩
     ·try rw [hb_18]
      rw [hb_18] at hs_3
      refine CW.cond_false (by kernel_rfl) ?_
      refine CW.skip ?_
      refine CW.seq ?_
      refine CW.region ?_
      refine SL.v (iv 9) ?_
      refine SL.v (.int .u8 9) ?_
      refine SL.v (.int .u8 9) ?_
      refine SL.nil ?_
      refine CW.ret ?_
      repeat with_reducible first | refine PThen.ret ?_ | refine PBlock.ret ?_
      refine PRet.tmp (t := 2) (v := .int .u8 9) rfl rfl (by kernel_rfl) ?_
      exact ⟨rfl, hs_3.gr⟩
    ·try rw [hb_17]
     rw [hb_17] at hs_3
     refine CW.cond_false (by kernel_rfl) ?_
     refine CW.skip ?_
     refine CW.seq ?_
     refine CW.seq ?_
     refine CW.region ?_
     refine SL.v (pv g_1 4) ?_
     refine SL.load (g := g_1) (off := 4) (v := .bool h) rfl rfl rfl (by kernel_rfl) (hs_3.all 0 g_1 _ rfl) (by kernel_rfl) ?_
     refine SL.nil ?_
     rcases Bool.eq_false_or_eq_true (h) with hb_19 | hb_19
     ·try rw [hb_19]
      rw [hb_19] at hs_3
      refine CW.cond_true (by kernel_rfl) ?_
      refine CW.region ?_
      refine SL.v (iv 1) ?_
      refine SL.v (iv 17) ?_
      refine SL.v (iv 17) ?_
      refine SL.nil ?_
      refine CW.seq ?_
      refine CW.region ?_
      refine SL.v (iv 17) ?_
      refine SL.v (.int .u8 17) ?_
      refine SL.v (.int .u8 17) ?_
      refine SL.nil ?_
      refine CW.ret ?_
      repeat with_reducible first | refine PThen.ret ?_ | refine PBlock.ret ?_
      refine PRet.tmp (t := 2) (v := .int .u8 17) rfl rfl (by kernel_rfl) ?_
      exact ⟨rfl, hs_3.gr⟩
     ·try rw [hb_19]
      rw [hb_19] at hs_3
      refine CW.cond_false (by kernel_rfl) ?_
      refine CW.skip ?_
      refine CW.seq ?_
      refine CW.region ?_
      refine SL.v (iv 1) ?_
      refine SL.v (.int .u8 1) ?_
      refine SL.v (.int .u8 1) ?_
      refine SL.nil ?_
      refine CW.ret ?_
      repeat with_reducible first | refine PThen.ret ?_ | refine PBlock.ret ?_
      refine PRet.tmp (t := 2) (v := .int .u8 1) rfl rfl (by kernel_rfl) ?_
      exact ⟨rfl, hs_3.gr⟩
 ·try rw [hb_4]
  rw [hb_4] at hs_3
  refine CW.cond_false (by kernel_rfl) ?_
  refine CW.skip ?_
  refine CW.seq ?_
  refine CW.seq ?_
  refine CW.region ?_
  refine SL.v (pv g_1 1) ?_
  refine SL.load (g := g_1) (off := 1) (v := .bool u) rfl rfl rfl (by kernel_rfl) (hs_3.all 0 g_1 _ rfl) (by kernel_rfl) ?_
  refine SL.nil ?_
  rcases Bool.eq_false_or_eq_true (u) with hb_20 | hb_20
  ·try rw [hb_20]
   rw [hb_20] at hs_3
   refine CW.cond_true (by kernel_rfl) ?_
   refine CW.region ?_
   refine SL.v (iv 0) ?_
   refine SL.v (iv 2) ?_
   refine SL.v (iv 2) ?_
   refine SL.nil ?_
   refine CW.seq ?_
   refine CW.seq ?_
   refine CW.region ?_
   refine SL.v (pv g_1 2) ?_
   refine SL.load (g := g_1) (off := 2) (v := .bool k) rfl rfl rfl (by kernel_rfl) (hs_3.all 0 g_1 _ rfl) (by kernel_rfl) ?_
   refine SL.nil ?_
   rcases Bool.eq_false_or_eq_true (k) with hb_21 | hb_21
   ·try rw [hb_21]
    rw [hb_21] at hs_3
    refine CW.cond_true (by kernel_rfl) ?_
    refine CW.region ?_
    refine SL.v (iv 2) ?_
    refine SL.v (iv 6) ?_
    refine SL.v (iv 6) ?_
    refine SL.nil ?_
    refine CW.seq ?_
    refine CW.seq ?_
    refine CW.region ?_
    refine SL.v (pv g_1 3) ?_
    refine SL.load (g := g_1) (off := 3) (v := .bool r) rfl rfl rfl (by kernel_rfl) (hs_3.all 0 g_1 _ rfl) (by kernel_rfl) ?_
    refine SL.nil ?_
    rcases Bool.eq_false_or_eq_true (r) with hb_22 | hb_22
    ·try rw [hb_22]
     rw [hb_22] at hs_3
     refine CW.cond_true (by kernel_rfl) ?_
     refine CW.region ?_
     refine SL.v (iv 6) ?_
     refine SL.v (iv 14) ?_
     refine SL.v (iv 14) ?_
     refine SL.nil ?_
     refine CW.seq ?_
     refine CW.seq ?_
     refine CW.region ?_
     refine SL.v (pv g_1 4) ?_
     refine SL.load (g := g_1) (off := 4) (v := .bool h) rfl rfl rfl (by kernel_rfl) (hs_3.all 0 g_1 _ rfl) (by kernel_rfl) ?_
     refine SL.nil ?_
     rcases Bool.eq_false_or_eq_true (h) with hb_23 | hb_23
     ·try rw [hb_23]
      rw [hb_23] at hs_3
      refine CW.cond_true (by kernel_rfl) ?_
      refine CW.region ?_
      refine SL.v (iv 14) ?_
      refine SL.v (iv 30) ?_
      refine SL.v (iv 30) ?_
      refine SL.nil ?_
      refine CW.seq ?_
      refine CW.region ?_
      refine SL.v (iv 30) ?_
      refine SL.v (.int .u8 30) ?_
      refine SL.v (.int .u8 30) ?_
      refine SL.nil ?_
      refine CW.ret ?_
      repeat with_reducible first | refine PThen.ret ?_ | refine PBlock.ret ?_
      refine PRet.tmp (t := 2) (v := .int .u8 30) rfl rfl (by kernel_rfl) ?_
      exact ⟨rfl, hs_3.gr⟩
     ·try rw [hb_23]
      rw [hb_23] at hs_3
      refine CW.cond_false (by kernel_rfl) ?_
      refine CW.skip ?_
      refine CW.seq ?_
      refine CW.region ?_
      refine SL.v (iv 14) ?_
      refine SL.v (.int .u8 14) ?_
      refine SL.v (.int .u8 14) ?_
      refine SL.nil ?_
      refine CW.ret ?_
      repeat with_reducible first | refine PThen.ret ?_ | refine PBlock.ret ?_
      refine PRet.tmp (t := 2) (v := .int .u8 14) rfl rfl (by kernel_rfl) ?_
      exact ⟨rfl, hs_3.gr⟩
    ·try rw [hb_22]
     rw [hb_22] at hs_3
     refine CW.cond_false (by kernel_rfl) ?_
     refine CW.skip ?_
     refine CW.seq ?_
     refine CW.seq ?_
     refine CW.region ?_
     refine SL.v (pv g_1 4) ?_
     refine SL.load (g := g_1) (off := 4) (v := .bool h) rfl rfl rfl (by kernel_rfl) (hs_3.all 0 g_1 _ rfl) (by kernel_rfl) ?_
     refine SL.nil ?_
     rcases Bool.eq_false_or_eq_true (h) with hb_24 | hb_24
     ·try rw [hb_24]
      rw [hb_24] at hs_3
      refine CW.cond_true (by kernel_rfl) ?_
      refine CW.region ?_
      refine SL.v (iv 6) ?_
      refine SL.v (iv 22) ?_
      refine SL.v (iv 22) ?_
      refine SL.nil ?_
      refine CW.seq ?_
      refine CW.region ?_
      refine SL.v (iv 22) ?_
      refine SL.v (.int .u8 22) ?_
      refine SL.v (.int .u8 22) ?_
      refine SL.nil ?_
      refine CW.ret ?_
      repeat with_reducible first | refine PThen.ret ?_ | refine PBlock.ret ?_
      refine PRet.tmp (t := 2) (v := .int .u8 22) rfl rfl (by kernel_rfl) ?_
      exact ⟨rfl, hs_3.gr⟩
     ·try rw [hb_24]
      rw [hb_24] at hs_3
      refine CW.cond_false (by kernel_rfl) ?_
      refine CW.skip ?_
      refine CW.seq ?_
      refine CW.region ?_
      refine SL.v (iv 6) ?_
      refine SL.v (.int .u8 6) ?_
      refine SL.v (.int .u8 6) ?_
      refine SL.nil ?_
      refine CW.ret ?_
      repeat with_reducible first | refine PThen.ret ?_ | refine PBlock.ret ?_
      refine PRet.tmp (t := 2) (v := .int .u8 6) rfl rfl (by kernel_rfl) ?_
      exact ⟨rfl, hs_3.gr⟩
   ·try rw [hb_21]
    rw [hb_21] at hs_3
    refine CW.cond_false (by kernel_rfl) ?_
    refine CW.skip ?_
    refine CW.seq ?_
    refine CW.seq ?_
    refine CW.region ?_
    refine SL.v (pv g_1 3) ?_
    refine SL.load (g := g_1) (off := 3) (v := .bool r) rfl rfl rfl (by kernel_rfl) (hs_3.all 0 g_1 _ rfl) (by kernel_rfl) ?_
    refine SL.nil ?_
    rcases Bool.eq_false_or_eq_true (r) with hb_25 | hb_25
    ·try rw [hb_25]
     rw [hb_25] at hs_3
     refine CW.cond_true (by kernel_rfl) ?_
     refine CW.region ?_
     refine SL.v (iv 2) ?_
     refine SL.v (iv 10) ?_
     refine SL.v (iv 10) ?_
     refine SL.nil ?_
     refine CW.seq ?_
     refine CW.seq ?_
     refine CW.region ?_
     refine SL.v (pv g_1 4) ?_
     refine SL.load (g := g_1) (off := 4) (v := .bool h) rfl rfl rfl (by kernel_rfl) (hs_3.all 0 g_1 _ rfl) (by kernel_rfl) ?_
     refine SL.nil ?_
     rcases Bool.eq_false_or_eq_true (h) with hb_26 | hb_26
     ·try rw [hb_26]
      rw [hb_26] at hs_3
      refine CW.cond_true (by kernel_rfl) ?_
      refine CW.region ?_
      refine SL.v (iv 10) ?_
      refine SL.v (iv 26) ?_
      refine SL.v (iv 26) ?_
      refine SL.nil ?_
      refine CW.seq ?_
      refine CW.region ?_
      refine SL.v (iv 26) ?_
      refine SL.v (.int .u8 26) ?_
      refine SL.v (.int .u8 26) ?_
      refine SL.nil ?_
      refine CW.ret ?_
      repeat with_reducible first | refine PThen.ret ?_ | refine PBlock.ret ?_
      refine PRet.tmp (t := 2) (v := .int .u8 26) rfl rfl (by kernel_rfl) ?_
      exact ⟨rfl, hs_3.gr⟩
     ·try rw [hb_26]
      rw [hb_26] at hs_3
      refine CW.cond_false (by kernel_rfl) ?_
      refine CW.skip ?_
      refine CW.seq ?_
      refine CW.region ?_
      refine SL.v (iv 10) ?_
      refine SL.v (.int .u8 10) ?_
      refine SL.v (.int .u8 10) ?_
      refine SL.nil ?_
      refine CW.ret ?_
      repeat with_reducible first | refine PThen.ret ?_ | refine PBlock.ret ?_
      refine PRet.tmp (t := 2) (v := .int .u8 10) rfl rfl (by kernel_rfl) ?_
      exact ⟨rfl, hs_3.gr⟩
    ·try rw [hb_25]
     rw [hb_25] at hs_3
     refine CW.cond_false (by kernel_rfl) ?_
     refine CW.skip ?_
     refine CW.seq ?_
     refine CW.seq ?_
     refine CW.region ?_
     refine SL.v (pv g_1 4) ?_
     refine SL.load (g := g_1) (off := 4) (v := .bool h) rfl rfl rfl (by kernel_rfl) (hs_3.all 0 g_1 _ rfl) (by kernel_rfl) ?_
     refine SL.nil ?_
     rcases Bool.eq_false_or_eq_true (h) with hb_27 | hb_27
     ·try rw [hb_27]
      rw [hb_27] at hs_3
      refine CW.cond_true (by kernel_rfl) ?_
      refine CW.region ?_
      refine SL.v (iv 2) ?_
      refine SL.v (iv 18) ?_
      refine SL.v (iv 18) ?_
      refine SL.nil ?_
      refine CW.seq ?_
      refine CW.region ?_
      refine SL.v (iv 18) ?_
      refine SL.v (.int .u8 18) ?_
      refine SL.v (.int .u8 18) ?_
      refine SL.nil ?_
      refine CW.ret ?_
      repeat with_reducible first | refine PThen.ret ?_ | refine PBlock.ret ?_
      refine PRet.tmp (t := 2) (v := .int .u8 18) rfl rfl (by kernel_rfl) ?_
      exact ⟨rfl, hs_3.gr⟩
     ·try rw [hb_27]
      rw [hb_27] at hs_3
      refine CW.cond_false (by kernel_rfl) ?_
      refine CW.skip ?_
      refine CW.seq ?_
      refine CW.region ?_
      refine SL.v (iv 2) ?_
      refine SL.v (.int .u8 2) ?_
      refine SL.v (.int .u8 2) ?_
      refine SL.nil ?_
      refine CW.ret ?_
      repeat with_reducible first | refine PThen.ret ?_ | refine PBlock.ret ?_
      refine PRet.tmp (t := 2) (v := .int .u8 2) rfl rfl (by kernel_rfl) ?_
      exact ⟨rfl, hs_3.gr⟩
  ·try rw [hb_20]
   rw [hb_20] at hs_3
   refine CW.cond_false (by kernel_rfl) ?_
   refine CW.skip ?_
   refine CW.seq ?_
   refine CW.seq ?_
   refine CW.region ?_
   refine SL.v (pv g_1 2) ?_
   refine SL.load (g := g_1) (off := 2) (v := .bool k) rfl rfl rfl (by kernel_rfl) (hs_3.all 0 g_1 _ rfl) (by kernel_rfl) ?_
   refine SL.nil ?_
   rcases Bool.eq_false_or_eq_true (k) with hb_28 | hb_28
   ·try rw [hb_28]
    rw [hb_28] at hs_3
    refine CW.cond_true (by kernel_rfl) ?_
    refine CW.region ?_
    refine SL.v (iv 0) ?_
    refine SL.v (iv 4) ?_
    refine SL.v (iv 4) ?_
    refine SL.nil ?_
    refine CW.seq ?_
    refine CW.seq ?_
    refine CW.region ?_
    refine SL.v (pv g_1 3) ?_
    refine SL.load (g := g_1) (off := 3) (v := .bool r) rfl rfl rfl (by kernel_rfl) (hs_3.all 0 g_1 _ rfl) (by kernel_rfl) ?_
    refine SL.nil ?_
    rcases Bool.eq_false_or_eq_true (r) with hb_29 | hb_29
    ·try rw [hb_29]
     rw [hb_29] at hs_3
     refine CW.cond_true (by kernel_rfl) ?_
     refine CW.region ?_
     refine SL.v (iv 4) ?_
     refine SL.v (iv 12) ?_
     refine SL.v (iv 12) ?_
     refine SL.nil ?_
     refine CW.seq ?_
     refine CW.seq ?_
     refine CW.region ?_
     refine SL.v (pv g_1 4) ?_
     refine SL.load (g := g_1) (off := 4) (v := .bool h) rfl rfl rfl (by kernel_rfl) (hs_3.all 0 g_1 _ rfl) (by kernel_rfl) ?_
     refine SL.nil ?_
     rcases Bool.eq_false_or_eq_true (h) with hb_30 | hb_30
     ·try rw [hb_30]
      rw [hb_30] at hs_3
      refine CW.cond_true (by kernel_rfl) ?_
      refine CW.region ?_
      refine SL.v (iv 12) ?_
      refine SL.v (iv 28) ?_
      refine SL.v (iv 28) ?_
      refine SL.nil ?_
      refine CW.seq ?_
      refine CW.region ?_
      refine SL.v (iv 28) ?_
      refine SL.v (.int .u8 28) ?_
      refine SL.v (.int .u8 28) ?_
      refine SL.nil ?_
      refine CW.ret ?_
      repeat with_reducible first | refine PThen.ret ?_ | refine PBlock.ret ?_
      refine PRet.tmp (t := 2) (v := .int .u8 28) rfl rfl (by kernel_rfl) ?_
      exact ⟨rfl, hs_3.gr⟩
     ·try rw [hb_30]
      rw [hb_30] at hs_3
      refine CW.cond_false (by kernel_rfl) ?_
      refine CW.skip ?_
      refine CW.seq ?_
      refine CW.region ?_
      refine SL.v (iv 12) ?_
      refine SL.v (.int .u8 12) ?_
      refine SL.v (.int .u8 12) ?_
      refine SL.nil ?_
      refine CW.ret ?_
      repeat with_reducible first | refine PThen.ret ?_ | refine PBlock.ret ?_
      refine PRet.tmp (t := 2) (v := .int .u8 12) rfl rfl (by kernel_rfl) ?_
      exact ⟨rfl, hs_3.gr⟩
    ·try rw [hb_29]
     rw [hb_29] at hs_3
     refine CW.cond_false (by kernel_rfl) ?_
     refine CW.skip ?_
     refine CW.seq ?_
     refine CW.seq ?_
     refine CW.region ?_
     refine SL.v (pv g_1 4) ?_
     refine SL.load (g := g_1) (off := 4) (v := .bool h) rfl rfl rfl (by kernel_rfl) (hs_3.all 0 g_1 _ rfl) (by kernel_rfl) ?_
     refine SL.nil ?_
     rcases Bool.eq_false_or_eq_true (h) with hb_31 | hb_31
     ·try rw [hb_31]
      rw [hb_31] at hs_3
      refine CW.cond_true (by kernel_rfl) ?_
      refine CW.region ?_
      refine SL.v (iv 4) ?_
      refine SL.v (iv 20) ?_
      refine SL.v (iv 20) ?_
      refine SL.nil ?_
      refine CW.seq ?_
      refine CW.region ?_
      refine SL.v (iv 20) ?_
      refine SL.v (.int .u8 20) ?_
      refine SL.v (.int .u8 20) ?_
      refine SL.nil ?_
      refine CW.ret ?_
      repeat with_reducible first | refine PThen.ret ?_ | refine PBlock.ret ?_
      refine PRet.tmp (t := 2) (v := .int .u8 20) rfl rfl (by kernel_rfl) ?_
      exact ⟨rfl, hs_3.gr⟩
     ·try rw [hb_31]
      rw [hb_31] at hs_3
      refine CW.cond_false (by kernel_rfl) ?_
      refine CW.skip ?_
      refine CW.seq ?_
      refine CW.region ?_
      refine SL.v (iv 4) ?_
      refine SL.v (.int .u8 4) ?_
      refine SL.v (.int .u8 4) ?_
      refine SL.nil ?_
      refine CW.ret ?_
      repeat with_reducible first | refine PThen.ret ?_ | refine PBlock.ret ?_
      refine PRet.tmp (t := 2) (v := .int .u8 4) rfl rfl (by kernel_rfl) ?_
      exact ⟨rfl, hs_3.gr⟩
   ·try rw [hb_28]
    rw [hb_28] at hs_3
    refine CW.cond_false (by kernel_rfl) ?_
    refine CW.skip ?_
    refine CW.seq ?_
    refine CW.seq ?_
    refine CW.region ?_
    refine SL.v (pv g_1 3) ?_
    refine SL.load (g := g_1) (off := 3) (v := .bool r) rfl rfl rfl (by kernel_rfl) (hs_3.all 0 g_1 _ rfl) (by kernel_rfl) ?_
    refine SL.nil ?_
    rcases Bool.eq_false_or_eq_true (r) with hb_32 | hb_32
    ·try rw [hb_32]
     rw [hb_32] at hs_3
     refine CW.cond_true (by kernel_rfl) ?_
     refine CW.region ?_
     refine SL.v (iv 0) ?_
     refine SL.v (iv 8) ?_
     refine SL.v (iv 8) ?_
     refine SL.nil ?_
     refine CW.seq ?_
     refine CW.seq ?_
     refine CW.region ?_
     refine SL.v (pv g_1 4) ?_
     refine SL.load (g := g_1) (off := 4) (v := .bool h) rfl rfl rfl (by kernel_rfl) (hs_3.all 0 g_1 _ rfl) (by kernel_rfl) ?_
     refine SL.nil ?_
     rcases Bool.eq_false_or_eq_true (h) with hb_33 | hb_33
     ·try rw [hb_33]
      rw [hb_33] at hs_3
      refine CW.cond_true (by kernel_rfl) ?_
      refine CW.region ?_
      refine SL.v (iv 8) ?_
      refine SL.v (iv 24) ?_
      refine SL.v (iv 24) ?_
      refine SL.nil ?_
      refine CW.seq ?_
      refine CW.region ?_
      refine SL.v (iv 24) ?_
      refine SL.v (.int .u8 24) ?_
      refine SL.v (.int .u8 24) ?_
      refine SL.nil ?_
      refine CW.ret ?_
      repeat with_reducible first | refine PThen.ret ?_ | refine PBlock.ret ?_
      refine PRet.tmp (t := 2) (v := .int .u8 24) rfl rfl (by kernel_rfl) ?_
      exact ⟨rfl, hs_3.gr⟩
     ·try rw [hb_33]
      rw [hb_33] at hs_3
      refine CW.cond_false (by kernel_rfl) ?_
      refine CW.skip ?_
      refine CW.seq ?_
      refine CW.region ?_
      refine SL.v (iv 8) ?_
      refine SL.v (.int .u8 8) ?_
      refine SL.v (.int .u8 8) ?_
      refine SL.nil ?_
      refine CW.ret ?_
      repeat with_reducible first | refine PThen.ret ?_ | refine PBlock.ret ?_
      refine PRet.tmp (t := 2) (v := .int .u8 8) rfl rfl (by kernel_rfl) ?_
      exact ⟨rfl, hs_3.gr⟩
    ·try rw [hb_32]
     rw [hb_32] at hs_3
     refine CW.cond_false (by kernel_rfl) ?_
     refine CW.skip ?_
     refine CW.seq ?_
     refine CW.seq ?_
     refine CW.region ?_
     refine SL.v (pv g_1 4) ?_
     refine SL.load (g := g_1) (off := 4) (v := .bool h) rfl rfl rfl (by kernel_rfl) (hs_3.all 0 g_1 _ rfl) (by kernel_rfl) ?_
     refine SL.nil ?_
     rcases Bool.eq_false_or_eq_true (h) with hb_34 | hb_34
     ·try rw [hb_34]
      rw [hb_34] at hs_3
      refine CW.cond_true (by kernel_rfl) ?_
      refine CW.region ?_
      refine SL.v (iv 0) ?_
      refine SL.v (iv 16) ?_
      refine SL.v (iv 16) ?_
      refine SL.nil ?_
      refine CW.seq ?_
      refine CW.region ?_
      refine SL.v (iv 16) ?_
      refine SL.v (.int .u8 16) ?_
      refine SL.v (.int .u8 16) ?_
      refine SL.nil ?_
      refine CW.ret ?_
      repeat with_reducible first | refine PThen.ret ?_ | refine PBlock.ret ?_
      refine PRet.tmp (t := 2) (v := .int .u8 16) rfl rfl (by kernel_rfl) ?_
      exact ⟨rfl, hs_3.gr⟩
     ·try rw [hb_34]
      rw [hb_34] at hs_3
      refine CW.cond_false (by kernel_rfl) ?_
      refine CW.skip ?_
      refine CW.seq ?_
      refine CW.region ?_
      refine SL.v (iv 0) ?_
      refine SL.v (.int .u8 0) ?_
      refine SL.v (.int .u8 0) ?_
      refine SL.nil ?_
      refine CW.ret ?_
      repeat with_reducible first | refine PThen.ret ?_ | refine PBlock.ret ?_
      refine PRet.tmp (t := 2) (v := .int .u8 0) rfl rfl (by kernel_rfl) ?_
      exact ⟨rfl, hs_3.gr⟩
theorem rend_of (r : Int) (h0 : 0 ≤ r) (h1 : r < 256) : rendB (r % 2 == 1) (r / 2 % 2 == 1) (r / 4 % 2 == 1) (r / 8 % 2 == 1) (r / 16 % 2 == 1) = r % 32 := by
 have H : ∀ k : Fin 256, rendB ((k.val : Int) % 2 == 1) ((k.val : Int) / 2 % 2 == 1) ((k.val : Int) / 4 % 2 == 1) ((k.val : Int) / 8 % 2 == 1) ((k.val : Int) / 16 % 2 == 1) = (k.val : Int) % 32 := by decide +kernel
 have := H ⟨r.toNat, by omega⟩
 simpa [Int.toNat_of_nonneg h0] using this
theorem st_ofInt (a : BitVec 32) : BitVec.ofInt 32 (a.toNat : Int) = a := by rw [BitVec.ofInt_natCast]; simp
theorem st_and (a b : BitVec 32) : bits .and .u32 (a.toNat : Int) (b.toNat : Int) = ((a &&& b).toNat : Int) := by
 show IntKind.u32.wrap ((BitVec.ofInt 32 (a.toNat : Int) &&& BitVec.ofInt 32 (b.toNat : Int)).toNat : Int) = _
 rw [st_ofInt, st_ofInt, IntKind.wrap_u32]
 have := (a &&& b).isLt
 omega
theorem mclear (m : Int) (h0 : 0 ≤ m) (h1 : m < 4294967296) : bits .and .u32 m 131071 = m % 131072 := by
 have e1 : m = (((BitVec.ofNat 32 m.toNat).toNat : Nat) : Int) := by rw [BitVec.toNat_ofNat]; omega
 have e2 : (131071 : Int) = (((131071#32).toNat : Nat) : Int) := rfl
 have e3 := st_and (BitVec.ofNat 32 m.toNat) 131071#32
 rw [← e1, ← e2, BitVec.toNat_and, show (131071#32).toNat = 2 ^ 17 - 1 from rfl, Nat.and_two_pow_sub_one_eq_mod, BitVec.toNat_ofNat] at e3
 rw [e3]
 omega
/-- A state. -/
structure Cor where
 row : Int
 col : Int
 rend : Int
 kept : Bool
 wrap : Bool
 origin : Bool
 g0 : Int
 g1 : Int
 g2 : Int
 g3 : Int
 gl : Int
 gr : Int
 sg : Int
 pt : Int
 pl : Int
 pb : Int
 pr : Int
 mt : Int
 ml : Int
 mb : Int
 mr : Int
 modes : Int
 level : Int
 eight : Bool
 stream : Bool
 status : Int
 below : Bool
 page : Int
 pages : Int
structure Cor.Ok (c : Cor) : Prop where
 row : I6 c.row
 col : I6 c.col
 rend : 0 ≤ c.rend ∧ c.rend < 256
 g : I6 c.g0 ∧ I6 c.g1 ∧ I6 c.g2 ∧ I6 c.g3
 gl : I6 c.gl
 gr : I6 c.gr
 sg : I6 c.sg
 p : I6 c.pt ∧ I6 c.pl ∧ I6 c.pb ∧ I6 c.pr
 m : I6 c.mt ∧ I6 c.ml ∧ I6 c.mb ∧ I6 c.mr
 modes : 0 ≤ c.modes ∧ c.modes < 4294967296
 level : I6 c.level
 status : I6 c.status
 page : I6 c.page
 pages : I6 c.pages
abbrev cvA (c : Cor) : Array Value := #[iv c.row, iv c.col, .int .u8 c.rend, .bool c.kept, .bool c.wrap, .bool c.origin, iv c.g0, iv c.g1, iv c.g2, iv c.g3, iv c.gl, iv c.gr, iv c.sg, iv c.pt, iv c.pl, iv c.pb, iv c.pr, iv c.mt, iv c.ml, iv c.mb, iv c.mr, .int .u32 c.modes, iv c.level, .bool c.eight, .bool c.stream, iv c.status, .bool c.below, iv c.page, iv c.pages]
abbrev cdA (c : Cor) : Array Value := #[iv c.row, iv c.col, .int .u8 c.rend, .bool c.kept, .bool c.wrap, .bool c.origin, iv c.g0, iv c.g1, iv c.g2, iv c.g3, iv c.gl, iv c.gr, iv c.sg, iv c.pt, iv c.pl, iv c.pb, iv c.pr, iv c.mt, iv c.ml, iv c.mb, iv c.mr, iv c.modes, iv c.level, .bool c.eight, .bool c.stream, iv c.status, .bool c.below, iv c.page, iv c.pages]
abbrev czA : Array Value := #[iv 0, iv 0, .int .u8 0, .bool false, .bool false, .bool false, iv 0, iv 0, iv 0, iv 0, iv 0, iv 0, iv 0, iv 0, iv 0, iv 0, iv 0, iv 0, iv 0, iv 0, iv 0, .int .u32 0, iv 0, .bool false, .bool false, iv 0, .bool false, iv 0, iv 0]
abbrev czD : Array Value := #[iv 0, iv 0, .int .u8 0, .bool false, .bool false, .bool false, iv 0, iv 0, iv 0, iv 0, iv 0, iv 0, iv 0, iv 0, iv 0, iv 0, iv 0, iv 0, iv 0, iv 0, iv 0, iv 0, iv 0, .bool false, .bool false, iv 0, .bool false, iv 0, iv 0]
def Cor.v (c : Cor) : Value := .agg (cvA c)
def Cor.d (c : Cor) : Value := .agg (cdA c)
def Cor.cv (c : Cor) : Value := .agg #[iv c.row, iv c.col, .int .u8 c.rend, .bool c.kept, .bool c.wrap, .bool c.origin, iv c.g0, iv c.g1, iv c.g2, iv c.g3, iv c.gl, iv c.gr, iv c.sg]
def Cor.fv (c : Cor) : Value := .agg #[iv c.pt, iv c.pl, iv c.pb, iv c.pr, iv c.mt, iv c.ml, iv c.mb, iv c.mr]
abbrev qStB_3 (g0 : Int) (g1 : Int) (g2 : Int) (g3 : Int) (gl : Int) (gr : Int) (si : Int) : Array Value := #[iv g0, iv g1, iv g2, iv g3, iv gl, iv gr, iv si]
set_option maxRecDepth 100000 in
set_option maxHeartbeats 4000000 in
theorem own10 (g0 g1 g2 g3 gl gr si : Int) (w : World) : Calls Tryz.prog 55 #[.agg (qStB_3 g0 g1 g2 g3 gl gr si)] w fun e w' => e = .returned (.agg (qStB_3 g0 g1 g2 g3 gl gr si)) ∧ Gr w w' := by
 refine calls_sx (n := 12) (args := [.agg (qStB_3 g0 g1 g2 g3 gl gr si)]) Tryz.func55 rfl rfl rfl ?_
 have hs0 := Bk.init w
 refine CW.seq ?_
 refine CW.region ?_
 refine SL.new (mk := fun g => pv g 0) (C := (qStB_3 g0 g1 g2 g3 gl gr si)) (T := 25) hs0 rfl rfl (by kernel_rfl) (fun g_1 w_2 hs_3 => ?_)
 have hs_3 : Bk w w_2 [(g_1, .cells (qStB_3 g0 g1 g2 g3 gl gr si) 25 (0, 0))] := hs_3
 refine SL.new (mk := fun g => pv g 0) (C := #[iv 0, iv 0, iv 0, iv 0, iv 0, iv 0, iv 0]) (T := 38) hs_3 rfl rfl (by kernel_rfl) (fun g_4 w_5 hs_6 => ?_)
 have hs_6 : Bk w w_5 [(g_1, .cells (qStB_3 g0 g1 g2 g3 gl gr si) 25 (0, 0)), (g_4, .cells #[iv 0, iv 0, iv 0, iv 0, iv 0, iv 0, iv 0] 38 (0, 0))] := hs_6
 refine SL.nil ?_
 refine CW.seq ?_
 refine CW.region ?_
 refine SL.v (pv g_1 0) ?_
 refine SL.load (g := g_1) (off := 0) (v := .agg #[iv g0, iv g1, iv g2, iv g3]) rfl rfl rfl (by kernel_rfl) (hs_6.all 0 g_1 _ rfl) (by kernel_rfl) ?_
 refine SL.v (pv g_1 4) ?_
 refine SL.load (g := g_1) (off := 4) (v := iv gl) rfl rfl rfl (by kernel_rfl) (hs_6.all 0 g_1 _ rfl) (by kernel_rfl) ?_
 refine SL.v (pv g_1 5) ?_
 refine SL.load (g := g_1) (off := 5) (v := iv gr) rfl rfl rfl (by kernel_rfl) (hs_6.all 0 g_1 _ rfl) (by kernel_rfl) ?_
 refine SL.v (pv g_1 6) ?_
 refine SL.load (g := g_1) (off := 6) (v := iv si) rfl rfl rfl (by kernel_rfl) (hs_6.all 0 g_1 _ rfl) (by kernel_rfl) ?_
 refine SL.v (.agg (qStB_3 g0 g1 g2 g3 gl gr si)) ?_
 refine SL.store (i := 1) (g := g_4) (off := 0) (v := .agg (qStB_3 g0 g1 g2 g3 gl gr si)) (L' := [(g_1, .cells (qStB_3 g0 g1 g2 g3 gl gr si) 25 (0, 0)), (g_4, .cells (qStB_3 g0 g1 g2 g3 gl gr si) 38 (0, 0))]) hs_6 rfl rfl rfl (by kernel_rfl) (by kernel_rfl) rfl (by kernel_rfl) (by kernel_rfl) rfl (by kernel_rfl) rfl (fun w_7 hs_8 => ?_)
 refine SL.nil ?_
 refine CW.ret ?_
 repeat with_reducible first | refine PThen.ret ?_ | refine PBlock.ret ?_
 refine PRet.cell (t := 2) (ty := 38) (g := g_4) (v := .agg (qStB_3 g0 g1 g2 g3 gl gr si)) rfl rfl (by kernel_rfl) (hs_8.all 1 g_4 _ rfl) (by kernel_rfl) ?_
 exact ⟨rfl, hs_8.gr⟩
set_option maxRecDepth 100000 in
set_option maxHeartbeats 4000000 in
theorem told10 (g0 g1 g2 g3 gl gr si : Int) (w : World) : Calls Tryz.prog 80 #[.agg (qStB_3 g0 g1 g2 g3 gl gr si)] w fun e w' => e = .returned (.agg (qStB_3 g0 g1 g2 g3 gl gr si)) ∧ Gr w w' := by
 refine calls_sx (n := 12) (args := [.agg (qStB_3 g0 g1 g2 g3 gl gr si)]) Tryz.func80 rfl rfl rfl ?_
 have hs0 := Bk.init w
 refine CW.seq ?_
 refine CW.region ?_
 refine SL.new (mk := fun g => pv g 0) (C := (qStB_3 g0 g1 g2 g3 gl gr si)) (T := 38) hs0 rfl rfl (by kernel_rfl) (fun g_1 w_2 hs_3 => ?_)
 have hs_3 : Bk w w_2 [(g_1, .cells (qStB_3 g0 g1 g2 g3 gl gr si) 38 (0, 0))] := hs_3
 refine SL.new (mk := fun g => pv g 0) (C := #[iv 0, iv 0, iv 0, iv 0, iv 0, iv 0, iv 0]) (T := 25) hs_3 rfl rfl (by kernel_rfl) (fun g_4 w_5 hs_6 => ?_)
 have hs_6 : Bk w w_5 [(g_1, .cells (qStB_3 g0 g1 g2 g3 gl gr si) 38 (0, 0)), (g_4, .cells #[iv 0, iv 0, iv 0, iv 0, iv 0, iv 0, iv 0] 25 (0, 0))] := hs_6
 refine SL.nil ?_
 refine CW.seq ?_
 refine CW.region ?_
 refine SL.v (pv g_1 0) ?_
 refine SL.load (g := g_1) (off := 0) (v := .agg #[iv g0, iv g1, iv g2, iv g3]) rfl rfl rfl (by kernel_rfl) (hs_6.all 0 g_1 _ rfl) (by kernel_rfl) ?_
 refine SL.v (pv g_1 4) ?_
 refine SL.load (g := g_1) (off := 4) (v := iv gl) rfl rfl rfl (by kernel_rfl) (hs_6.all 0 g_1 _ rfl) (by kernel_rfl) ?_
 refine SL.v (pv g_1 5) ?_
 refine SL.load (g := g_1) (off := 5) (v := iv gr) rfl rfl rfl (by kernel_rfl) (hs_6.all 0 g_1 _ rfl) (by kernel_rfl) ?_
 refine SL.v (pv g_1 6) ?_
 refine SL.load (g := g_1) (off := 6) (v := iv si) rfl rfl rfl (by kernel_rfl) (hs_6.all 0 g_1 _ rfl) (by kernel_rfl) ?_
 refine SL.v (.agg (qStB_3 g0 g1 g2 g3 gl gr si)) ?_
 refine SL.store (i := 1) (g := g_4) (off := 0) (v := .agg (qStB_3 g0 g1 g2 g3 gl gr si)) (L' := [(g_1, .cells (qStB_3 g0 g1 g2 g3 gl gr si) 38 (0, 0)), (g_4, .cells (qStB_3 g0 g1 g2 g3 gl gr si) 25 (0, 0))]) hs_6 rfl rfl rfl (by kernel_rfl) (by kernel_rfl) rfl (by kernel_rfl) (by kernel_rfl) rfl (by kernel_rfl) rfl (fun w_7 hs_8 => ?_)
 refine SL.nil ?_
 refine CW.ret ?_
 repeat with_reducible first | refine PThen.ret ?_ | refine PBlock.ret ?_
 refine PRet.cell (t := 2) (ty := 25) (g := g_4) (v := .agg (qStB_3 g0 g1 g2 g3 gl gr si)) rfl rfl (by kernel_rfl) (hs_8.all 1 g_4 _ rfl) (by kernel_rfl) ?_
 exact ⟨rfl, hs_8.gr⟩
abbrev qStB_0 (c : Cor) : Array Value := #[iv c.row, iv c.col, .int .u8 c.rend, .bool c.kept, .bool c.wrap, .bool c.origin, iv c.g0, iv c.g1, iv c.g2, iv c.g3, iv c.gl, iv c.gr, iv c.sg]
abbrev qStB_2 (c : Cor) : Array Value := #[iv c.g0, iv c.g1, iv c.g2, iv c.g3, iv c.gl, iv c.gr, iv c.sg]
abbrev qStB_4  : Array Value := #[iv 0, iv 0, .int .u8 0, .bool false, .bool false, .bool false, iv 0, iv 0, iv 0, iv 0, iv 0, iv 0, iv 0]
set_option maxRecDepth 100000 in
set_option maxHeartbeats 4000000 in
theorem own13 (c : Cor) (w : World) : Calls Tryz.prog 18 #[.agg (qStB_0 c)] w fun e w' => e = .returned (c.cv) ∧ Gr w w' := by
 refine calls_sx (n := 20) (args := [.agg (qStB_0 c)]) Tryz.func18 rfl rfl rfl ?_
 have hs0 := Bk.init w
 refine CW.seq ?_
 refine CW.region ?_
 refine SL.new (mk := fun g => pv g 0) (C := (qStB_0 c)) (T := 27) hs0 rfl rfl (by kernel_rfl) (fun g_1 w_2 hs_3 => ?_)
 have hs_3 : Bk w w_2 [(g_1, .cells (qStB_0 c) 27 (0, 0))] := hs_3
 refine SL.new (mk := fun g => pv g 0) (C := (qStB_4)) (T := 40) hs_3 rfl rfl (by kernel_rfl) (fun g_4 w_5 hs_6 => ?_)
 have hs_6 : Bk w w_5 [(g_1, .cells (qStB_0 c) 27 (0, 0)), (g_4, .cells (qStB_4) 40 (0, 0))] := hs_6
 refine SL.nil ?_
 refine CW.seq ?_
 have HGR : GrL [fun v _ => v = pv g_1 0, fun v _ => v = iv c.row, fun v _ => v = pv g_1 1, fun v _ => v = iv c.col, fun v _ => v = .agg #[iv c.row, iv c.col], fun v _ => v = pv g_1 2, fun v _ => v = .int .u8 c.rend, fun v _ => v = pv g_1 3, fun v _ => v = .bool c.kept, fun v _ => v = pv g_1 4, fun v _ => v = .bool c.wrap, fun v _ => v = pv g_1 5, fun v _ => v = .bool c.origin, fun v _ => v = pv g_1 6, fun v _ => v = .agg (qStB_2 c), fun v _ => v = .agg (qStB_2 c)] := ⟨fun _ _ _ _ h => h, ⟨fun _ _ _ _ h => h, ⟨fun _ _ _ _ h => h, ⟨fun _ _ _ _ h => h, ⟨fun _ _ _ _ h => h, ⟨fun _ _ _ _ h => h, ⟨fun _ _ _ _ h => h, ⟨fun _ _ _ _ h => h, ⟨fun _ _ _ _ h => h, ⟨fun _ _ _ _ h => h, ⟨fun _ _ _ _ h => h, ⟨fun _ _ _ _ h => h, ⟨fun _ _ _ _ h => h, ⟨fun _ _ _ _ h => h, ⟨fun _ _ _ _ h => h, ⟨fun _ _ _ _ h => h, trivial⟩⟩⟩⟩⟩⟩⟩⟩⟩⟩⟩⟩⟩⟩⟩⟩
 refine CW.draw 16 (FW [fun v _ => v = pv g_1 0, fun v _ => v = iv c.row, fun v _ => v = pv g_1 1, fun v _ => v = iv c.col, fun v _ => v = .agg #[iv c.row, iv c.col], fun v _ => v = pv g_1 2, fun v _ => v = .int .u8 c.rend, fun v _ => v = pv g_1 3, fun v _ => v = .bool c.kept, fun v _ => v = pv g_1 4, fun v _ => v = .bool c.wrap, fun v _ => v = pv g_1 5, fun v _ => v = .bool c.origin, fun v _ => v = pv g_1 6, fun v _ => v = .agg (qStB_2 c), fun v _ => v = .agg (qStB_2 c)]) (fun W => Bk w W [(g_1, .cells (qStB_0 c) 27 (0, 0)), (g_4, .cells (qStB_4) 40 (0, 0))] ∧ Gr w_5 W) (by kernel_rfl) (by kernel_rfl) (by kernel_rfl) (by kernel_rfl) (by kernel_rfl) ⟨hs_6.drew, (Gr.refl _).drew⟩ ?_ ?_
 ·refine ⟨?_, ⟨?_, ⟨?_, ⟨?_, ⟨?_, ⟨?_, ⟨?_, ⟨?_, ⟨?_, ⟨?_, ⟨?_, ⟨?_, ⟨?_, ⟨?_, ⟨?_, ⟨?_, trivial⟩⟩⟩⟩⟩⟩⟩⟩⟩⟩⟩⟩⟩⟩⟩⟩
  ·intro L ys W hB hF hP K hK
   show OpE _ _ _ W K
   exact OpE.val (pv g_1 0) W (by kernel_rfl) (hK _ W hB rfl (fun _ _ h => h))
  ·intro L ys W hB hF hP K hK
   show OpE _ _ _ W K
   exact OpE.known (j := 0) (v := pv g_1 0) (hF 0 (hP.1 rfl)) (OpE.load (g := g_1) (off := 0) (v := iv c.row) rfl (by kernel_rfl) (hB.1.all 0 g_1 _ rfl) (by kernel_rfl) (hK _ W hB rfl (fun _ _ h => h)))
  ·intro L ys W hB hF hP K hK
   show OpE _ _ _ W K
   exact OpE.val (pv g_1 1) W (by kernel_rfl) (hK _ W hB rfl (fun _ _ h => h))
  ·intro L ys W hB hF hP K hK
   show OpE _ _ _ W K
   exact OpE.known (j := 2) (v := pv g_1 1) (hF 2 (hP.1 rfl)) (OpE.load (g := g_1) (off := 1) (v := iv c.col) rfl (by kernel_rfl) (hB.1.all 0 g_1 _ rfl) (by kernel_rfl) (hK _ W hB rfl (fun _ _ h => h)))
  ·intro L ys W hB hF hP K hK
   show OpE _ _ _ W K
   exact OpE.known (j := 1) (v := iv c.row) (hF 1 (hP.1 rfl)) (OpE.known (j := 3) (v := iv c.col) (hF 3 (hP.2.1 rfl)) (OpE.val (.agg #[iv c.row, iv c.col]) W (by kernel_rfl) (hK _ W hB rfl (fun _ _ h => h))))
  ·intro L ys W hB hF hP K hK
   show OpE _ _ _ W K
   exact OpE.val (pv g_1 2) W (by kernel_rfl) (hK _ W hB rfl (fun _ _ h => h))
  ·intro L ys W hB hF hP K hK
   show OpE _ _ _ W K
   exact OpE.known (j := 5) (v := pv g_1 2) (hF 5 (hP.1 rfl)) (OpE.load (g := g_1) (off := 2) (v := .int .u8 c.rend) rfl (by kernel_rfl) (hB.1.all 0 g_1 _ rfl) (by kernel_rfl) (hK _ W hB rfl (fun _ _ h => h)))
  ·intro L ys W hB hF hP K hK
   show OpE _ _ _ W K
   exact OpE.val (pv g_1 3) W (by kernel_rfl) (hK _ W hB rfl (fun _ _ h => h))
  ·intro L ys W hB hF hP K hK
   show OpE _ _ _ W K
   exact OpE.known (j := 7) (v := pv g_1 3) (hF 7 (hP.1 rfl)) (OpE.load (g := g_1) (off := 3) (v := .bool c.kept) rfl (by kernel_rfl) (hB.1.all 0 g_1 _ rfl) (by kernel_rfl) (hK _ W hB rfl (fun _ _ h => h)))
  ·intro L ys W hB hF hP K hK
   show OpE _ _ _ W K
   exact OpE.val (pv g_1 4) W (by kernel_rfl) (hK _ W hB rfl (fun _ _ h => h))
  ·intro L ys W hB hF hP K hK
   show OpE _ _ _ W K
   exact OpE.known (j := 9) (v := pv g_1 4) (hF 9 (hP.1 rfl)) (OpE.load (g := g_1) (off := 4) (v := .bool c.wrap) rfl (by kernel_rfl) (hB.1.all 0 g_1 _ rfl) (by kernel_rfl) (hK _ W hB rfl (fun _ _ h => h)))
  ·intro L ys W hB hF hP K hK
   show OpE _ _ _ W K
   exact OpE.val (pv g_1 5) W (by kernel_rfl) (hK _ W hB rfl (fun _ _ h => h))
  ·intro L ys W hB hF hP K hK
   show OpE _ _ _ W K
   exact OpE.known (j := 11) (v := pv g_1 5) (hF 11 (hP.1 rfl)) (OpE.load (g := g_1) (off := 5) (v := .bool c.origin) rfl (by kernel_rfl) (hB.1.all 0 g_1 _ rfl) (by kernel_rfl) (hK _ W hB rfl (fun _ _ h => h)))
  ·intro L ys W hB hF hP K hK
   show OpE _ _ _ W K
   exact OpE.val (pv g_1 6) W (by kernel_rfl) (hK _ W hB rfl (fun _ _ h => h))
  ·intro L ys W hB hF hP K hK
   show OpE _ _ _ W K
   exact OpE.known (j := 13) (v := pv g_1 6) (hF 13 (hP.1 rfl)) (OpE.load (g := g_1) (off := 6) (v := .agg (qStB_2 c)) rfl (by kernel_rfl) (hB.1.all 0 g_1 _ rfl) (by kernel_rfl) (hK _ W hB rfl (fun _ _ h => h)))
  ·intro L ys W hB hF hP K hK
   show OpE _ _ _ W K
   exact OpE.known (j := 14) (v := .agg (qStB_2 c)) (hF 14 (hP.1 rfl)) (OpE.call 55 #[.agg (qStB_2 c)] W _ (by kernel_rfl) (own10 c.g0 c.g1 c.g2 c.g3 c.gl c.gr c.sg W) (fun x w' hx => by obtain ⟨rfl, hg⟩ := hx; exact ⟨_, rfl, hK _ w' ⟨hB.1.grow hg, hB.2.trans hg⟩ rfl (fun _ _ h => FW.gr HGR hg h)⟩))
 ·intro ys_10 w_7 hs_8 hF_9
  have hs_8 : Bk w w_7 [(g_1, .cells (qStB_0 c) 27 (0, 0)), (g_4, .cells (qStB_4) 40 (0, 0))] := hs_8.1
  refine SL.knownY (j := 4) (v := .agg #[iv c.row, iv c.col]) (show ys_10 4 = .agg #[iv c.row, iv c.col] from hF_9 4 (by decide)) (SL.knownY (j := 6) (v := .int .u8 c.rend) (show ys_10 6 = .int .u8 c.rend from hF_9 6 (by decide)) (SL.knownY (j := 8) (v := .bool c.kept) (show ys_10 8 = .bool c.kept from hF_9 8 (by decide)) (SL.knownY (j := 10) (v := .bool c.wrap) (show ys_10 10 = .bool c.wrap from hF_9 10 (by decide)) (SL.knownY (j := 12) (v := .bool c.origin) (show ys_10 12 = .bool c.origin from hF_9 12 (by decide)) (SL.knownY (j := 15) (v := .agg (qStB_2 c)) (show ys_10 15 = .agg (qStB_2 c) from hF_9 15 (by decide)) (?_))))))
  clear hF_9 HGR
  refine SL.v (.agg (qStB_0 c)) ?_
  refine SL.store (i := 1) (g := g_4) (off := 0) (v := .agg (qStB_0 c)) (L' := [(g_1, .cells (qStB_0 c) 27 (0, 0)), (g_4, .cells (qStB_0 c) 40 (0, 0))]) hs_8 rfl rfl rfl (by kernel_rfl) (by kernel_rfl) rfl (by kernel_rfl) (by kernel_rfl) rfl (by kernel_rfl) rfl (fun w_11 hs_12 => ?_)
  refine SL.nil ?_
  refine CW.ret ?_
  repeat with_reducible first | refine PThen.ret ?_ | refine PBlock.ret ?_
  refine PRet.cell (t := 2) (ty := 40) (g := g_4) (v := .agg (qStB_0 c)) rfl rfl (by kernel_rfl) (hs_12.all 1 g_4 _ rfl) (by kernel_rfl) ?_
  exact ⟨rfl, hs_12.gr⟩
set_option maxRecDepth 100000 in
set_option maxHeartbeats 4000000 in
theorem told13 (c : Cor) (w : World) : Calls Tryz.prog 38 #[.agg (qStB_0 c)] w fun e w' => e = .returned (c.cv) ∧ Gr w w' := by
 refine calls_sx (n := 21) (args := [.agg (qStB_0 c)]) Tryz.func38 rfl rfl rfl ?_
 have hs0 := Bk.init w
 refine CW.seq ?_
 refine CW.region ?_
 refine SL.new (mk := fun g => pv g 0) (C := (qStB_0 c)) (T := 40) hs0 rfl rfl (by kernel_rfl) (fun g_1 w_2 hs_3 => ?_)
 have hs_3 : Bk w w_2 [(g_1, .cells (qStB_0 c) 40 (0, 0))] := hs_3
 refine SL.new (mk := fun g => pv g 0) (C := (qStB_4)) (T := 27) hs_3 rfl rfl (by kernel_rfl) (fun g_4 w_5 hs_6 => ?_)
 have hs_6 : Bk w w_5 [(g_1, .cells (qStB_0 c) 40 (0, 0)), (g_4, .cells (qStB_4) 27 (0, 0))] := hs_6
 refine SL.nil ?_
 refine CW.seq ?_
 have HGR : GrL [fun v _ => v = pv g_1 0, fun v _ => v = pv g_1 0, fun v _ => v = iv c.row, fun v _ => v = pv g_1 0, fun v _ => v = pv g_1 1, fun v _ => v = iv c.col, fun v _ => v = pv g_1 2, fun v _ => v = .int .u8 c.rend, fun v _ => v = pv g_1 3, fun v _ => v = .bool c.kept, fun v _ => v = pv g_1 4, fun v _ => v = .bool c.wrap, fun v _ => v = pv g_1 5, fun v _ => v = .bool c.origin, fun v _ => v = pv g_1 6, fun v _ => v = .agg (qStB_2 c), fun v _ => v = .agg (qStB_2 c)] := ⟨fun _ _ _ _ h => h, ⟨fun _ _ _ _ h => h, ⟨fun _ _ _ _ h => h, ⟨fun _ _ _ _ h => h, ⟨fun _ _ _ _ h => h, ⟨fun _ _ _ _ h => h, ⟨fun _ _ _ _ h => h, ⟨fun _ _ _ _ h => h, ⟨fun _ _ _ _ h => h, ⟨fun _ _ _ _ h => h, ⟨fun _ _ _ _ h => h, ⟨fun _ _ _ _ h => h, ⟨fun _ _ _ _ h => h, ⟨fun _ _ _ _ h => h, ⟨fun _ _ _ _ h => h, ⟨fun _ _ _ _ h => h, ⟨fun _ _ _ _ h => h, trivial⟩⟩⟩⟩⟩⟩⟩⟩⟩⟩⟩⟩⟩⟩⟩⟩⟩
 refine CW.draw 17 (FW [fun v _ => v = pv g_1 0, fun v _ => v = pv g_1 0, fun v _ => v = iv c.row, fun v _ => v = pv g_1 0, fun v _ => v = pv g_1 1, fun v _ => v = iv c.col, fun v _ => v = pv g_1 2, fun v _ => v = .int .u8 c.rend, fun v _ => v = pv g_1 3, fun v _ => v = .bool c.kept, fun v _ => v = pv g_1 4, fun v _ => v = .bool c.wrap, fun v _ => v = pv g_1 5, fun v _ => v = .bool c.origin, fun v _ => v = pv g_1 6, fun v _ => v = .agg (qStB_2 c), fun v _ => v = .agg (qStB_2 c)]) (fun W => Bk w W [(g_1, .cells (qStB_0 c) 40 (0, 0)), (g_4, .cells (qStB_4) 27 (0, 0))] ∧ Gr w_5 W) (by kernel_rfl) (by kernel_rfl) (by kernel_rfl) (by kernel_rfl) (by kernel_rfl) ⟨hs_6.drew, (Gr.refl _).drew⟩ ?_ ?_
 ·refine ⟨?_, ⟨?_, ⟨?_, ⟨?_, ⟨?_, ⟨?_, ⟨?_, ⟨?_, ⟨?_, ⟨?_, ⟨?_, ⟨?_, ⟨?_, ⟨?_, ⟨?_, ⟨?_, ⟨?_, trivial⟩⟩⟩⟩⟩⟩⟩⟩⟩⟩⟩⟩⟩⟩⟩⟩⟩
  ·intro L ys W hB hF hP K hK
   show OpE _ _ _ W K
   exact OpE.val (pv g_1 0) W (by kernel_rfl) (hK _ W hB rfl (fun _ _ h => h))
  ·intro L ys W hB hF hP K hK
   show OpE _ _ _ W K
   exact OpE.known (j := 0) (v := pv g_1 0) (hF 0 (hP.1 rfl)) (OpE.val (pv g_1 0) W (by kernel_rfl) (hK _ W hB rfl (fun _ _ h => h)))
  ·intro L ys W hB hF hP K hK
   show OpE _ _ _ W K
   exact OpE.known (j := 1) (v := pv g_1 0) (hF 1 (hP.1 rfl)) (OpE.load (g := g_1) (off := 0) (v := iv c.row) rfl (by kernel_rfl) (hB.1.all 0 g_1 _ rfl) (by kernel_rfl) (hK _ W hB rfl (fun _ _ h => h)))
  ·intro L ys W hB hF hP K hK
   show OpE _ _ _ W K
   exact OpE.val (pv g_1 0) W (by kernel_rfl) (hK _ W hB rfl (fun _ _ h => h))
  ·intro L ys W hB hF hP K hK
   show OpE _ _ _ W K
   exact OpE.known (j := 3) (v := pv g_1 0) (hF 3 (hP.1 rfl)) (OpE.val (pv g_1 1) W (by kernel_rfl) (hK _ W hB rfl (fun _ _ h => h)))
  ·intro L ys W hB hF hP K hK
   show OpE _ _ _ W K
   exact OpE.known (j := 4) (v := pv g_1 1) (hF 4 (hP.1 rfl)) (OpE.load (g := g_1) (off := 1) (v := iv c.col) rfl (by kernel_rfl) (hB.1.all 0 g_1 _ rfl) (by kernel_rfl) (hK _ W hB rfl (fun _ _ h => h)))
  ·intro L ys W hB hF hP K hK
   show OpE _ _ _ W K
   exact OpE.val (pv g_1 2) W (by kernel_rfl) (hK _ W hB rfl (fun _ _ h => h))
  ·intro L ys W hB hF hP K hK
   show OpE _ _ _ W K
   exact OpE.known (j := 6) (v := pv g_1 2) (hF 6 (hP.1 rfl)) (OpE.load (g := g_1) (off := 2) (v := .int .u8 c.rend) rfl (by kernel_rfl) (hB.1.all 0 g_1 _ rfl) (by kernel_rfl) (hK _ W hB rfl (fun _ _ h => h)))
  ·intro L ys W hB hF hP K hK
   show OpE _ _ _ W K
   exact OpE.val (pv g_1 3) W (by kernel_rfl) (hK _ W hB rfl (fun _ _ h => h))
  ·intro L ys W hB hF hP K hK
   show OpE _ _ _ W K
   exact OpE.known (j := 8) (v := pv g_1 3) (hF 8 (hP.1 rfl)) (OpE.load (g := g_1) (off := 3) (v := .bool c.kept) rfl (by kernel_rfl) (hB.1.all 0 g_1 _ rfl) (by kernel_rfl) (hK _ W hB rfl (fun _ _ h => h)))
  ·intro L ys W hB hF hP K hK
   show OpE _ _ _ W K
   exact OpE.val (pv g_1 4) W (by kernel_rfl) (hK _ W hB rfl (fun _ _ h => h))
  ·intro L ys W hB hF hP K hK
   show OpE _ _ _ W K
   exact OpE.known (j := 10) (v := pv g_1 4) (hF 10 (hP.1 rfl)) (OpE.load (g := g_1) (off := 4) (v := .bool c.wrap) rfl (by kernel_rfl) (hB.1.all 0 g_1 _ rfl) (by kernel_rfl) (hK _ W hB rfl (fun _ _ h => h)))
  ·intro L ys W hB hF hP K hK
   show OpE _ _ _ W K
   exact OpE.val (pv g_1 5) W (by kernel_rfl) (hK _ W hB rfl (fun _ _ h => h))
  ·intro L ys W hB hF hP K hK
   show OpE _ _ _ W K
   exact OpE.known (j := 12) (v := pv g_1 5) (hF 12 (hP.1 rfl)) (OpE.load (g := g_1) (off := 5) (v := .bool c.origin) rfl (by kernel_rfl) (hB.1.all 0 g_1 _ rfl) (by kernel_rfl) (hK _ W hB rfl (fun _ _ h => h)))
  ·intro L ys W hB hF hP K hK
   show OpE _ _ _ W K
   exact OpE.val (pv g_1 6) W (by kernel_rfl) (hK _ W hB rfl (fun _ _ h => h))
  ·intro L ys W hB hF hP K hK
   show OpE _ _ _ W K
   exact OpE.known (j := 14) (v := pv g_1 6) (hF 14 (hP.1 rfl)) (OpE.load (g := g_1) (off := 6) (v := .agg (qStB_2 c)) rfl (by kernel_rfl) (hB.1.all 0 g_1 _ rfl) (by kernel_rfl) (hK _ W hB rfl (fun _ _ h => h)))
  ·intro L ys W hB hF hP K hK
   show OpE _ _ _ W K
   exact OpE.known (j := 15) (v := .agg (qStB_2 c)) (hF 15 (hP.1 rfl)) (OpE.call 80 #[.agg (qStB_2 c)] W _ (by kernel_rfl) (told10 c.g0 c.g1 c.g2 c.g3 c.gl c.gr c.sg W) (fun x w' hx => by obtain ⟨rfl, hg⟩ := hx; exact ⟨_, rfl, hK _ w' ⟨hB.1.grow hg, hB.2.trans hg⟩ rfl (fun _ _ h => FW.gr HGR hg h)⟩))
 ·intro ys_10 w_7 hs_8 hF_9
  have hs_8 : Bk w w_7 [(g_1, .cells (qStB_0 c) 40 (0, 0)), (g_4, .cells (qStB_4) 27 (0, 0))] := hs_8.1
  refine SL.knownY (j := 2) (v := iv c.row) (show ys_10 2 = iv c.row from hF_9 2 (by decide)) (SL.knownY (j := 5) (v := iv c.col) (show ys_10 5 = iv c.col from hF_9 5 (by decide)) (SL.knownY (j := 7) (v := .int .u8 c.rend) (show ys_10 7 = .int .u8 c.rend from hF_9 7 (by decide)) (SL.knownY (j := 9) (v := .bool c.kept) (show ys_10 9 = .bool c.kept from hF_9 9 (by decide)) (SL.knownY (j := 11) (v := .bool c.wrap) (show ys_10 11 = .bool c.wrap from hF_9 11 (by decide)) (SL.knownY (j := 13) (v := .bool c.origin) (show ys_10 13 = .bool c.origin from hF_9 13 (by decide)) (SL.knownY (j := 16) (v := .agg (qStB_2 c)) (show ys_10 16 = .agg (qStB_2 c) from hF_9 16 (by decide)) (?_)))))))
  clear hF_9 HGR
  refine SL.v (.agg (qStB_0 c)) ?_
  refine SL.store (i := 1) (g := g_4) (off := 0) (v := .agg (qStB_0 c)) (L' := [(g_1, .cells (qStB_0 c) 40 (0, 0)), (g_4, .cells (qStB_0 c) 27 (0, 0))]) hs_8 rfl rfl rfl (by kernel_rfl) (by kernel_rfl) rfl (by kernel_rfl) (by kernel_rfl) rfl (by kernel_rfl) rfl (fun w_11 hs_12 => ?_)
  refine SL.nil ?_
  refine CW.ret ?_
  repeat with_reducible first | refine PThen.ret ?_ | refine PBlock.ret ?_
  refine PRet.cell (t := 2) (ty := 27) (g := g_4) (v := .agg (qStB_0 c)) rfl rfl (by kernel_rfl) (hs_12.all 1 g_4 _ rfl) (by kernel_rfl) ?_
  exact ⟨rfl, hs_12.gr⟩
abbrev qStB_1 (c : Cor) : Array Value := #[iv c.pt, iv c.pl, iv c.pb, iv c.pr, iv c.mt, iv c.ml, iv c.mb, iv c.mr]
set_option maxRecDepth 100000 in
set_option maxHeartbeats 4000000 in
theorem frame13 (c : Cor) (w : World) : Calls Tryz.prog 19 #[.agg (qStB_1 c)] w fun e w' => e = .returned (c.fv) ∧ Gr w w' := by
 refine calls_sx (n := 8) (args := [.agg (qStB_1 c)]) Tryz.func19 rfl rfl rfl ?_
 have hs0 := Bk.init w
 refine CW.seq ?_
 refine CW.region ?_
 refine SL.new (mk := fun g => pv g 0) (C := (qStB_1 c)) (T := 31) hs0 rfl rfl (by kernel_rfl) (fun g_1 w_2 hs_3 => ?_)
 have hs_3 : Bk w w_2 [(g_1, .cells (qStB_1 c) 31 (0, 0))] := hs_3
 refine SL.new (mk := fun g => pv g 0) (C := #[iv 0, iv 0, iv 0, iv 0, iv 0, iv 0, iv 0, iv 0]) (T := 41) hs_3 rfl rfl (by kernel_rfl) (fun g_4 w_5 hs_6 => ?_)
 have hs_6 : Bk w w_5 [(g_1, .cells (qStB_1 c) 31 (0, 0)), (g_4, .cells #[iv 0, iv 0, iv 0, iv 0, iv 0, iv 0, iv 0, iv 0] 41 (0, 0))] := hs_6
 refine SL.nil ?_
 refine CW.seq ?_
 refine CW.region ?_
 refine SL.v (pv g_1 0) ?_
 refine SL.load (g := g_1) (off := 0) (v := .agg #[iv c.pt, iv c.pl, iv c.pb, iv c.pr]) rfl rfl rfl (by kernel_rfl) (hs_6.all 0 g_1 _ rfl) (by kernel_rfl) ?_
 refine SL.v (pv g_1 4) ?_
 refine SL.load (g := g_1) (off := 4) (v := .agg #[iv c.mt, iv c.ml, iv c.mb, iv c.mr]) rfl rfl rfl (by kernel_rfl) (hs_6.all 0 g_1 _ rfl) (by kernel_rfl) ?_
 refine SL.v (.agg (qStB_1 c)) ?_
 refine SL.store (i := 1) (g := g_4) (off := 0) (v := .agg (qStB_1 c)) (L' := [(g_1, .cells (qStB_1 c) 31 (0, 0)), (g_4, .cells (qStB_1 c) 41 (0, 0))]) hs_6 rfl rfl rfl (by kernel_rfl) (by kernel_rfl) rfl (by kernel_rfl) (by kernel_rfl) rfl (by kernel_rfl) rfl (fun w_7 hs_8 => ?_)
 refine SL.nil ?_
 refine CW.ret ?_
 repeat with_reducible first | refine PThen.ret ?_ | refine PBlock.ret ?_
 refine PRet.cell (t := 2) (ty := 41) (g := g_4) (v := .agg (qStB_1 c)) rfl rfl (by kernel_rfl) (hs_8.all 1 g_4 _ rfl) (by kernel_rfl) ?_
 exact ⟨rfl, hs_8.gr⟩
set_option maxRecDepth 100000 in
set_option maxHeartbeats 4000000 in
theorem own19 (c : Cor) (w : World) (hm : 0 ≤ c.modes ∧ c.modes < 4294967296) : Calls Tryz.prog 7 #[.agg (cdA c)] w fun e w' => e = .returned (c.v) ∧ Gr w w' := by
 obtain ⟨hm1, hm2⟩ := hm
 refine calls_sx (n := 27) (args := [.agg (cdA c)]) Tryz.func7 rfl rfl rfl ?_
 have hs0 := Bk.init w
 refine CW.seq ?_
 refine CW.region ?_
 refine SL.new (mk := fun g => pv g 0) (C := (cdA c)) (T := 33) hs0 rfl rfl (by kernel_rfl) (fun g_1 w_2 hs_3 => ?_)
 have hs_3 : Bk w w_2 [(g_1, .cells (cdA c) 33 (0, 0))] := hs_3
 refine SL.new (mk := fun g => pv g 0) (C := czA) (T := 45) hs_3 rfl rfl (by kernel_rfl) (fun g_4 w_5 hs_6 => ?_)
 have hs_6 : Bk w w_5 [(g_1, .cells (cdA c) 33 (0, 0)), (g_4, .cells czA 45 (0, 0))] := hs_6
 refine SL.nil ?_
 refine CW.seq ?_
 have HGR : GrL [fun v _ => v = pv g_1 0, fun v _ => v = .agg (qStB_0 c), fun v _ => v = .agg (qStB_0 c), fun v _ => v = pv g_1 13, fun v _ => v = .agg (qStB_1 c), fun v _ => v = .agg (qStB_1 c), fun v _ => v = pv g_1 21, fun v _ => v = iv c.modes, fun v _ => v = .int .u32 c.modes, fun v _ => v = pv g_1 22, fun v _ => v = iv c.level, fun v _ => v = pv g_1 23, fun v _ => v = .bool c.eight, fun v _ => v = pv g_1 24, fun v _ => v = .bool c.stream, fun v _ => v = pv g_1 25, fun v _ => v = iv c.status, fun v _ => v = pv g_1 26, fun v _ => v = .bool c.below, fun v _ => v = pv g_1 27, fun v _ => v = iv c.page, fun v _ => v = pv g_1 28, fun v _ => v = iv c.pages] := ⟨fun _ _ _ _ h => h, ⟨fun _ _ _ _ h => h, ⟨fun _ _ _ _ h => h, ⟨fun _ _ _ _ h => h, ⟨fun _ _ _ _ h => h, ⟨fun _ _ _ _ h => h, ⟨fun _ _ _ _ h => h, ⟨fun _ _ _ _ h => h, ⟨fun _ _ _ _ h => h, ⟨fun _ _ _ _ h => h, ⟨fun _ _ _ _ h => h, ⟨fun _ _ _ _ h => h, ⟨fun _ _ _ _ h => h, ⟨fun _ _ _ _ h => h, ⟨fun _ _ _ _ h => h, ⟨fun _ _ _ _ h => h, ⟨fun _ _ _ _ h => h, ⟨fun _ _ _ _ h => h, ⟨fun _ _ _ _ h => h, ⟨fun _ _ _ _ h => h, ⟨fun _ _ _ _ h => h, ⟨fun _ _ _ _ h => h, ⟨fun _ _ _ _ h => h, trivial⟩⟩⟩⟩⟩⟩⟩⟩⟩⟩⟩⟩⟩⟩⟩⟩⟩⟩⟩⟩⟩⟩⟩
 refine CW.draw 23 (FW [fun v _ => v = pv g_1 0, fun v _ => v = .agg (qStB_0 c), fun v _ => v = .agg (qStB_0 c), fun v _ => v = pv g_1 13, fun v _ => v = .agg (qStB_1 c), fun v _ => v = .agg (qStB_1 c), fun v _ => v = pv g_1 21, fun v _ => v = iv c.modes, fun v _ => v = .int .u32 c.modes, fun v _ => v = pv g_1 22, fun v _ => v = iv c.level, fun v _ => v = pv g_1 23, fun v _ => v = .bool c.eight, fun v _ => v = pv g_1 24, fun v _ => v = .bool c.stream, fun v _ => v = pv g_1 25, fun v _ => v = iv c.status, fun v _ => v = pv g_1 26, fun v _ => v = .bool c.below, fun v _ => v = pv g_1 27, fun v _ => v = iv c.page, fun v _ => v = pv g_1 28, fun v _ => v = iv c.pages]) (fun W => Bk w W [(g_1, .cells (cdA c) 33 (0, 0)), (g_4, .cells czA 45 (0, 0))] ∧ Gr w_5 W) (by kernel_rfl) (by kernel_rfl) (by kernel_rfl) (by kernel_rfl) (by kernel_rfl) ⟨hs_6.drew, (Gr.refl _).drew⟩ ?_ ?_
 ·refine ⟨?_, ⟨?_, ⟨?_, ⟨?_, ⟨?_, ⟨?_, ⟨?_, ⟨?_, ⟨?_, ⟨?_, ⟨?_, ⟨?_, ⟨?_, ⟨?_, ⟨?_, ⟨?_, ⟨?_, ⟨?_, ⟨?_, ⟨?_, ⟨?_, ⟨?_, ⟨?_, trivial⟩⟩⟩⟩⟩⟩⟩⟩⟩⟩⟩⟩⟩⟩⟩⟩⟩⟩⟩⟩⟩⟩⟩
  ·intro L ys W hB hF hP K hK
   show OpE _ _ _ W K
   exact OpE.val (pv g_1 0) W (by kernel_rfl) (hK _ W hB rfl (fun _ _ h => h))
  ·intro L ys W hB hF hP K hK
   show OpE _ _ _ W K
   exact OpE.known (j := 0) (v := pv g_1 0) (hF 0 (hP.1 rfl)) (OpE.load (g := g_1) (off := 0) (v := .agg (qStB_0 c)) rfl (by kernel_rfl) (hB.1.all 0 g_1 _ rfl) (by kernel_rfl) (hK _ W hB rfl (fun _ _ h => h)))
  ·intro L ys W hB hF hP K hK
   show OpE _ _ _ W K
   exact OpE.known (j := 1) (v := .agg (qStB_0 c)) (hF 1 (hP.1 rfl)) (OpE.call 18 #[.agg (qStB_0 c)] W _ (by kernel_rfl) (own13 c W) (fun x w' hx => by obtain ⟨rfl, hg⟩ := hx; exact ⟨_, rfl, hK _ w' ⟨hB.1.grow hg, hB.2.trans hg⟩ rfl (fun _ _ h => FW.gr HGR hg h)⟩))
  ·intro L ys W hB hF hP K hK
   show OpE _ _ _ W K
   exact OpE.val (pv g_1 13) W (by kernel_rfl) (hK _ W hB rfl (fun _ _ h => h))
  ·intro L ys W hB hF hP K hK
   show OpE _ _ _ W K
   exact OpE.known (j := 3) (v := pv g_1 13) (hF 3 (hP.1 rfl)) (OpE.load (g := g_1) (off := 13) (v := .agg (qStB_1 c)) rfl (by kernel_rfl) (hB.1.all 0 g_1 _ rfl) (by kernel_rfl) (hK _ W hB rfl (fun _ _ h => h)))
  ·intro L ys W hB hF hP K hK
   show OpE _ _ _ W K
   exact OpE.known (j := 4) (v := .agg (qStB_1 c)) (hF 4 (hP.1 rfl)) (OpE.call 19 #[.agg (qStB_1 c)] W _ (by kernel_rfl) (frame13 c W) (fun x w' hx => by obtain ⟨rfl, hg⟩ := hx; exact ⟨_, rfl, hK _ w' ⟨hB.1.grow hg, hB.2.trans hg⟩ rfl (fun _ _ h => FW.gr HGR hg h)⟩))
  ·intro L ys W hB hF hP K hK
   show OpE _ _ _ W K
   exact OpE.val (pv g_1 21) W (by kernel_rfl) (hK _ W hB rfl (fun _ _ h => h))
  ·intro L ys W hB hF hP K hK
   show OpE _ _ _ W K
   exact OpE.known (j := 6) (v := pv g_1 21) (hF 6 (hP.1 rfl)) (OpE.load (g := g_1) (off := 21) (v := iv c.modes) rfl (by kernel_rfl) (hB.1.all 0 g_1 _ rfl) (by kernel_rfl) (hK _ W hB rfl (fun _ _ h => h)))
  ·intro L ys W hB hF hP K hK
   show OpE _ _ _ W K
   exact OpE.known (j := 7) (v := iv c.modes) (hF 7 (hP.1 rfl)) (OpE.val (.int .u32 c.modes) W (by have hw : IntKind.u32.wrap (c.modes) = c.modes := wrap_u32 (by omega) (by omega); exact run_eqv (by kernel_rfl) (congrArg (fun z => Value.int .u32 z) hw)) (hK _ W hB rfl (fun _ _ h => h)))
  ·intro L ys W hB hF hP K hK
   show OpE _ _ _ W K
   exact OpE.val (pv g_1 22) W (by kernel_rfl) (hK _ W hB rfl (fun _ _ h => h))
  ·intro L ys W hB hF hP K hK
   show OpE _ _ _ W K
   exact OpE.known (j := 9) (v := pv g_1 22) (hF 9 (hP.1 rfl)) (OpE.load (g := g_1) (off := 22) (v := iv c.level) rfl (by kernel_rfl) (hB.1.all 0 g_1 _ rfl) (by kernel_rfl) (hK _ W hB rfl (fun _ _ h => h)))
  ·intro L ys W hB hF hP K hK
   show OpE _ _ _ W K
   exact OpE.val (pv g_1 23) W (by kernel_rfl) (hK _ W hB rfl (fun _ _ h => h))
  ·intro L ys W hB hF hP K hK
   show OpE _ _ _ W K
   exact OpE.known (j := 11) (v := pv g_1 23) (hF 11 (hP.1 rfl)) (OpE.load (g := g_1) (off := 23) (v := .bool c.eight) rfl (by kernel_rfl) (hB.1.all 0 g_1 _ rfl) (by kernel_rfl) (hK _ W hB rfl (fun _ _ h => h)))
  ·intro L ys W hB hF hP K hK
   show OpE _ _ _ W K
   exact OpE.val (pv g_1 24) W (by kernel_rfl) (hK _ W hB rfl (fun _ _ h => h))
  ·intro L ys W hB hF hP K hK
   show OpE _ _ _ W K
   exact OpE.known (j := 13) (v := pv g_1 24) (hF 13 (hP.1 rfl)) (OpE.load (g := g_1) (off := 24) (v := .bool c.stream) rfl (by kernel_rfl) (hB.1.all 0 g_1 _ rfl) (by kernel_rfl) (hK _ W hB rfl (fun _ _ h => h)))
  ·intro L ys W hB hF hP K hK
   show OpE _ _ _ W K
   exact OpE.val (pv g_1 25) W (by kernel_rfl) (hK _ W hB rfl (fun _ _ h => h))
  ·intro L ys W hB hF hP K hK
   show OpE _ _ _ W K
   exact OpE.known (j := 15) (v := pv g_1 25) (hF 15 (hP.1 rfl)) (OpE.load (g := g_1) (off := 25) (v := iv c.status) rfl (by kernel_rfl) (hB.1.all 0 g_1 _ rfl) (by kernel_rfl) (hK _ W hB rfl (fun _ _ h => h)))
  ·intro L ys W hB hF hP K hK
   show OpE _ _ _ W K
   exact OpE.val (pv g_1 26) W (by kernel_rfl) (hK _ W hB rfl (fun _ _ h => h))
  ·intro L ys W hB hF hP K hK
   show OpE _ _ _ W K
   exact OpE.known (j := 17) (v := pv g_1 26) (hF 17 (hP.1 rfl)) (OpE.load (g := g_1) (off := 26) (v := .bool c.below) rfl (by kernel_rfl) (hB.1.all 0 g_1 _ rfl) (by kernel_rfl) (hK _ W hB rfl (fun _ _ h => h)))
  ·intro L ys W hB hF hP K hK
   show OpE _ _ _ W K
   exact OpE.val (pv g_1 27) W (by kernel_rfl) (hK _ W hB rfl (fun _ _ h => h))
  ·intro L ys W hB hF hP K hK
   show OpE _ _ _ W K
   exact OpE.known (j := 19) (v := pv g_1 27) (hF 19 (hP.1 rfl)) (OpE.load (g := g_1) (off := 27) (v := iv c.page) rfl (by kernel_rfl) (hB.1.all 0 g_1 _ rfl) (by kernel_rfl) (hK _ W hB rfl (fun _ _ h => h)))
  ·intro L ys W hB hF hP K hK
   show OpE _ _ _ W K
   exact OpE.val (pv g_1 28) W (by kernel_rfl) (hK _ W hB rfl (fun _ _ h => h))
  ·intro L ys W hB hF hP K hK
   show OpE _ _ _ W K
   exact OpE.known (j := 21) (v := pv g_1 28) (hF 21 (hP.1 rfl)) (OpE.load (g := g_1) (off := 28) (v := iv c.pages) rfl (by kernel_rfl) (hB.1.all 0 g_1 _ rfl) (by kernel_rfl) (hK _ W hB rfl (fun _ _ h => h)))
 ·intro ys_10 w_7 hs_8 hF_9
  have hs_8 : Bk w w_7 [(g_1, .cells (cdA c) 33 (0, 0)), (g_4, .cells czA 45 (0, 0))] := hs_8.1
  refine SL.knownY (j := 2) (v := .agg (qStB_0 c)) (show ys_10 2 = .agg (qStB_0 c) from hF_9 2 (by decide)) (SL.knownY (j := 5) (v := .agg (qStB_1 c)) (show ys_10 5 = .agg (qStB_1 c) from hF_9 5 (by decide)) (SL.knownY (j := 8) (v := .int .u32 c.modes) (show ys_10 8 = .int .u32 c.modes from hF_9 8 (by decide)) (SL.knownY (j := 10) (v := iv c.level) (show ys_10 10 = iv c.level from hF_9 10 (by decide)) (SL.knownY (j := 12) (v := .bool c.eight) (show ys_10 12 = .bool c.eight from hF_9 12 (by decide)) (SL.knownY (j := 14) (v := .bool c.stream) (show ys_10 14 = .bool c.stream from hF_9 14 (by decide)) (SL.knownY (j := 16) (v := iv c.status) (show ys_10 16 = iv c.status from hF_9 16 (by decide)) (SL.knownY (j := 18) (v := .bool c.below) (show ys_10 18 = .bool c.below from hF_9 18 (by decide)) (SL.knownY (j := 20) (v := iv c.page) (show ys_10 20 = iv c.page from hF_9 20 (by decide)) (SL.knownY (j := 22) (v := iv c.pages) (show ys_10 22 = iv c.pages from hF_9 22 (by decide)) (?_))))))))))
  clear hF_9 HGR
  refine SL.v (.agg (cvA c)) ?_
  refine SL.store (i := 1) (g := g_4) (off := 0) (v := .agg (cvA c)) (L' := [(g_1, .cells (cdA c) 33 (0, 0)), (g_4, .cells (cvA c) 45 (0, 0))]) hs_8 rfl rfl rfl (by kernel_rfl) (by kernel_rfl) rfl (by kernel_rfl) (by kernel_rfl) rfl (by kernel_rfl) rfl (fun w_11 hs_12 => ?_)
  refine SL.nil ?_
  refine CW.ret ?_
  repeat with_reducible first | refine PThen.ret ?_ | refine PBlock.ret ?_
  refine PRet.cell (t := 2) (ty := 45) (g := g_4) (v := .agg (cvA c)) rfl rfl (by kernel_rfl) (hs_12.all 1 g_4 _ rfl) (by kernel_rfl) ?_
  exact ⟨rfl, hs_12.gr⟩
set_option maxRecDepth 100000 in
set_option maxHeartbeats 4000000 in
theorem told19 (c : Cor) (w : World) (hm : 0 ≤ c.modes ∧ c.modes < 4294967296) : Calls Tryz.prog 12 #[.agg (cvA c)] w fun e w' => e = .returned (c.d) ∧ Gr w w' := by
 obtain ⟨hm1, hm2⟩ := hm
 refine calls_sx (n := 31) (args := [.agg (cvA c)]) Tryz.func12 rfl rfl rfl ?_
 have hs0 := Bk.init w
 refine CW.seq ?_
 refine CW.region ?_
 refine SL.new (mk := fun g => pv g 0) (C := (cvA c)) (T := 45) hs0 rfl rfl (by kernel_rfl) (fun g_1 w_2 hs_3 => ?_)
 have hs_3 : Bk w w_2 [(g_1, .cells (cvA c) 45 (0, 0))] := hs_3
 refine SL.new (mk := fun g => pv g 0) (C := czD) (T := 33) hs_3 rfl rfl (by kernel_rfl) (fun g_4 w_5 hs_6 => ?_)
 have hs_6 : Bk w w_5 [(g_1, .cells (cvA c) 45 (0, 0)), (g_4, .cells czD 33 (0, 0))] := hs_6
 refine SL.nil ?_
 refine CW.seq ?_
 have HGR : GrL [fun v _ => v = pv g_1 0, fun v _ => v = .agg (qStB_0 c), fun v _ => v = .agg (qStB_0 c), fun v _ => v = pv g_1 13, fun v _ => v = pv g_1 13, fun v _ => v = .agg #[iv c.pt, iv c.pl, iv c.pb, iv c.pr], fun v _ => v = pv g_1 13, fun v _ => v = pv g_1 17, fun v _ => v = .agg #[iv c.mt, iv c.ml, iv c.mb, iv c.mr], fun v _ => v = .agg (qStB_1 c), fun v _ => v = pv g_1 21, fun v _ => v = .int .u32 c.modes, fun v _ => v = iv c.modes, fun v _ => v = pv g_1 22, fun v _ => v = iv c.level, fun v _ => v = pv g_1 23, fun v _ => v = .bool c.eight, fun v _ => v = pv g_1 24, fun v _ => v = .bool c.stream, fun v _ => v = pv g_1 25, fun v _ => v = iv c.status, fun v _ => v = pv g_1 26, fun v _ => v = .bool c.below, fun v _ => v = pv g_1 27, fun v _ => v = iv c.page, fun v _ => v = pv g_1 28, fun v _ => v = iv c.pages] := ⟨fun _ _ _ _ h => h, ⟨fun _ _ _ _ h => h, ⟨fun _ _ _ _ h => h, ⟨fun _ _ _ _ h => h, ⟨fun _ _ _ _ h => h, ⟨fun _ _ _ _ h => h, ⟨fun _ _ _ _ h => h, ⟨fun _ _ _ _ h => h, ⟨fun _ _ _ _ h => h, ⟨fun _ _ _ _ h => h, ⟨fun _ _ _ _ h => h, ⟨fun _ _ _ _ h => h, ⟨fun _ _ _ _ h => h, ⟨fun _ _ _ _ h => h, ⟨fun _ _ _ _ h => h, ⟨fun _ _ _ _ h => h, ⟨fun _ _ _ _ h => h, ⟨fun _ _ _ _ h => h, ⟨fun _ _ _ _ h => h, ⟨fun _ _ _ _ h => h, ⟨fun _ _ _ _ h => h, ⟨fun _ _ _ _ h => h, ⟨fun _ _ _ _ h => h, ⟨fun _ _ _ _ h => h, ⟨fun _ _ _ _ h => h, ⟨fun _ _ _ _ h => h, ⟨fun _ _ _ _ h => h, trivial⟩⟩⟩⟩⟩⟩⟩⟩⟩⟩⟩⟩⟩⟩⟩⟩⟩⟩⟩⟩⟩⟩⟩⟩⟩⟩⟩
 refine CW.draw 27 (FW [fun v _ => v = pv g_1 0, fun v _ => v = .agg (qStB_0 c), fun v _ => v = .agg (qStB_0 c), fun v _ => v = pv g_1 13, fun v _ => v = pv g_1 13, fun v _ => v = .agg #[iv c.pt, iv c.pl, iv c.pb, iv c.pr], fun v _ => v = pv g_1 13, fun v _ => v = pv g_1 17, fun v _ => v = .agg #[iv c.mt, iv c.ml, iv c.mb, iv c.mr], fun v _ => v = .agg (qStB_1 c), fun v _ => v = pv g_1 21, fun v _ => v = .int .u32 c.modes, fun v _ => v = iv c.modes, fun v _ => v = pv g_1 22, fun v _ => v = iv c.level, fun v _ => v = pv g_1 23, fun v _ => v = .bool c.eight, fun v _ => v = pv g_1 24, fun v _ => v = .bool c.stream, fun v _ => v = pv g_1 25, fun v _ => v = iv c.status, fun v _ => v = pv g_1 26, fun v _ => v = .bool c.below, fun v _ => v = pv g_1 27, fun v _ => v = iv c.page, fun v _ => v = pv g_1 28, fun v _ => v = iv c.pages]) (fun W => Bk w W [(g_1, .cells (cvA c) 45 (0, 0)), (g_4, .cells czD 33 (0, 0))] ∧ Gr w_5 W) (by kernel_rfl) (by kernel_rfl) (by kernel_rfl) (by kernel_rfl) (by kernel_rfl) ⟨hs_6.drew, (Gr.refl _).drew⟩ ?_ ?_
 ·refine ⟨?_, ⟨?_, ⟨?_, ⟨?_, ⟨?_, ⟨?_, ⟨?_, ⟨?_, ⟨?_, ⟨?_, ⟨?_, ⟨?_, ⟨?_, ⟨?_, ⟨?_, ⟨?_, ⟨?_, ⟨?_, ⟨?_, ⟨?_, ⟨?_, ⟨?_, ⟨?_, ⟨?_, ⟨?_, ⟨?_, ⟨?_, trivial⟩⟩⟩⟩⟩⟩⟩⟩⟩⟩⟩⟩⟩⟩⟩⟩⟩⟩⟩⟩⟩⟩⟩⟩⟩⟩⟩
  ·intro L ys W hB hF hP K hK
   show OpE _ _ _ W K
   exact OpE.val (pv g_1 0) W (by kernel_rfl) (hK _ W hB rfl (fun _ _ h => h))
  ·intro L ys W hB hF hP K hK
   show OpE _ _ _ W K
   exact OpE.known (j := 0) (v := pv g_1 0) (hF 0 (hP.1 rfl)) (OpE.load (g := g_1) (off := 0) (v := .agg (qStB_0 c)) rfl (by kernel_rfl) (hB.1.all 0 g_1 _ rfl) (by kernel_rfl) (hK _ W hB rfl (fun _ _ h => h)))
  ·intro L ys W hB hF hP K hK
   show OpE _ _ _ W K
   exact OpE.known (j := 1) (v := .agg (qStB_0 c)) (hF 1 (hP.1 rfl)) (OpE.call 38 #[.agg (qStB_0 c)] W _ (by kernel_rfl) (told13 c W) (fun x w' hx => by obtain ⟨rfl, hg⟩ := hx; exact ⟨_, rfl, hK _ w' ⟨hB.1.grow hg, hB.2.trans hg⟩ rfl (fun _ _ h => FW.gr HGR hg h)⟩))
  ·intro L ys W hB hF hP K hK
   show OpE _ _ _ W K
   exact OpE.val (pv g_1 13) W (by kernel_rfl) (hK _ W hB rfl (fun _ _ h => h))
  ·intro L ys W hB hF hP K hK
   show OpE _ _ _ W K
   exact OpE.known (j := 3) (v := pv g_1 13) (hF 3 (hP.1 rfl)) (OpE.val (pv g_1 13) W (by kernel_rfl) (hK _ W hB rfl (fun _ _ h => h)))
  ·intro L ys W hB hF hP K hK
   show OpE _ _ _ W K
   exact OpE.known (j := 4) (v := pv g_1 13) (hF 4 (hP.1 rfl)) (OpE.load (g := g_1) (off := 13) (v := .agg #[iv c.pt, iv c.pl, iv c.pb, iv c.pr]) rfl (by kernel_rfl) (hB.1.all 0 g_1 _ rfl) (by kernel_rfl) (hK _ W hB rfl (fun _ _ h => h)))
  ·intro L ys W hB hF hP K hK
   show OpE _ _ _ W K
   exact OpE.val (pv g_1 13) W (by kernel_rfl) (hK _ W hB rfl (fun _ _ h => h))
  ·intro L ys W hB hF hP K hK
   show OpE _ _ _ W K
   exact OpE.known (j := 6) (v := pv g_1 13) (hF 6 (hP.1 rfl)) (OpE.val (pv g_1 17) W (by kernel_rfl) (hK _ W hB rfl (fun _ _ h => h)))
  ·intro L ys W hB hF hP K hK
   show OpE _ _ _ W K
   exact OpE.known (j := 7) (v := pv g_1 17) (hF 7 (hP.1 rfl)) (OpE.load (g := g_1) (off := 17) (v := .agg #[iv c.mt, iv c.ml, iv c.mb, iv c.mr]) rfl (by kernel_rfl) (hB.1.all 0 g_1 _ rfl) (by kernel_rfl) (hK _ W hB rfl (fun _ _ h => h)))
  ·intro L ys W hB hF hP K hK
   show OpE _ _ _ W K
   exact OpE.known (j := 5) (v := .agg #[iv c.pt, iv c.pl, iv c.pb, iv c.pr]) (hF 5 (hP.1 rfl)) (OpE.known (j := 8) (v := .agg #[iv c.mt, iv c.ml, iv c.mb, iv c.mr]) (hF 8 (hP.2.1 rfl)) (OpE.val (.agg (qStB_1 c)) W (by kernel_rfl) (hK _ W hB rfl (fun _ _ h => h))))
  ·intro L ys W hB hF hP K hK
   show OpE _ _ _ W K
   exact OpE.val (pv g_1 21) W (by kernel_rfl) (hK _ W hB rfl (fun _ _ h => h))
  ·intro L ys W hB hF hP K hK
   show OpE _ _ _ W K
   exact OpE.known (j := 10) (v := pv g_1 21) (hF 10 (hP.1 rfl)) (OpE.load (g := g_1) (off := 21) (v := .int .u32 c.modes) rfl (by kernel_rfl) (hB.1.all 0 g_1 _ rfl) (by kernel_rfl) (hK _ W hB rfl (fun _ _ h => h)))
  ·intro L ys W hB hF hP K hK
   show OpE _ _ _ W K
   exact OpE.known (j := 11) (v := .int .u32 c.modes) (hF 11 (hP.1 rfl)) (OpE.val (iv c.modes) W (by have hw : IntKind.i64.wrap (c.modes) = c.modes := IntWalk.i64_in _ (by omega); exact run_eqv (by kernel_rfl) (congrArg (fun z => Value.int .i64 z) hw)) (hK _ W hB rfl (fun _ _ h => h)))
  ·intro L ys W hB hF hP K hK
   show OpE _ _ _ W K
   exact OpE.val (pv g_1 22) W (by kernel_rfl) (hK _ W hB rfl (fun _ _ h => h))
  ·intro L ys W hB hF hP K hK
   show OpE _ _ _ W K
   exact OpE.known (j := 13) (v := pv g_1 22) (hF 13 (hP.1 rfl)) (OpE.load (g := g_1) (off := 22) (v := iv c.level) rfl (by kernel_rfl) (hB.1.all 0 g_1 _ rfl) (by kernel_rfl) (hK _ W hB rfl (fun _ _ h => h)))
  ·intro L ys W hB hF hP K hK
   show OpE _ _ _ W K
   exact OpE.val (pv g_1 23) W (by kernel_rfl) (hK _ W hB rfl (fun _ _ h => h))
  ·intro L ys W hB hF hP K hK
   show OpE _ _ _ W K
   exact OpE.known (j := 15) (v := pv g_1 23) (hF 15 (hP.1 rfl)) (OpE.load (g := g_1) (off := 23) (v := .bool c.eight) rfl (by kernel_rfl) (hB.1.all 0 g_1 _ rfl) (by kernel_rfl) (hK _ W hB rfl (fun _ _ h => h)))
  ·intro L ys W hB hF hP K hK
   show OpE _ _ _ W K
   exact OpE.val (pv g_1 24) W (by kernel_rfl) (hK _ W hB rfl (fun _ _ h => h))
  ·intro L ys W hB hF hP K hK
   show OpE _ _ _ W K
   exact OpE.known (j := 17) (v := pv g_1 24) (hF 17 (hP.1 rfl)) (OpE.load (g := g_1) (off := 24) (v := .bool c.stream) rfl (by kernel_rfl) (hB.1.all 0 g_1 _ rfl) (by kernel_rfl) (hK _ W hB rfl (fun _ _ h => h)))
  ·intro L ys W hB hF hP K hK
   show OpE _ _ _ W K
   exact OpE.val (pv g_1 25) W (by kernel_rfl) (hK _ W hB rfl (fun _ _ h => h))
  ·intro L ys W hB hF hP K hK
   show OpE _ _ _ W K
   exact OpE.known (j := 19) (v := pv g_1 25) (hF 19 (hP.1 rfl)) (OpE.load (g := g_1) (off := 25) (v := iv c.status) rfl (by kernel_rfl) (hB.1.all 0 g_1 _ rfl) (by kernel_rfl) (hK _ W hB rfl (fun _ _ h => h)))
  ·intro L ys W hB hF hP K hK
   show OpE _ _ _ W K
   exact OpE.val (pv g_1 26) W (by kernel_rfl) (hK _ W hB rfl (fun _ _ h => h))
  ·intro L ys W hB hF hP K hK
   show OpE _ _ _ W K
   exact OpE.known (j := 21) (v := pv g_1 26) (hF 21 (hP.1 rfl)) (OpE.load (g := g_1) (off := 26) (v := .bool c.below) rfl (by kernel_rfl) (hB.1.all 0 g_1 _ rfl) (by kernel_rfl) (hK _ W hB rfl (fun _ _ h => h)))
  ·intro L ys W hB hF hP K hK
   show OpE _ _ _ W K
   exact OpE.val (pv g_1 27) W (by kernel_rfl) (hK _ W hB rfl (fun _ _ h => h))
  ·intro L ys W hB hF hP K hK
   show OpE _ _ _ W K
   exact OpE.known (j := 23) (v := pv g_1 27) (hF 23 (hP.1 rfl)) (OpE.load (g := g_1) (off := 27) (v := iv c.page) rfl (by kernel_rfl) (hB.1.all 0 g_1 _ rfl) (by kernel_rfl) (hK _ W hB rfl (fun _ _ h => h)))
  ·intro L ys W hB hF hP K hK
   show OpE _ _ _ W K
   exact OpE.val (pv g_1 28) W (by kernel_rfl) (hK _ W hB rfl (fun _ _ h => h))
  ·intro L ys W hB hF hP K hK
   show OpE _ _ _ W K
   exact OpE.known (j := 25) (v := pv g_1 28) (hF 25 (hP.1 rfl)) (OpE.load (g := g_1) (off := 28) (v := iv c.pages) rfl (by kernel_rfl) (hB.1.all 0 g_1 _ rfl) (by kernel_rfl) (hK _ W hB rfl (fun _ _ h => h)))
 ·intro ys_10 w_7 hs_8 hF_9
  have hs_8 : Bk w w_7 [(g_1, .cells (cvA c) 45 (0, 0)), (g_4, .cells czD 33 (0, 0))] := hs_8.1
  refine SL.knownY (j := 2) (v := .agg (qStB_0 c)) (show ys_10 2 = .agg (qStB_0 c) from hF_9 2 (by decide)) (SL.knownY (j := 9) (v := .agg (qStB_1 c)) (show ys_10 9 = .agg (qStB_1 c) from hF_9 9 (by decide)) (SL.knownY (j := 12) (v := iv c.modes) (show ys_10 12 = iv c.modes from hF_9 12 (by decide)) (SL.knownY (j := 14) (v := iv c.level) (show ys_10 14 = iv c.level from hF_9 14 (by decide)) (SL.knownY (j := 16) (v := .bool c.eight) (show ys_10 16 = .bool c.eight from hF_9 16 (by decide)) (SL.knownY (j := 18) (v := .bool c.stream) (show ys_10 18 = .bool c.stream from hF_9 18 (by decide)) (SL.knownY (j := 20) (v := iv c.status) (show ys_10 20 = iv c.status from hF_9 20 (by decide)) (SL.knownY (j := 22) (v := .bool c.below) (show ys_10 22 = .bool c.below from hF_9 22 (by decide)) (SL.knownY (j := 24) (v := iv c.page) (show ys_10 24 = iv c.page from hF_9 24 (by decide)) (SL.knownY (j := 26) (v := iv c.pages) (show ys_10 26 = iv c.pages from hF_9 26 (by decide)) (?_))))))))))
  clear hF_9 HGR
  refine SL.v (.agg (cdA c)) ?_
  refine SL.store (i := 1) (g := g_4) (off := 0) (v := .agg (cdA c)) (L' := [(g_1, .cells (cvA c) 45 (0, 0)), (g_4, .cells (cdA c) 33 (0, 0))]) hs_8 rfl rfl rfl (by kernel_rfl) (by kernel_rfl) rfl (by kernel_rfl) (by kernel_rfl) rfl (by kernel_rfl) rfl (fun w_11 hs_12 => ?_)
  refine SL.nil ?_
  refine CW.ret ?_
  repeat with_reducible first | refine PThen.ret ?_ | refine PBlock.ret ?_
  refine PRet.cell (t := 2) (ty := 33) (g := g_4) (v := .agg (cdA c)) rfl rfl (by kernel_rfl) (hs_12.all 1 g_4 _ rfl) (by kernel_rfl) ?_
  exact ⟨rfl, hs_12.gr⟩
end Go.Proofs.YtfkecgkfcldffaaGreatDoor
