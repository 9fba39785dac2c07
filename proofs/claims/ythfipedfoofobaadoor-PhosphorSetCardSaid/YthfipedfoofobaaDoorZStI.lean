/-
  Renditions' numbers and the settings of a state, both texts, walked (gen_sti.py).
-/
import Derived.Test.YthfipedfoofobaaDoorZSr
import Derived.Test.YthfipedfoofobaaDoorZHe
import Derived.Test.YthfipedfoofobaaDoorZStF
namespace Go.Proofs.YthfipedfoofobaaDoor
set_option linter.unusedSimpArgs false
set_option linter.unusedVariables false
open Go.RowKit
set_option linter.unusedVariables false

theorem rd_pad {w : World} {g : Nat} {l : List Int} {pad : List Value} {T : TypeId} {fr : Nat × Nat} (hb : w.heap[g]? = some (.cells ⟨icells l ++ pad⟩ T fr)) : Rd w (some ⟨g, 0, none⟩) l.length (icells l) := by
  refine ⟨by simp [icells], .inr ⟨g, 0, rfl, fun i u hu => ?_⟩⟩
  have hlt : i < (icells l).length := (List.getElem?_eq_some_iff.1 hu).1
  have := cell_of_row hb i u (by rw [List.getElem?_toArray, List.getElem?_append_left hlt]; exact hu)
  simpa using this
def rparL (a b c d e : Bool) : List Int := [0] ++ (bif a then [1] else []) ++ (bif b then [4] else []) ++ (bif c then [5] else []) ++ (bif d then [7] else []) ++ (bif e then [8] else [])
/-- The numbers that make a rendition. -/
def rpar (r : Int) : List Int := rparL (r % 2 == 1) (r / 2 % 2 == 1) (r / 4 % 2 == 1) (r / 8 % 2 == 1) (r / 16 % 2 == 1)
theorem rpar_len (r : Int) : (rpar r).length ≤ 6 := by
  unfold rpar rparL
  cases (r % 2 == 1) <;> cases (r / 2 % 2 == 1) <;> cases (r / 4 % 2 == 1) <;> cases (r / 8 % 2 == 1) <;> cases (r / 16 % 2 == 1) <;> decide
theorem rbits {r : Int} (h0 : 0 ≤ r) (h1 : r < 32) : (bits .and .u8 r 1 == 0) = (!(r % 2 == 1)) ∧ (bits .and .u8 r 2 == 0) = (!(r / 2 % 2 == 1)) ∧ (bits .and .u8 r 4 == 0) = (!(r / 4 % 2 == 1)) ∧ (bits .and .u8 r 8 == 0) = (!(r / 8 % 2 == 1)) ∧ (bits .and .u8 r 16 == 0) = (!(r / 16 % 2 == 1)) := by
  have H : ∀ k : Fin 32, (bits .and .u8 (k.val : Int) 1 == 0) = (!((k.val : Int) % 2 == 1)) ∧ (bits .and .u8 (k.val : Int) 2 == 0) = (!((k.val : Int) / 2 % 2 == 1)) ∧ (bits .and .u8 (k.val : Int) 4 == 0) = (!((k.val : Int) / 4 % 2 == 1)) ∧ (bits .and .u8 (k.val : Int) 8 == 0) = (!((k.val : Int) / 8 % 2 == 1)) ∧ (bits .and .u8 (k.val : Int) 16 == 0) = (!((k.val : Int) / 16 % 2 == 1)) := by decide +kernel
  have := H ⟨r.toNat, by omega⟩
  simpa [Int.toNat_of_nonneg h0] using this
set_option maxRecDepth 100000 in
set_option maxHeartbeats 4000000 in
theorem part_1  (w : World) : Calls Tryd.prog 27 #[.int .i64 1] w fun e w' => e = .returned (.int .u8 1) ∧ Gr w w' := by
  refine calls_sx (n := 14) (args := [.int .i64 1]) Tryd.func27 rfl rfl rfl ?_
  have hs0 := Bk.init w
  refine CW.seq ?_
  refine CW.region ?_
  refine SL.v (.int .u8 0) ?_
  refine SL.nil ?_
  refine CW.seq ?_
  refine CW.seq ?_
  refine CW.region ?_
  refine SL.v (.int .i64 1) ?_
  refine SL.nil ?_
  refine CW.block ?_
  refine CW.seq ?_
  refine CW.region ?_
  refine SL.v (.bool true) ?_
  refine SL.v (.bool true) ?_
  refine SL.nil ?_
  refine CW.cond_true (by kernel_rfl) ?_
  refine CW.seq ?_
  refine CW.region ?_
  refine SL.v (.int .u8 1) ?_
  refine SL.nil ?_
  refine CW.ret ?_
  repeat with_reducible first | refine PThen.ret ?_ | refine PBlock.ret ?_
  refine PRet.tmp (t := 2) (v := .int .u8 1) rfl rfl (by kernel_rfl) ?_
  exact ⟨rfl, hs0.gr⟩
set_option maxRecDepth 100000 in
set_option maxHeartbeats 4000000 in
theorem part_4  (w : World) : Calls Tryd.prog 27 #[.int .i64 4] w fun e w' => e = .returned (.int .u8 2) ∧ Gr w w' := by
  refine calls_sx (n := 14) (args := [.int .i64 4]) Tryd.func27 rfl rfl rfl ?_
  have hs0 := Bk.init w
  refine CW.seq ?_
  refine CW.region ?_
  refine SL.v (.int .u8 0) ?_
  refine SL.nil ?_
  refine CW.seq ?_
  refine CW.seq ?_
  refine CW.region ?_
  refine SL.v (.int .i64 4) ?_
  refine SL.nil ?_
  refine CW.block ?_
  refine CW.seq ?_
  refine CW.region ?_
  refine SL.v (.bool false) ?_
  refine SL.v (.bool false) ?_
  refine SL.nil ?_
  refine CW.cond_false (by kernel_rfl) ?_
  refine CW.seq ?_
  refine CW.region ?_
  refine SL.v (.bool true) ?_
  refine SL.v (.bool true) ?_
  refine SL.nil ?_
  refine CW.cond_true (by kernel_rfl) ?_
  refine CW.seq ?_
  refine CW.region ?_
  refine SL.v (.int .u8 2) ?_
  refine SL.nil ?_
  refine CW.ret ?_
  repeat with_reducible first | refine PThen.ret ?_ | refine PBlock.ret ?_
  refine PRet.tmp (t := 2) (v := .int .u8 2) rfl rfl (by kernel_rfl) ?_
  exact ⟨rfl, hs0.gr⟩
set_option maxRecDepth 100000 in
set_option maxHeartbeats 4000000 in
theorem part_5  (w : World) : Calls Tryd.prog 27 #[.int .i64 5] w fun e w' => e = .returned (.int .u8 4) ∧ Gr w w' := by
  refine calls_sx (n := 14) (args := [.int .i64 5]) Tryd.func27 rfl rfl rfl ?_
  have hs0 := Bk.init w
  refine CW.seq ?_
  refine CW.region ?_
  refine SL.v (.int .u8 0) ?_
  refine SL.nil ?_
  refine CW.seq ?_
  refine CW.seq ?_
  refine CW.region ?_
  refine SL.v (.int .i64 5) ?_
  refine SL.nil ?_
  refine CW.block ?_
  refine CW.seq ?_
  refine CW.region ?_
  refine SL.v (.bool false) ?_
  refine SL.v (.bool false) ?_
  refine SL.nil ?_
  refine CW.cond_false (by kernel_rfl) ?_
  refine CW.seq ?_
  refine CW.region ?_
  refine SL.v (.bool false) ?_
  refine SL.v (.bool false) ?_
  refine SL.nil ?_
  refine CW.cond_false (by kernel_rfl) ?_
  refine CW.seq ?_
  refine CW.region ?_
  refine SL.v (.bool true) ?_
  refine SL.v (.bool true) ?_
  refine SL.nil ?_
  refine CW.cond_true (by kernel_rfl) ?_
  refine CW.seq ?_
  refine CW.region ?_
  refine SL.v (.int .u8 4) ?_
  refine SL.nil ?_
  refine CW.ret ?_
  repeat with_reducible first | refine PThen.ret ?_ | refine PBlock.ret ?_
  refine PRet.tmp (t := 2) (v := .int .u8 4) rfl rfl (by kernel_rfl) ?_
  exact ⟨rfl, hs0.gr⟩
set_option maxRecDepth 100000 in
set_option maxHeartbeats 4000000 in
theorem part_7  (w : World) : Calls Tryd.prog 27 #[.int .i64 7] w fun e w' => e = .returned (.int .u8 8) ∧ Gr w w' := by
  refine calls_sx (n := 14) (args := [.int .i64 7]) Tryd.func27 rfl rfl rfl ?_
  have hs0 := Bk.init w
  refine CW.seq ?_
  refine CW.region ?_
  refine SL.v (.int .u8 0) ?_
  refine SL.nil ?_
  refine CW.seq ?_
  refine CW.seq ?_
  refine CW.region ?_
  refine SL.v (.int .i64 7) ?_
  refine SL.nil ?_
  refine CW.block ?_
  refine CW.seq ?_
  refine CW.region ?_
  refine SL.v (.bool false) ?_
  refine SL.v (.bool false) ?_
  refine SL.nil ?_
  refine CW.cond_false (by kernel_rfl) ?_
  refine CW.seq ?_
  refine CW.region ?_
  refine SL.v (.bool false) ?_
  refine SL.v (.bool false) ?_
  refine SL.nil ?_
  refine CW.cond_false (by kernel_rfl) ?_
  refine CW.seq ?_
  refine CW.region ?_
  refine SL.v (.bool false) ?_
  refine SL.v (.bool false) ?_
  refine SL.nil ?_
  refine CW.cond_false (by kernel_rfl) ?_
  refine CW.seq ?_
  refine CW.region ?_
  refine SL.v (.bool true) ?_
  refine SL.v (.bool true) ?_
  refine SL.nil ?_
  refine CW.cond_true (by kernel_rfl) ?_
  refine CW.seq ?_
  refine CW.region ?_
  refine SL.v (.int .u8 8) ?_
  refine SL.nil ?_
  refine CW.ret ?_
  repeat with_reducible first | refine PThen.ret ?_ | refine PBlock.ret ?_
  refine PRet.tmp (t := 2) (v := .int .u8 8) rfl rfl (by kernel_rfl) ?_
  exact ⟨rfl, hs0.gr⟩
set_option maxRecDepth 100000 in
set_option maxHeartbeats 4000000 in
theorem part_8  (w : World) : Calls Tryd.prog 27 #[.int .i64 8] w fun e w' => e = .returned (.int .u8 16) ∧ Gr w w' := by
  refine calls_sx (n := 14) (args := [.int .i64 8]) Tryd.func27 rfl rfl rfl ?_
  have hs0 := Bk.init w
  refine CW.seq ?_
  refine CW.region ?_
  refine SL.v (.int .u8 0) ?_
  refine SL.nil ?_
  refine CW.seq ?_
  refine CW.seq ?_
  refine CW.region ?_
  refine SL.v (.int .i64 8) ?_
  refine SL.nil ?_
  refine CW.block ?_
  refine CW.seq ?_
  refine CW.region ?_
  refine SL.v (.bool false) ?_
  refine SL.v (.bool false) ?_
  refine SL.nil ?_
  refine CW.cond_false (by kernel_rfl) ?_
  refine CW.seq ?_
  refine CW.region ?_
  refine SL.v (.bool false) ?_
  refine SL.v (.bool false) ?_
  refine SL.nil ?_
  refine CW.cond_false (by kernel_rfl) ?_
  refine CW.seq ?_
  refine CW.region ?_
  refine SL.v (.bool false) ?_
  refine SL.v (.bool false) ?_
  refine SL.nil ?_
  refine CW.cond_false (by kernel_rfl) ?_
  refine CW.seq ?_
  refine CW.region ?_
  refine SL.v (.bool false) ?_
  refine SL.v (.bool false) ?_
  refine SL.nil ?_
  refine CW.cond_false (by kernel_rfl) ?_
  refine CW.seq ?_
  refine CW.region ?_
  refine SL.v (.bool true) ?_
  refine SL.v (.bool true) ?_
  refine SL.nil ?_
  refine CW.cond_true (by kernel_rfl) ?_
  refine CW.seq ?_
  refine CW.region ?_
  refine SL.v (.int .u8 16) ?_
  refine SL.nil ?_
  refine CW.ret ?_
  repeat with_reducible first | refine PThen.ret ?_ | refine PBlock.ret ?_
  refine PRet.tmp (t := 2) (v := .int .u8 16) rfl rfl (by kernel_rfl) ?_
  exact ⟨rfl, hs0.gr⟩
set_option maxRecDepth 100000 in
set_option maxHeartbeats 4000000 in
theorem numbers_any  (w : World) : Calls Tryd.prog 26 #[] w fun e w' => e = .returned (.agg #[.int .i64 1, .int .i64 4, .int .i64 5, .int .i64 7, .int .i64 8]) ∧ Gr w w' := by
  refine calls_sx (n := 2) (args := []) Tryd.func26 rfl rfl rfl ?_
  have hs0 := Bk.init w
  refine CW.seq ?_
  refine CW.region ?_
  refine SL.new (mk := fun g => .pointer (some ⟨g, 0, none⟩)) (C := #[.int .i64 0, .int .i64 0, .int .i64 0, .int .i64 0, .int .i64 0]) (T := 81) hs0 rfl rfl (by kernel_rfl) (fun g_1 w_2 hs_3 => ?_)
  have hs_3 : Bk w w_2 [(g_1, .cells #[.int .i64 0, .int .i64 0, .int .i64 0, .int .i64 0, .int .i64 0] 81 (0, 0))] := hs_3
  refine SL.nil ?_
  refine CW.seq ?_
  refine CW.region ?_
  refine SL.v (.agg #[.int .i64 1, .int .i64 4, .int .i64 5, .int .i64 7, .int .i64 8]) ?_
  refine SL.store (i := 0) (g := g_1) (off := 0) (v := .agg #[.int .i64 1, .int .i64 4, .int .i64 5, .int .i64 7, .int .i64 8]) (L' := [(g_1, .cells #[.int .i64 1, .int .i64 4, .int .i64 5, .int .i64 7, .int .i64 8] 81 (0, 0))]) hs_3 rfl rfl rfl (by kernel_rfl) (by kernel_rfl) rfl (by kernel_rfl) (by kernel_rfl) rfl (by kernel_rfl) rfl (fun w_4 hs_5 => ?_)
  refine SL.nil ?_
  refine CW.ret ?_
  repeat with_reducible first | refine PThen.ret ?_ | refine PBlock.ret ?_
  refine PRet.cell (t := 0) (ty := 81) (g := g_1) (v := .agg #[.int .i64 1, .int .i64 4, .int .i64 5, .int .i64 7, .int .i64 8]) rfl rfl (by kernel_rfl) (hs_5.all 0 g_1 _ rfl) (by kernel_rfl) ?_
  exact ⟨rfl, hs_5.gr⟩
set_option maxRecDepth 100000 in
set_option maxHeartbeats 4000000 in
theorem params_any (r : Int) (w : World) (hr : 0 ≤ r ∧ r < 32) : Tr Tryd.prog 12 #[.int .u8 r] w [] (IRw (rpar r)) := by
  refine Tr.of fun U hs0 => ?_
  refine calls_sx (n := 22) (args := [.int .u8 r]) Tryd.func12 rfl rfl rfl ?_
  refine CW.seq ?_
  refine CW.region ?_
  refine SL.v (.slice none 0 0) ?_
  refine SL.nil ?_
  refine CW.seq ?_
  refine CW.region ?_
  refine SL.newH (mk := fun g => .slice (some ⟨g, 0, none⟩) 1 1) (C := #[.int .i64 0]) (T := 3) hs0 rfl rfl (by kernel_rfl) (fun g_1 w_2 hs_3 => ?_)
  have hs_3 : SH U w w_2 [pt g_1 #[.int .i64 0] 3] := hs_3
  refine SL.v (.slice (some ⟨g_1, 0, none⟩) 1 1) ?_
  refine SL.nil ?_
  refine CW.seq ?_
  refine CW.seq ?_
  refine CW.region ?_
  refine SL.call (f := 26) (args := #[]) (w1 := w_2) rfl rfl (by kernel_rfl) (numbers_any w_2) ?_
  rintro x w_4 ⟨rfl, hc_5⟩
  refine ⟨.agg #[.int .i64 1, .int .i64 4, .int .i64 5, .int .i64 7, .int .i64 8], rfl, ?_⟩
  have hs_6 := hs_3.grow hc_5
  refine SL.v (.int .i64 0) ?_
  refine SL.nil ?_
  refine CW.block ?_
  refine CW.loopN 6 ?_
  refine CR.more ?_
  refine CW.seq ?_
  refine CW.region ?_
  refine SL.v (.bool true) ?_
  refine SL.nil ?_
  refine CW.seq ?_
  refine CW.cond_true (by kernel_rfl) ?_
  refine CW.skip ?_
  refine CW.seq ?_
  refine CW.block ?_
  refine CW.seq ?_
  refine CW.region ?_
  refine SL.v (.int .i64 1) ?_
  refine SL.v (.int .i64 1) ?_
  refine SL.nil ?_
  refine CW.seq ?_
  refine CW.region ?_
  refine SL.v (.int .u8 r) ?_
  refine SL.v (.int .i64 1) ?_
  refine SL.call (f := 27) (args := #[.int .i64 1]) (w1 := w_4) rfl rfl (by kernel_rfl) (part_1 w_4) ?_
  rintro x w_7 ⟨rfl, hc_8⟩
  refine ⟨.int .u8 1, rfl, ?_⟩
  have hs_9 := hs_6.grow hc_8
  refine SL.v (.int .u8 (bits .and .u8 r 1)) ?_
  refine SL.v (.bool (!((bits .and .u8 r 1) == 0))) ?_
  refine SL.nil ?_
  have hs_11 : SH U w w_7 [pt g_1 ⟨icells ([0]) ++ []⟩ 3] := hs_9
  refine CW.mid (fun e9 w9 => ∃ (XJ_12_0 : List Int) (gJ_12_0 capJ_12_0 : Nat) (padJ_12_0 : List Value), XJ_12_0 = (bif ((bits .and .u8 r 1) == 0) then [0] else ([0]) ++ [1]) ∧ SH U w w9 [pt gJ_12_0 ⟨icells XJ_12_0 ++ padJ_12_0⟩ 3] ∧ (icells XJ_12_0 ++ padJ_12_0).length = capJ_12_0 * 1 ∧ XJ_12_0.length ≤ capJ_12_0 ∧ capJ_12_0 ≤ maxLen ∧ XJ_12_0.length ≤ 2 ∧ e9 0 = .int .u8 r ∧ e9 2 = .slice none 0 0 ∧ e9 3 = .slice (some ⟨gJ_12_0, 0, none⟩) XJ_12_0.length capJ_12_0 ∧ e9 5 = .int .i64 1 ∧ e9 7 = .agg #[.int .i64 1, .int .i64 4, .int .i64 5, .int .i64 7, .int .i64 8] ∧ e9 8 = .int .i64 0 ∧ e9 9 = .bool true ∧ e9 15 = .bool (!((bits .and .u8 r 1) == 0))) ?_ ?_
  · skip
    rcases Bool.eq_false_or_eq_true ((bits .and .u8 r 1) == 0) with hb_13 | hb_13
    · try rw [hb_13]
      refine CW.cond_false (by kernel_rfl) ?_
      refine CW.skip ?_
      exact ⟨[0], g_1, 1, [], rfl, hs_11.pick [0] rfl, rfl, (by decide), (by decide), (Nat.le_trans (show ([0] : List Int).length ≤ 1 by decide) (by decide)), (by kernel_rfl), (by kernel_rfl), (by kernel_rfl), (by kernel_rfl), (by kernel_rfl), (by kernel_rfl), (by kernel_rfl), (by kernel_rfl)⟩
    · try rw [hb_13]
      refine CW.cond_true (by kernel_rfl) ?_
      refine CW.region ?_
      refine SL.v (.slice (some ⟨g_1, 0, none⟩) 1 1) ?_
      refine SL.v (.int .i64 1) ?_
      refine SL.newH (mk := fun g => .slice (some ⟨g, 0, none⟩) 1 1) (C := #[.int .i64 1]) (T := 3) hs_11 rfl rfl (by kernel_rfl) (fun g_14 w_15 hs_16 => ?_)
      have hs_16 : SH U w w_15 [pt g_1 ⟨icells ([0]) ++ []⟩ 3, pt g_14 #[.int .i64 1] 3] := hs_16
      refine SL.appH (z := .int .i64 0) (size := 1) (bytes := 8) (el := 3) (m := 1) (news := [.int .i64 1]) (i := 0) (g := g_1) (k := 1) (cap := 1) (xs := icells ([0])) (pad := []) (xs' := icells (([0]) ++ [1])) (k' := (([0]) ++ [1]).length) (L' := [pt g_14 #[.int .i64 1] 3]) hs_16 rfl rfl rfl (by kernel_rfl) (by kernel_rfl) (by kernel_rfl) (by kernel_rfl) (by kernel_rfl) (by kernel_rfl) rfl (icells_len _) rfl (by decide) (by decide) rfl (srcH (cs := [.int .i64 1]) (el := 3) (by kernel_rfl) (hs_16.pt_at (i := 1) rfl) rfl rfl (List.all_eq_true.1 (by kernel_rfl))) (by have := (show ([0] : List Int).length ≤ 1 by decide); omega) (icells_app ([0]) ([1])) (by simp) rfl (fun g_17 cap_18 pad_19 w_20 hs_21 hl_22 hc_23 hm_24 => ?_)
      have hs_21 : SH U w w_20 [pt g_14 #[.int .i64 1] 3, pt g_17 ⟨icells (([0]) ++ [1]) ++ pad_19⟩ 3] := hs_21
      refine SL.v (.slice (some ⟨g_17, 0, none⟩) ((([0]) ++ [1]).length) cap_18) ?_
      refine SL.nil ?_
      exact ⟨([0]) ++ [1], g_17, cap_18, pad_19, rfl, hs_21.pick [1] rfl, hl_22, hc_23, hm_24, (Nat.le_trans (show (([0]) ++ [1]).length ≤ 2 by rw [List.length_append]; exact Nat.add_le_add (show ([0] : List Int).length ≤ 1 by decide) (Nat.le_refl _)) (by decide)), (by kernel_rfl), (by kernel_rfl), (by kernel_rfl), (by kernel_rfl), (by kernel_rfl), (by kernel_rfl), (by kernel_rfl), (by kernel_rfl)⟩
  · rintro e_25 w_26 ⟨XJ_12_0, gJ_12_0, capJ_12_0, padJ_12_0, hXJ_12_0, hs_27, hlJ_12_0, hcJ_12_0, hmJ_12_0, hbdJ_12_0, hv_29, hv_30, hv_31, hv_32, hv_33, hv_34, hv_35, hv_36⟩
    obtain ⟨e_28, rfl⟩ : ∃ e_28, e_25 = put1 (put1 (put1 (put1 (put1 (put1 (put1 (put1 e_28 0 (.int .u8 r)) 2 (.slice none 0 0)) 3 (.slice (some ⟨gJ_12_0, 0, none⟩) XJ_12_0.length capJ_12_0)) 5 (.int .i64 1)) 7 (.agg #[.int .i64 1, .int .i64 4, .int .i64 5, .int .i64 7, .int .i64 8])) 8 (.int .i64 0)) 9 (.bool true)) 15 (.bool (!((bits .and .u8 r 1) == 0))) := ⟨e_25, (put_self hv_36).trans (congrArg (fun z => put1 z 15 (.bool (!((bits .and .u8 r 1) == 0)))) ((put_self hv_35).trans (congrArg (fun z => put1 z 9 (.bool true)) ((put_self hv_34).trans (congrArg (fun z => put1 z 8 (.int .i64 0)) ((put_self hv_33).trans (congrArg (fun z => put1 z 7 (.agg #[.int .i64 1, .int .i64 4, .int .i64 5, .int .i64 7, .int .i64 8])) ((put_self hv_32).trans (congrArg (fun z => put1 z 5 (.int .i64 1)) ((put_self hv_31).trans (congrArg (fun z => put1 z 3 (.slice (some ⟨gJ_12_0, 0, none⟩) XJ_12_0.length capJ_12_0)) ((put_self hv_30).trans (congrArg (fun z => put1 z 2 (.slice none 0 0)) (put_self hv_29))))))))))))))⟩
    clear hv_29 hv_30 hv_31 hv_32 hv_33 hv_34 hv_35 hv_36
    refine CW.region ?_
    refine SL.v (.int .i64 1) ?_
    refine SL.v (.int .i64 1) ?_
    refine SL.nil ?_
    refine CR.fresh (fun e9 => e9 0 = .int .u8 r ∧ e9 2 = .slice none 0 0 ∧ e9 3 = .slice (some ⟨gJ_12_0, 0, none⟩) XJ_12_0.length capJ_12_0 ∧ e9 7 = .agg #[.int .i64 1, .int .i64 4, .int .i64 5, .int .i64 7, .int .i64 8] ∧ e9 8 = .int .i64 1) ⟨(by kernel_rfl), (by kernel_rfl), (by kernel_rfl), (by kernel_rfl), (by kernel_rfl)⟩ ?_
    rintro e_37 ⟨hv_39, hv_40, hv_41, hv_42, hv_43⟩
    obtain ⟨e_38, rfl⟩ : ∃ e_38, e_37 = put1 (put1 (put1 (put1 (put1 e_38 0 (.int .u8 r)) 2 (.slice none 0 0)) 3 (.slice (some ⟨gJ_12_0, 0, none⟩) XJ_12_0.length capJ_12_0)) 7 (.agg #[.int .i64 1, .int .i64 4, .int .i64 5, .int .i64 7, .int .i64 8])) 8 (.int .i64 1) := ⟨e_37, (put_self hv_43).trans (congrArg (fun z => put1 z 8 (.int .i64 1)) ((put_self hv_42).trans (congrArg (fun z => put1 z 7 (.agg #[.int .i64 1, .int .i64 4, .int .i64 5, .int .i64 7, .int .i64 8])) ((put_self hv_41).trans (congrArg (fun z => put1 z 3 (.slice (some ⟨gJ_12_0, 0, none⟩) XJ_12_0.length capJ_12_0)) ((put_self hv_40).trans (congrArg (fun z => put1 z 2 (.slice none 0 0)) (put_self hv_39))))))))⟩
    clear hv_39 hv_40 hv_41 hv_42 hv_43
    refine CR.more ?_
    refine CW.seq ?_
    refine CW.region ?_
    refine SL.v (.bool true) ?_
    refine SL.nil ?_
    refine CW.seq ?_
    refine CW.cond_true (by kernel_rfl) ?_
    refine CW.skip ?_
    refine CW.seq ?_
    refine CW.block ?_
    refine CW.seq ?_
    refine CW.region ?_
    refine SL.v (.int .i64 4) ?_
    refine SL.v (.int .i64 4) ?_
    refine SL.nil ?_
    refine CW.seq ?_
    refine CW.region ?_
    refine SL.v (.int .u8 r) ?_
    refine SL.v (.int .i64 4) ?_
    refine SL.call (f := 27) (args := #[.int .i64 4]) (w1 := w_26) rfl rfl (by kernel_rfl) (part_4 w_26) ?_
    rintro x w_44 ⟨rfl, hc_45⟩
    refine ⟨.int .u8 2, rfl, ?_⟩
    have hs_46 := hs_27.grow hc_45
    refine SL.v (.int .u8 (bits .and .u8 r 2)) ?_
    refine SL.v (.bool (!((bits .and .u8 r 2) == 0))) ?_
    refine SL.nil ?_
    refine CW.mid (fun e9 w9 => ∃ (XJ_47_0 : List Int) (gJ_47_0 capJ_47_0 : Nat) (padJ_47_0 : List Value), XJ_47_0 = (bif ((bits .and .u8 r 2) == 0) then XJ_12_0 else XJ_12_0 ++ [4]) ∧ SH U w w9 [pt gJ_47_0 ⟨icells XJ_47_0 ++ padJ_47_0⟩ 3] ∧ (icells XJ_47_0 ++ padJ_47_0).length = capJ_47_0 * 1 ∧ XJ_47_0.length ≤ capJ_47_0 ∧ capJ_47_0 ≤ maxLen ∧ XJ_47_0.length ≤ 3 ∧ e9 0 = .int .u8 r ∧ e9 2 = .slice none 0 0 ∧ e9 3 = .slice (some ⟨gJ_47_0, 0, none⟩) XJ_47_0.length capJ_47_0 ∧ e9 5 = .int .i64 4 ∧ e9 7 = .agg #[.int .i64 1, .int .i64 4, .int .i64 5, .int .i64 7, .int .i64 8] ∧ e9 8 = .int .i64 1 ∧ e9 9 = .bool true ∧ e9 15 = .bool (!((bits .and .u8 r 2) == 0))) ?_ ?_
    · skip
      rcases Bool.eq_false_or_eq_true ((bits .and .u8 r 2) == 0) with hb_48 | hb_48
      · try rw [hb_48]
        refine CW.cond_false (by kernel_rfl) ?_
        refine CW.skip ?_
        exact ⟨XJ_12_0, gJ_12_0, capJ_12_0, padJ_12_0, rfl, hs_46.pick [0] rfl, hlJ_12_0, hcJ_12_0, hmJ_12_0, (Nat.le_trans hbdJ_12_0 (by decide)), (by kernel_rfl), (by kernel_rfl), (by kernel_rfl), (by kernel_rfl), (by kernel_rfl), (by kernel_rfl), (by kernel_rfl), (by kernel_rfl)⟩
      · try rw [hb_48]
        refine CW.cond_true (by kernel_rfl) ?_
        refine CW.region ?_
        refine SL.v (.slice (some ⟨gJ_12_0, 0, none⟩) XJ_12_0.length capJ_12_0) ?_
        refine SL.v (.int .i64 4) ?_
        refine SL.newH (mk := fun g => .slice (some ⟨g, 0, none⟩) 1 1) (C := #[.int .i64 4]) (T := 3) hs_46 rfl rfl (by kernel_rfl) (fun g_49 w_50 hs_51 => ?_)
        have hs_51 : SH U w w_50 [pt gJ_12_0 ⟨icells XJ_12_0 ++ padJ_12_0⟩ 3, pt g_49 #[.int .i64 4] 3] := hs_51
        refine SL.appH (z := .int .i64 0) (size := 1) (bytes := 8) (el := 3) (m := 1) (news := [.int .i64 4]) (i := 0) (g := gJ_12_0) (k := XJ_12_0.length) (cap := capJ_12_0) (xs := icells XJ_12_0) (pad := padJ_12_0) (xs' := icells (XJ_12_0 ++ [4])) (k' := (XJ_12_0 ++ [4]).length) (L' := [pt g_49 #[.int .i64 4] 3]) hs_51 rfl rfl rfl (by kernel_rfl) (by kernel_rfl) (by kernel_rfl) (by kernel_rfl) (by kernel_rfl) (by kernel_rfl) rfl (icells_len _) hlJ_12_0 hcJ_12_0 hmJ_12_0 rfl (srcH (cs := [.int .i64 4]) (el := 3) (by kernel_rfl) (hs_51.pt_at (i := 1) rfl) rfl rfl (List.all_eq_true.1 (by kernel_rfl))) (by have := hbdJ_12_0; omega) (icells_app XJ_12_0 ([4])) (by simp) rfl (fun g_52 cap_53 pad_54 w_55 hs_56 hl_57 hc_58 hm_59 => ?_)
        have hs_56 : SH U w w_55 [pt g_49 #[.int .i64 4] 3, pt g_52 ⟨icells (XJ_12_0 ++ [4]) ++ pad_54⟩ 3] := hs_56
        refine SL.v (.slice (some ⟨g_52, 0, none⟩) ((XJ_12_0 ++ [4]).length) cap_53) ?_
        refine SL.nil ?_
        exact ⟨XJ_12_0 ++ [4], g_52, cap_53, pad_54, rfl, hs_56.pick [1] rfl, hl_57, hc_58, hm_59, (Nat.le_trans (show (XJ_12_0 ++ [4]).length ≤ 3 by rw [List.length_append]; exact Nat.add_le_add hbdJ_12_0 (Nat.le_refl _)) (by decide)), (by kernel_rfl), (by kernel_rfl), (by kernel_rfl), (by kernel_rfl), (by kernel_rfl), (by kernel_rfl), (by kernel_rfl), (by kernel_rfl)⟩
    · rintro e_60 w_61 ⟨XJ_47_0, gJ_47_0, capJ_47_0, padJ_47_0, hXJ_47_0, hs_62, hlJ_47_0, hcJ_47_0, hmJ_47_0, hbdJ_47_0, hv_64, hv_65, hv_66, hv_67, hv_68, hv_69, hv_70, hv_71⟩
      obtain ⟨e_63, rfl⟩ : ∃ e_63, e_60 = put1 (put1 (put1 (put1 (put1 (put1 (put1 (put1 e_63 0 (.int .u8 r)) 2 (.slice none 0 0)) 3 (.slice (some ⟨gJ_47_0, 0, none⟩) XJ_47_0.length capJ_47_0)) 5 (.int .i64 4)) 7 (.agg #[.int .i64 1, .int .i64 4, .int .i64 5, .int .i64 7, .int .i64 8])) 8 (.int .i64 1)) 9 (.bool true)) 15 (.bool (!((bits .and .u8 r 2) == 0))) := ⟨e_60, (put_self hv_71).trans (congrArg (fun z => put1 z 15 (.bool (!((bits .and .u8 r 2) == 0)))) ((put_self hv_70).trans (congrArg (fun z => put1 z 9 (.bool true)) ((put_self hv_69).trans (congrArg (fun z => put1 z 8 (.int .i64 1)) ((put_self hv_68).trans (congrArg (fun z => put1 z 7 (.agg #[.int .i64 1, .int .i64 4, .int .i64 5, .int .i64 7, .int .i64 8])) ((put_self hv_67).trans (congrArg (fun z => put1 z 5 (.int .i64 4)) ((put_self hv_66).trans (congrArg (fun z => put1 z 3 (.slice (some ⟨gJ_47_0, 0, none⟩) XJ_47_0.length capJ_47_0)) ((put_self hv_65).trans (congrArg (fun z => put1 z 2 (.slice none 0 0)) (put_self hv_64))))))))))))))⟩
      clear hv_64 hv_65 hv_66 hv_67 hv_68 hv_69 hv_70 hv_71
      refine CW.region ?_
      refine SL.v (.int .i64 2) ?_
      refine SL.v (.int .i64 2) ?_
      refine SL.nil ?_
      refine CR.fresh (fun e9 => e9 0 = .int .u8 r ∧ e9 2 = .slice none 0 0 ∧ e9 3 = .slice (some ⟨gJ_47_0, 0, none⟩) XJ_47_0.length capJ_47_0 ∧ e9 7 = .agg #[.int .i64 1, .int .i64 4, .int .i64 5, .int .i64 7, .int .i64 8] ∧ e9 8 = .int .i64 2) ⟨(by kernel_rfl), (by kernel_rfl), (by kernel_rfl), (by kernel_rfl), (by kernel_rfl)⟩ ?_
      rintro e_72 ⟨hv_74, hv_75, hv_76, hv_77, hv_78⟩
      obtain ⟨e_73, rfl⟩ : ∃ e_73, e_72 = put1 (put1 (put1 (put1 (put1 e_73 0 (.int .u8 r)) 2 (.slice none 0 0)) 3 (.slice (some ⟨gJ_47_0, 0, none⟩) XJ_47_0.length capJ_47_0)) 7 (.agg #[.int .i64 1, .int .i64 4, .int .i64 5, .int .i64 7, .int .i64 8])) 8 (.int .i64 2) := ⟨e_72, (put_self hv_78).trans (congrArg (fun z => put1 z 8 (.int .i64 2)) ((put_self hv_77).trans (congrArg (fun z => put1 z 7 (.agg #[.int .i64 1, .int .i64 4, .int .i64 5, .int .i64 7, .int .i64 8])) ((put_self hv_76).trans (congrArg (fun z => put1 z 3 (.slice (some ⟨gJ_47_0, 0, none⟩) XJ_47_0.length capJ_47_0)) ((put_self hv_75).trans (congrArg (fun z => put1 z 2 (.slice none 0 0)) (put_self hv_74))))))))⟩
      clear hv_74 hv_75 hv_76 hv_77 hv_78
      refine CR.more ?_
      refine CW.seq ?_
      refine CW.region ?_
      refine SL.v (.bool true) ?_
      refine SL.nil ?_
      refine CW.seq ?_
      refine CW.cond_true (by kernel_rfl) ?_
      refine CW.skip ?_
      refine CW.seq ?_
      refine CW.block ?_
      refine CW.seq ?_
      refine CW.region ?_
      refine SL.v (.int .i64 5) ?_
      refine SL.v (.int .i64 5) ?_
      refine SL.nil ?_
      refine CW.seq ?_
      refine CW.region ?_
      refine SL.v (.int .u8 r) ?_
      refine SL.v (.int .i64 5) ?_
      refine SL.call (f := 27) (args := #[.int .i64 5]) (w1 := w_61) rfl rfl (by kernel_rfl) (part_5 w_61) ?_
      rintro x w_79 ⟨rfl, hc_80⟩
      refine ⟨.int .u8 4, rfl, ?_⟩
      have hs_81 := hs_62.grow hc_80
      refine SL.v (.int .u8 (bits .and .u8 r 4)) ?_
      refine SL.v (.bool (!((bits .and .u8 r 4) == 0))) ?_
      refine SL.nil ?_
      refine CW.mid (fun e9 w9 => ∃ (XJ_82_0 : List Int) (gJ_82_0 capJ_82_0 : Nat) (padJ_82_0 : List Value), XJ_82_0 = (bif ((bits .and .u8 r 4) == 0) then XJ_47_0 else XJ_47_0 ++ [5]) ∧ SH U w w9 [pt gJ_82_0 ⟨icells XJ_82_0 ++ padJ_82_0⟩ 3] ∧ (icells XJ_82_0 ++ padJ_82_0).length = capJ_82_0 * 1 ∧ XJ_82_0.length ≤ capJ_82_0 ∧ capJ_82_0 ≤ maxLen ∧ XJ_82_0.length ≤ 4 ∧ e9 0 = .int .u8 r ∧ e9 2 = .slice none 0 0 ∧ e9 3 = .slice (some ⟨gJ_82_0, 0, none⟩) XJ_82_0.length capJ_82_0 ∧ e9 5 = .int .i64 5 ∧ e9 7 = .agg #[.int .i64 1, .int .i64 4, .int .i64 5, .int .i64 7, .int .i64 8] ∧ e9 8 = .int .i64 2 ∧ e9 9 = .bool true ∧ e9 15 = .bool (!((bits .and .u8 r 4) == 0))) ?_ ?_
      · skip
        rcases Bool.eq_false_or_eq_true ((bits .and .u8 r 4) == 0) with hb_83 | hb_83
        · try rw [hb_83]
          refine CW.cond_false (by kernel_rfl) ?_
          refine CW.skip ?_
          exact ⟨XJ_47_0, gJ_47_0, capJ_47_0, padJ_47_0, rfl, hs_81.pick [0] rfl, hlJ_47_0, hcJ_47_0, hmJ_47_0, (Nat.le_trans hbdJ_47_0 (by decide)), (by kernel_rfl), (by kernel_rfl), (by kernel_rfl), (by kernel_rfl), (by kernel_rfl), (by kernel_rfl), (by kernel_rfl), (by kernel_rfl)⟩
        · try rw [hb_83]
          refine CW.cond_true (by kernel_rfl) ?_
          refine CW.region ?_
          refine SL.v (.slice (some ⟨gJ_47_0, 0, none⟩) XJ_47_0.length capJ_47_0) ?_
          refine SL.v (.int .i64 5) ?_
          refine SL.newH (mk := fun g => .slice (some ⟨g, 0, none⟩) 1 1) (C := #[.int .i64 5]) (T := 3) hs_81 rfl rfl (by kernel_rfl) (fun g_84 w_85 hs_86 => ?_)
          have hs_86 : SH U w w_85 [pt gJ_47_0 ⟨icells XJ_47_0 ++ padJ_47_0⟩ 3, pt g_84 #[.int .i64 5] 3] := hs_86
          refine SL.appH (z := .int .i64 0) (size := 1) (bytes := 8) (el := 3) (m := 1) (news := [.int .i64 5]) (i := 0) (g := gJ_47_0) (k := XJ_47_0.length) (cap := capJ_47_0) (xs := icells XJ_47_0) (pad := padJ_47_0) (xs' := icells (XJ_47_0 ++ [5])) (k' := (XJ_47_0 ++ [5]).length) (L' := [pt g_84 #[.int .i64 5] 3]) hs_86 rfl rfl rfl (by kernel_rfl) (by kernel_rfl) (by kernel_rfl) (by kernel_rfl) (by kernel_rfl) (by kernel_rfl) rfl (icells_len _) hlJ_47_0 hcJ_47_0 hmJ_47_0 rfl (srcH (cs := [.int .i64 5]) (el := 3) (by kernel_rfl) (hs_86.pt_at (i := 1) rfl) rfl rfl (List.all_eq_true.1 (by kernel_rfl))) (by have := hbdJ_47_0; omega) (icells_app XJ_47_0 ([5])) (by simp) rfl (fun g_87 cap_88 pad_89 w_90 hs_91 hl_92 hc_93 hm_94 => ?_)
          have hs_91 : SH U w w_90 [pt g_84 #[.int .i64 5] 3, pt g_87 ⟨icells (XJ_47_0 ++ [5]) ++ pad_89⟩ 3] := hs_91
          refine SL.v (.slice (some ⟨g_87, 0, none⟩) ((XJ_47_0 ++ [5]).length) cap_88) ?_
          refine SL.nil ?_
          exact ⟨XJ_47_0 ++ [5], g_87, cap_88, pad_89, rfl, hs_91.pick [1] rfl, hl_92, hc_93, hm_94, (Nat.le_trans (show (XJ_47_0 ++ [5]).length ≤ 4 by rw [List.length_append]; exact Nat.add_le_add hbdJ_47_0 (Nat.le_refl _)) (by decide)), (by kernel_rfl), (by kernel_rfl), (by kernel_rfl), (by kernel_rfl), (by kernel_rfl), (by kernel_rfl), (by kernel_rfl), (by kernel_rfl)⟩
      · rintro e_95 w_96 ⟨XJ_82_0, gJ_82_0, capJ_82_0, padJ_82_0, hXJ_82_0, hs_97, hlJ_82_0, hcJ_82_0, hmJ_82_0, hbdJ_82_0, hv_99, hv_100, hv_101, hv_102, hv_103, hv_104, hv_105, hv_106⟩
        obtain ⟨e_98, rfl⟩ : ∃ e_98, e_95 = put1 (put1 (put1 (put1 (put1 (put1 (put1 (put1 e_98 0 (.int .u8 r)) 2 (.slice none 0 0)) 3 (.slice (some ⟨gJ_82_0, 0, none⟩) XJ_82_0.length capJ_82_0)) 5 (.int .i64 5)) 7 (.agg #[.int .i64 1, .int .i64 4, .int .i64 5, .int .i64 7, .int .i64 8])) 8 (.int .i64 2)) 9 (.bool true)) 15 (.bool (!((bits .and .u8 r 4) == 0))) := ⟨e_95, (put_self hv_106).trans (congrArg (fun z => put1 z 15 (.bool (!((bits .and .u8 r 4) == 0)))) ((put_self hv_105).trans (congrArg (fun z => put1 z 9 (.bool true)) ((put_self hv_104).trans (congrArg (fun z => put1 z 8 (.int .i64 2)) ((put_self hv_103).trans (congrArg (fun z => put1 z 7 (.agg #[.int .i64 1, .int .i64 4, .int .i64 5, .int .i64 7, .int .i64 8])) ((put_self hv_102).trans (congrArg (fun z => put1 z 5 (.int .i64 5)) ((put_self hv_101).trans (congrArg (fun z => put1 z 3 (.slice (some ⟨gJ_82_0, 0, none⟩) XJ_82_0.length capJ_82_0)) ((put_self hv_100).trans (congrArg (fun z => put1 z 2 (.slice none 0 0)) (put_self hv_99))))))))))))))⟩
        clear hv_99 hv_100 hv_101 hv_102 hv_103 hv_104 hv_105 hv_106
        refine CW.region ?_
        refine SL.v (.int .i64 3) ?_
        refine SL.v (.int .i64 3) ?_
        refine SL.nil ?_
        refine CR.fresh (fun e9 => e9 0 = .int .u8 r ∧ e9 2 = .slice none 0 0 ∧ e9 3 = .slice (some ⟨gJ_82_0, 0, none⟩) XJ_82_0.length capJ_82_0 ∧ e9 7 = .agg #[.int .i64 1, .int .i64 4, .int .i64 5, .int .i64 7, .int .i64 8] ∧ e9 8 = .int .i64 3) ⟨(by kernel_rfl), (by kernel_rfl), (by kernel_rfl), (by kernel_rfl), (by kernel_rfl)⟩ ?_
        rintro e_107 ⟨hv_109, hv_110, hv_111, hv_112, hv_113⟩
        obtain ⟨e_108, rfl⟩ : ∃ e_108, e_107 = put1 (put1 (put1 (put1 (put1 e_108 0 (.int .u8 r)) 2 (.slice none 0 0)) 3 (.slice (some ⟨gJ_82_0, 0, none⟩) XJ_82_0.length capJ_82_0)) 7 (.agg #[.int .i64 1, .int .i64 4, .int .i64 5, .int .i64 7, .int .i64 8])) 8 (.int .i64 3) := ⟨e_107, (put_self hv_113).trans (congrArg (fun z => put1 z 8 (.int .i64 3)) ((put_self hv_112).trans (congrArg (fun z => put1 z 7 (.agg #[.int .i64 1, .int .i64 4, .int .i64 5, .int .i64 7, .int .i64 8])) ((put_self hv_111).trans (congrArg (fun z => put1 z 3 (.slice (some ⟨gJ_82_0, 0, none⟩) XJ_82_0.length capJ_82_0)) ((put_self hv_110).trans (congrArg (fun z => put1 z 2 (.slice none 0 0)) (put_self hv_109))))))))⟩
        clear hv_109 hv_110 hv_111 hv_112 hv_113
        refine CR.more ?_
        refine CW.seq ?_
        refine CW.region ?_
        refine SL.v (.bool true) ?_
        refine SL.nil ?_
        refine CW.seq ?_
        refine CW.cond_true (by kernel_rfl) ?_
        refine CW.skip ?_
        refine CW.seq ?_
        refine CW.block ?_
        refine CW.seq ?_
        refine CW.region ?_
        refine SL.v (.int .i64 7) ?_
        refine SL.v (.int .i64 7) ?_
        refine SL.nil ?_
        refine CW.seq ?_
        refine CW.region ?_
        refine SL.v (.int .u8 r) ?_
        refine SL.v (.int .i64 7) ?_
        refine SL.call (f := 27) (args := #[.int .i64 7]) (w1 := w_96) rfl rfl (by kernel_rfl) (part_7 w_96) ?_
        rintro x w_114 ⟨rfl, hc_115⟩
        refine ⟨.int .u8 8, rfl, ?_⟩
        have hs_116 := hs_97.grow hc_115
        refine SL.v (.int .u8 (bits .and .u8 r 8)) ?_
        refine SL.v (.bool (!((bits .and .u8 r 8) == 0))) ?_
        refine SL.nil ?_
        refine CW.mid (fun e9 w9 => ∃ (XJ_117_0 : List Int) (gJ_117_0 capJ_117_0 : Nat) (padJ_117_0 : List Value), XJ_117_0 = (bif ((bits .and .u8 r 8) == 0) then XJ_82_0 else XJ_82_0 ++ [7]) ∧ SH U w w9 [pt gJ_117_0 ⟨icells XJ_117_0 ++ padJ_117_0⟩ 3] ∧ (icells XJ_117_0 ++ padJ_117_0).length = capJ_117_0 * 1 ∧ XJ_117_0.length ≤ capJ_117_0 ∧ capJ_117_0 ≤ maxLen ∧ XJ_117_0.length ≤ 5 ∧ e9 0 = .int .u8 r ∧ e9 2 = .slice none 0 0 ∧ e9 3 = .slice (some ⟨gJ_117_0, 0, none⟩) XJ_117_0.length capJ_117_0 ∧ e9 5 = .int .i64 7 ∧ e9 7 = .agg #[.int .i64 1, .int .i64 4, .int .i64 5, .int .i64 7, .int .i64 8] ∧ e9 8 = .int .i64 3 ∧ e9 9 = .bool true ∧ e9 15 = .bool (!((bits .and .u8 r 8) == 0))) ?_ ?_
        · skip
          rcases Bool.eq_false_or_eq_true ((bits .and .u8 r 8) == 0) with hb_118 | hb_118
          · try rw [hb_118]
            refine CW.cond_false (by kernel_rfl) ?_
            refine CW.skip ?_
            exact ⟨XJ_82_0, gJ_82_0, capJ_82_0, padJ_82_0, rfl, hs_116.pick [0] rfl, hlJ_82_0, hcJ_82_0, hmJ_82_0, (Nat.le_trans hbdJ_82_0 (by decide)), (by kernel_rfl), (by kernel_rfl), (by kernel_rfl), (by kernel_rfl), (by kernel_rfl), (by kernel_rfl), (by kernel_rfl), (by kernel_rfl)⟩
          · try rw [hb_118]
            refine CW.cond_true (by kernel_rfl) ?_
            refine CW.region ?_
            refine SL.v (.slice (some ⟨gJ_82_0, 0, none⟩) XJ_82_0.length capJ_82_0) ?_
            refine SL.v (.int .i64 7) ?_
            refine SL.newH (mk := fun g => .slice (some ⟨g, 0, none⟩) 1 1) (C := #[.int .i64 7]) (T := 3) hs_116 rfl rfl (by kernel_rfl) (fun g_119 w_120 hs_121 => ?_)
            have hs_121 : SH U w w_120 [pt gJ_82_0 ⟨icells XJ_82_0 ++ padJ_82_0⟩ 3, pt g_119 #[.int .i64 7] 3] := hs_121
            refine SL.appH (z := .int .i64 0) (size := 1) (bytes := 8) (el := 3) (m := 1) (news := [.int .i64 7]) (i := 0) (g := gJ_82_0) (k := XJ_82_0.length) (cap := capJ_82_0) (xs := icells XJ_82_0) (pad := padJ_82_0) (xs' := icells (XJ_82_0 ++ [7])) (k' := (XJ_82_0 ++ [7]).length) (L' := [pt g_119 #[.int .i64 7] 3]) hs_121 rfl rfl rfl (by kernel_rfl) (by kernel_rfl) (by kernel_rfl) (by kernel_rfl) (by kernel_rfl) (by kernel_rfl) rfl (icells_len _) hlJ_82_0 hcJ_82_0 hmJ_82_0 rfl (srcH (cs := [.int .i64 7]) (el := 3) (by kernel_rfl) (hs_121.pt_at (i := 1) rfl) rfl rfl (List.all_eq_true.1 (by kernel_rfl))) (by have := hbdJ_82_0; omega) (icells_app XJ_82_0 ([7])) (by simp) rfl (fun g_122 cap_123 pad_124 w_125 hs_126 hl_127 hc_128 hm_129 => ?_)
            have hs_126 : SH U w w_125 [pt g_119 #[.int .i64 7] 3, pt g_122 ⟨icells (XJ_82_0 ++ [7]) ++ pad_124⟩ 3] := hs_126
            refine SL.v (.slice (some ⟨g_122, 0, none⟩) ((XJ_82_0 ++ [7]).length) cap_123) ?_
            refine SL.nil ?_
            exact ⟨XJ_82_0 ++ [7], g_122, cap_123, pad_124, rfl, hs_126.pick [1] rfl, hl_127, hc_128, hm_129, (Nat.le_trans (show (XJ_82_0 ++ [7]).length ≤ 5 by rw [List.length_append]; exact Nat.add_le_add hbdJ_82_0 (Nat.le_refl _)) (by decide)), (by kernel_rfl), (by kernel_rfl), (by kernel_rfl), (by kernel_rfl), (by kernel_rfl), (by kernel_rfl), (by kernel_rfl), (by kernel_rfl)⟩
        · rintro e_130 w_131 ⟨XJ_117_0, gJ_117_0, capJ_117_0, padJ_117_0, hXJ_117_0, hs_132, hlJ_117_0, hcJ_117_0, hmJ_117_0, hbdJ_117_0, hv_134, hv_135, hv_136, hv_137, hv_138, hv_139, hv_140, hv_141⟩
          obtain ⟨e_133, rfl⟩ : ∃ e_133, e_130 = put1 (put1 (put1 (put1 (put1 (put1 (put1 (put1 e_133 0 (.int .u8 r)) 2 (.slice none 0 0)) 3 (.slice (some ⟨gJ_117_0, 0, none⟩) XJ_117_0.length capJ_117_0)) 5 (.int .i64 7)) 7 (.agg #[.int .i64 1, .int .i64 4, .int .i64 5, .int .i64 7, .int .i64 8])) 8 (.int .i64 3)) 9 (.bool true)) 15 (.bool (!((bits .and .u8 r 8) == 0))) := ⟨e_130, (put_self hv_141).trans (congrArg (fun z => put1 z 15 (.bool (!((bits .and .u8 r 8) == 0)))) ((put_self hv_140).trans (congrArg (fun z => put1 z 9 (.bool true)) ((put_self hv_139).trans (congrArg (fun z => put1 z 8 (.int .i64 3)) ((put_self hv_138).trans (congrArg (fun z => put1 z 7 (.agg #[.int .i64 1, .int .i64 4, .int .i64 5, .int .i64 7, .int .i64 8])) ((put_self hv_137).trans (congrArg (fun z => put1 z 5 (.int .i64 7)) ((put_self hv_136).trans (congrArg (fun z => put1 z 3 (.slice (some ⟨gJ_117_0, 0, none⟩) XJ_117_0.length capJ_117_0)) ((put_self hv_135).trans (congrArg (fun z => put1 z 2 (.slice none 0 0)) (put_self hv_134))))))))))))))⟩
          clear hv_134 hv_135 hv_136 hv_137 hv_138 hv_139 hv_140 hv_141
          refine CW.region ?_
          refine SL.v (.int .i64 4) ?_
          refine SL.v (.int .i64 4) ?_
          refine SL.nil ?_
          refine CR.fresh (fun e9 => e9 0 = .int .u8 r ∧ e9 2 = .slice none 0 0 ∧ e9 3 = .slice (some ⟨gJ_117_0, 0, none⟩) XJ_117_0.length capJ_117_0 ∧ e9 7 = .agg #[.int .i64 1, .int .i64 4, .int .i64 5, .int .i64 7, .int .i64 8] ∧ e9 8 = .int .i64 4) ⟨(by kernel_rfl), (by kernel_rfl), (by kernel_rfl), (by kernel_rfl), (by kernel_rfl)⟩ ?_
          rintro e_142 ⟨hv_144, hv_145, hv_146, hv_147, hv_148⟩
          obtain ⟨e_143, rfl⟩ : ∃ e_143, e_142 = put1 (put1 (put1 (put1 (put1 e_143 0 (.int .u8 r)) 2 (.slice none 0 0)) 3 (.slice (some ⟨gJ_117_0, 0, none⟩) XJ_117_0.length capJ_117_0)) 7 (.agg #[.int .i64 1, .int .i64 4, .int .i64 5, .int .i64 7, .int .i64 8])) 8 (.int .i64 4) := ⟨e_142, (put_self hv_148).trans (congrArg (fun z => put1 z 8 (.int .i64 4)) ((put_self hv_147).trans (congrArg (fun z => put1 z 7 (.agg #[.int .i64 1, .int .i64 4, .int .i64 5, .int .i64 7, .int .i64 8])) ((put_self hv_146).trans (congrArg (fun z => put1 z 3 (.slice (some ⟨gJ_117_0, 0, none⟩) XJ_117_0.length capJ_117_0)) ((put_self hv_145).trans (congrArg (fun z => put1 z 2 (.slice none 0 0)) (put_self hv_144))))))))⟩
          clear hv_144 hv_145 hv_146 hv_147 hv_148
          refine CR.more ?_
          refine CW.seq ?_
          refine CW.region ?_
          refine SL.v (.bool true) ?_
          refine SL.nil ?_
          refine CW.seq ?_
          refine CW.cond_true (by kernel_rfl) ?_
          refine CW.skip ?_
          refine CW.seq ?_
          refine CW.block ?_
          refine CW.seq ?_
          refine CW.region ?_
          refine SL.v (.int .i64 8) ?_
          refine SL.v (.int .i64 8) ?_
          refine SL.nil ?_
          refine CW.seq ?_
          refine CW.region ?_
          refine SL.v (.int .u8 r) ?_
          refine SL.v (.int .i64 8) ?_
          refine SL.call (f := 27) (args := #[.int .i64 8]) (w1 := w_131) rfl rfl (by kernel_rfl) (part_8 w_131) ?_
          rintro x w_149 ⟨rfl, hc_150⟩
          refine ⟨.int .u8 16, rfl, ?_⟩
          have hs_151 := hs_132.grow hc_150
          refine SL.v (.int .u8 (bits .and .u8 r 16)) ?_
          refine SL.v (.bool (!((bits .and .u8 r 16) == 0))) ?_
          refine SL.nil ?_
          refine CW.mid (fun e9 w9 => ∃ (XJ_152_0 : List Int) (gJ_152_0 capJ_152_0 : Nat) (padJ_152_0 : List Value), XJ_152_0 = (bif ((bits .and .u8 r 16) == 0) then XJ_117_0 else XJ_117_0 ++ [8]) ∧ SH U w w9 [pt gJ_152_0 ⟨icells XJ_152_0 ++ padJ_152_0⟩ 3] ∧ (icells XJ_152_0 ++ padJ_152_0).length = capJ_152_0 * 1 ∧ XJ_152_0.length ≤ capJ_152_0 ∧ capJ_152_0 ≤ maxLen ∧ XJ_152_0.length ≤ 6 ∧ e9 0 = .int .u8 r ∧ e9 2 = .slice none 0 0 ∧ e9 3 = .slice (some ⟨gJ_152_0, 0, none⟩) XJ_152_0.length capJ_152_0 ∧ e9 5 = .int .i64 8 ∧ e9 7 = .agg #[.int .i64 1, .int .i64 4, .int .i64 5, .int .i64 7, .int .i64 8] ∧ e9 8 = .int .i64 4 ∧ e9 9 = .bool true ∧ e9 15 = .bool (!((bits .and .u8 r 16) == 0))) ?_ ?_
          · skip
            rcases Bool.eq_false_or_eq_true ((bits .and .u8 r 16) == 0) with hb_153 | hb_153
            · try rw [hb_153]
              refine CW.cond_false (by kernel_rfl) ?_
              refine CW.skip ?_
              exact ⟨XJ_117_0, gJ_117_0, capJ_117_0, padJ_117_0, rfl, hs_151.pick [0] rfl, hlJ_117_0, hcJ_117_0, hmJ_117_0, (Nat.le_trans hbdJ_117_0 (by decide)), (by kernel_rfl), (by kernel_rfl), (by kernel_rfl), (by kernel_rfl), (by kernel_rfl), (by kernel_rfl), (by kernel_rfl), (by kernel_rfl)⟩
            · try rw [hb_153]
              refine CW.cond_true (by kernel_rfl) ?_
              refine CW.region ?_
              refine SL.v (.slice (some ⟨gJ_117_0, 0, none⟩) XJ_117_0.length capJ_117_0) ?_
              refine SL.v (.int .i64 8) ?_
              refine SL.newH (mk := fun g => .slice (some ⟨g, 0, none⟩) 1 1) (C := #[.int .i64 8]) (T := 3) hs_151 rfl rfl (by kernel_rfl) (fun g_154 w_155 hs_156 => ?_)
              have hs_156 : SH U w w_155 [pt gJ_117_0 ⟨icells XJ_117_0 ++ padJ_117_0⟩ 3, pt g_154 #[.int .i64 8] 3] := hs_156
              refine SL.appH (z := .int .i64 0) (size := 1) (bytes := 8) (el := 3) (m := 1) (news := [.int .i64 8]) (i := 0) (g := gJ_117_0) (k := XJ_117_0.length) (cap := capJ_117_0) (xs := icells XJ_117_0) (pad := padJ_117_0) (xs' := icells (XJ_117_0 ++ [8])) (k' := (XJ_117_0 ++ [8]).length) (L' := [pt g_154 #[.int .i64 8] 3]) hs_156 rfl rfl rfl (by kernel_rfl) (by kernel_rfl) (by kernel_rfl) (by kernel_rfl) (by kernel_rfl) (by kernel_rfl) rfl (icells_len _) hlJ_117_0 hcJ_117_0 hmJ_117_0 rfl (srcH (cs := [.int .i64 8]) (el := 3) (by kernel_rfl) (hs_156.pt_at (i := 1) rfl) rfl rfl (List.all_eq_true.1 (by kernel_rfl))) (by have := hbdJ_117_0; omega) (icells_app XJ_117_0 ([8])) (by simp) rfl (fun g_157 cap_158 pad_159 w_160 hs_161 hl_162 hc_163 hm_164 => ?_)
              have hs_161 : SH U w w_160 [pt g_154 #[.int .i64 8] 3, pt g_157 ⟨icells (XJ_117_0 ++ [8]) ++ pad_159⟩ 3] := hs_161
              refine SL.v (.slice (some ⟨g_157, 0, none⟩) ((XJ_117_0 ++ [8]).length) cap_158) ?_
              refine SL.nil ?_
              exact ⟨XJ_117_0 ++ [8], g_157, cap_158, pad_159, rfl, hs_161.pick [1] rfl, hl_162, hc_163, hm_164, (Nat.le_trans (show (XJ_117_0 ++ [8]).length ≤ 6 by rw [List.length_append]; exact Nat.add_le_add hbdJ_117_0 (Nat.le_refl _)) (by decide)), (by kernel_rfl), (by kernel_rfl), (by kernel_rfl), (by kernel_rfl), (by kernel_rfl), (by kernel_rfl), (by kernel_rfl), (by kernel_rfl)⟩
          · rintro e_165 w_166 ⟨XJ_152_0, gJ_152_0, capJ_152_0, padJ_152_0, hXJ_152_0, hs_167, hlJ_152_0, hcJ_152_0, hmJ_152_0, hbdJ_152_0, hv_169, hv_170, hv_171, hv_172, hv_173, hv_174, hv_175, hv_176⟩
            obtain ⟨e_168, rfl⟩ : ∃ e_168, e_165 = put1 (put1 (put1 (put1 (put1 (put1 (put1 (put1 e_168 0 (.int .u8 r)) 2 (.slice none 0 0)) 3 (.slice (some ⟨gJ_152_0, 0, none⟩) XJ_152_0.length capJ_152_0)) 5 (.int .i64 8)) 7 (.agg #[.int .i64 1, .int .i64 4, .int .i64 5, .int .i64 7, .int .i64 8])) 8 (.int .i64 4)) 9 (.bool true)) 15 (.bool (!((bits .and .u8 r 16) == 0))) := ⟨e_165, (put_self hv_176).trans (congrArg (fun z => put1 z 15 (.bool (!((bits .and .u8 r 16) == 0)))) ((put_self hv_175).trans (congrArg (fun z => put1 z 9 (.bool true)) ((put_self hv_174).trans (congrArg (fun z => put1 z 8 (.int .i64 4)) ((put_self hv_173).trans (congrArg (fun z => put1 z 7 (.agg #[.int .i64 1, .int .i64 4, .int .i64 5, .int .i64 7, .int .i64 8])) ((put_self hv_172).trans (congrArg (fun z => put1 z 5 (.int .i64 8)) ((put_self hv_171).trans (congrArg (fun z => put1 z 3 (.slice (some ⟨gJ_152_0, 0, none⟩) XJ_152_0.length capJ_152_0)) ((put_self hv_170).trans (congrArg (fun z => put1 z 2 (.slice none 0 0)) (put_self hv_169))))))))))))))⟩
            clear hv_169 hv_170 hv_171 hv_172 hv_173 hv_174 hv_175 hv_176
            refine CW.region ?_
            refine SL.v (.int .i64 5) ?_
            refine SL.v (.int .i64 5) ?_
            refine SL.nil ?_
            refine CR.fresh (fun e9 => e9 0 = .int .u8 r ∧ e9 2 = .slice none 0 0 ∧ e9 3 = .slice (some ⟨gJ_152_0, 0, none⟩) XJ_152_0.length capJ_152_0 ∧ e9 7 = .agg #[.int .i64 1, .int .i64 4, .int .i64 5, .int .i64 7, .int .i64 8] ∧ e9 8 = .int .i64 5) ⟨(by kernel_rfl), (by kernel_rfl), (by kernel_rfl), (by kernel_rfl), (by kernel_rfl)⟩ ?_
            rintro e_177 ⟨hv_179, hv_180, hv_181, hv_182, hv_183⟩
            obtain ⟨e_178, rfl⟩ : ∃ e_178, e_177 = put1 (put1 (put1 (put1 (put1 e_178 0 (.int .u8 r)) 2 (.slice none 0 0)) 3 (.slice (some ⟨gJ_152_0, 0, none⟩) XJ_152_0.length capJ_152_0)) 7 (.agg #[.int .i64 1, .int .i64 4, .int .i64 5, .int .i64 7, .int .i64 8])) 8 (.int .i64 5) := ⟨e_177, (put_self hv_183).trans (congrArg (fun z => put1 z 8 (.int .i64 5)) ((put_self hv_182).trans (congrArg (fun z => put1 z 7 (.agg #[.int .i64 1, .int .i64 4, .int .i64 5, .int .i64 7, .int .i64 8])) ((put_self hv_181).trans (congrArg (fun z => put1 z 3 (.slice (some ⟨gJ_152_0, 0, none⟩) XJ_152_0.length capJ_152_0)) ((put_self hv_180).trans (congrArg (fun z => put1 z 2 (.slice none 0 0)) (put_self hv_179))))))))⟩
            clear hv_179 hv_180 hv_181 hv_182 hv_183
            refine CR.more ?_
            refine CW.seq ?_
            refine CW.region ?_
            refine SL.v (.bool false) ?_
            refine SL.nil ?_
            refine CW.seq ?_
            refine CW.cond_false (by kernel_rfl) ?_
            refine CW.exit ?_
            repeat with_reducible first | refine PThen.exit ?_ | refine PBlock.out rfl ?_
            with_reducible refine PBlock.here ?_
            repeat with_reducible refine PBlock.normal ?_
            refine CW.seq ?_
            refine CW.region ?_
            refine SL.v (.slice (some ⟨gJ_152_0, 0, none⟩) XJ_152_0.length capJ_152_0) ?_
            refine SL.v (.slice (some ⟨gJ_152_0, 0, none⟩) XJ_152_0.length capJ_152_0) ?_
            refine SL.nil ?_
            refine CW.ret ?_
            repeat with_reducible first | refine PThen.ret ?_ | refine PBlock.ret ?_
            refine PRet.tmp (t := 2) (v := .slice (some ⟨gJ_152_0, 0, none⟩) XJ_152_0.length capJ_152_0) rfl rfl (by kernel_rfl) ?_
            have hX : XJ_152_0 = rpar r := by
              rw [hXJ_152_0, hXJ_117_0, hXJ_82_0, hXJ_47_0, hXJ_12_0]
              obtain ⟨e1, e2, e3, e4, e5⟩ := rbits hr.1 hr.2; rw [e1, e2, e3, e4, e5]; unfold rpar rparL; cases (r % 2 == 1) <;> cases (r / 2 % 2 == 1) <;> cases (r / 4 % 2 == 1) <;> cases (r / 8 % 2 == 1) <;> cases (r / 16 % 2 == 1) <;> rfl
            rw [hX] at hlJ_152_0 hcJ_152_0
            have hs9 := hs_167.pick [0] rfl
            rw [hX] at hs9
            rw [hX]
            exact ⟨_, _, rfl, ⟨gJ_152_0, capJ_152_0, padJ_152_0, rfl, rfl, hlJ_152_0, hcJ_152_0, hmJ_152_0⟩, hs9⟩
theorem rpar_nz (r : Int) : ((((rpar r).length : Nat) : Int) == 0) = false := by unfold rpar rparL; simp; omega
theorem meet_lt2 (aT al ab ar bT bl bb br : Int) : ((meetZ aT al ab ar bT bl bb br).1 = 0 ∧ (meetZ aT al ab ar bT bl bb br).2.1 = 0) ∨ ((meetZ aT al ab ar bT bl bb br).1 < (meetZ aT al ab ar bT bl bb br).2.2.1 ∧ (meetZ aT al ab ar bT bl bb br).2.1 < (meetZ aT al ab ar bT bl bb br).2.2.2) := by
  unfold meetZ
  split
  · exact .inl ⟨rfl, rfl⟩
  · rename_i h
    simp only [Bool.not_eq_true, Bool.or_eq_false_iff] at h
    exact .inr (empty_f h.2)
theorem inner_lt {pb pr mt ml mb mr : Int} (h1 : I6 pb) (h2 : I6 pr) (k : I6 mt ∧ I6 ml ∧ I6 mb ∧ I6 mr) : (innerZ pb pr mt ml mb mr).1 < 9223372036854775807 ∧ (innerZ pb pr mt ml mb mr).2.1 < 9223372036854775807 := by
  have hw := whole_in h1 h2
  have hm := meet_in (aT := 0) (al := 0) (ab := max 0 (max 1 pb)) (ar := max 0 (max 1 pr)) (by unfold I6 at *; omega) k
  have hl := meet_lt2 0 0 (max 0 (max 1 pb)) (max 0 (max 1 pr)) mt ml mb mr
  unfold innerZ
  split
  · unfold wholeZ; simp only; omega
  · unfold I6 at hm; omega
theorem fmt_sz (l : List Int) (n : Nat) (h : l.length ≤ n) : (strOf (fmtR l)).size ≤ 6 * n := by
  rw [strOf_sz]
  have := fmtGo_len (l.take 30)
  have h2 : (l.take 30).length ≤ l.length := by simp; omega
  unfold fmtR
  omega
theorem flag_in (b : Bool) : 0 ≤ flagZ b ∧ flagZ b ≤ 1 := by cases b <;> decide
theorem clean_nice {c : Cor} (hok : c.Ok) : (0 ≤ c.clean.rend ∧ c.clean.rend < 32) ∧ (1 ≤ c.clean.level ∧ c.clean.level ≤ 5) ∧ (c.clean.mt < 9223372036854775807 ∧ c.clean.ml < 9223372036854775807) ∧ (-9223372036854775808 ≤ c.clean.mt ∧ -9223372036854775808 ≤ c.clean.ml) ∧ (∀ b, 0 ≤ flagZ b ∧ flagZ b ≤ 1) := by
  have hr := hok.rend
  have h5 := clipz_in c.level 1 5 (by decide)
  have hin := inner_lt hok.p.2.2.1 hok.p.2.2.2 hok.m
  refine ⟨?_, h5, ?_, ?_, fun b => by cases b <;> decide⟩
  · show 0 ≤ c.rend % 32 ∧ c.rend % 32 < 32; omega
  · exact ⟨hin.1, hin.2⟩
  · exact ⟨hok.clean.m.1.1, hok.clean.m.2.1.1⟩
end Go.Proofs.YthfipedfoofobaaDoor
