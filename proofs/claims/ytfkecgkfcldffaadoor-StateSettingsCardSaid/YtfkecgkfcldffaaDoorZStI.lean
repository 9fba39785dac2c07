/-
  Renditions' numbers and the settings of a state, both texts, walked (gen_sti.py).
-/
import Derived.Test.YtfkecgkfcldffaaDoorZHc
import Derived.Test.YtfkecgkfcldffaaDoorZStG
namespace Go.Proofs.YtfkecgkfcldffaaDoor
set_option linter.unusedSimpArgs false
set_option linter.unusedVariables false
open Go.RowKit
set_option linter.unusedVariables false

theorem rd_pad {w : World} {g : Nat} {l : List Int} {pad : List Value} {T : TypeId} {fr : Nat × Nat} (hb : w.heap[g]? = some (.cells ⟨icells l ++ pad⟩ T fr)) : Rd w (some ⟨g, 0, none⟩) l.length (icells l) := by
  refine ⟨by simp [icells], .inr ⟨g, 0, rfl, fun i u hu => ?_⟩⟩
  have hlt : i < (icells l).length := (List.getElem?_eq_some_iff.1 hu).1
  have := cell_of_row hb i u (by rw [List.getElem?_toArray, List.getElem?_append_left hlt]; exact hu)
  simpa using this
def rparL (a b c d e : Bool) : List Int := [0] ++ (bif a then [1] else []) ++ (bif b then [4] else []) ++ (bif c then [5] else []) ++ (bif d then [7] else []) ++ (bif e then [8] else [])
/-- The numbers that make a rendition. -/
def rpar (r : Int) : List Int := rparL (r % 2 == 1) (r / 2 % 2 == 1) (r / 4 % 2 == 1) (r / 8 % 2 == 1) (r / 16 % 2 == 1)
theorem rpar_len (r : Int) : (rpar r).length ≤ 6 := by
  unfold rpar rparL
  cases (r % 2 == 1) <;> cases (r / 2 % 2 == 1) <;> cases (r / 4 % 2 == 1) <;> cases (r / 8 % 2 == 1) <;> cases (r / 16 % 2 == 1) <;> decide
theorem rbits {r : Int} (h0 : 0 ≤ r) (h1 : r < 32) : (bits .and .u8 r 1 == 0) = (!(r % 2 == 1)) ∧ (bits .and .u8 r 2 == 0) = (!(r / 2 % 2 == 1)) ∧ (bits .and .u8 r 4 == 0) = (!(r / 4 % 2 == 1)) ∧ (bits .and .u8 r 8 == 0) = (!(r / 8 % 2 == 1)) ∧ (bits .and .u8 r 16 == 0) = (!(r / 16 % 2 == 1)) := by
  have H : ∀ k : Fin 32, (bits .and .u8 (k.val : Int) 1 == 0) = (!((k.val : Int) % 2 == 1)) ∧ (bits .and .u8 (k.val : Int) 2 == 0) = (!((k.val : Int) / 2 % 2 == 1)) ∧ (bits .and .u8 (k.val : Int) 4 == 0) = (!((k.val : Int) / 4 % 2 == 1)) ∧ (bits .and .u8 (k.val : Int) 8 == 0) = (!((k.val : Int) / 8 % 2 == 1)) ∧ (bits .and .u8 (k.val : Int) 16 == 0) = (!((k.val : Int) / 16 % 2 == 1)) := by decide +kernel
  have := H ⟨r.toNat, by omega⟩
  simpa [Int.toNat_of_nonneg h0] using this
set_option maxRecDepth 100000 in
set_option maxHeartbeats 4000000 in
theorem part_1  (w : World) : Calls Tryd.prog 79 #[.int .i64 1] w fun e w' => e = .returned (.int .u8 1) ∧ Gr w w' := by
  refine calls_sx (n := 14) (args := [.int .i64 1]) Tryd.func79 rfl rfl rfl ?_
  have hs0 := Bk.init w
  refine CW.seq ?_
  refine CW.region ?_
  refine SL.v (.int .u8 0) ?_
  refine SL.nil ?_
  refine CW.seq ?_
  refine CW.seq ?_
  refine CW.region ?_
  refine SL.v (.int .i64 1) ?_
  refine SL.nil ?_
  refine CW.block ?_
  refine CW.seq ?_
  refine CW.region ?_
  refine SL.v (.bool true) ?_
  refine SL.v (.bool true) ?_
  refine SL.nil ?_
  refine CW.cond_true (by kernel_rfl) ?_
  refine CW.seq ?_
  refine CW.region ?_
  refine SL.v (.int .u8 1) ?_
  refine SL.nil ?_
  refine CW.ret ?_
  repeat with_reducible first | refine PThen.ret ?_ | refine PBlock.ret ?_
  refine PRet.tmp (t := 2) (v := .int .u8 1) rfl rfl (by kernel_rfl) ?_
  exact ⟨rfl, hs0.gr⟩
set_option maxRecDepth 100000 in
set_option maxHeartbeats 4000000 in
theorem part_4  (w : World) : Calls Tryd.prog 79 #[.int .i64 4] w fun e w' => e = .returned (.int .u8 2) ∧ Gr w w' := by
  refine calls_sx (n := 14) (args := [.int .i64 4]) Tryd.func79 rfl rfl rfl ?_
  have hs0 := Bk.init w
  refine CW.seq ?_
  refine CW.region ?_
  refine SL.v (.int .u8 0) ?_
  refine SL.nil ?_
  refine CW.seq ?_
  refine CW.seq ?_
  refine CW.region ?_
  refine SL.v (.int .i64 4) ?_
  refine SL.nil ?_
  refine CW.block ?_
  refine CW.seq ?_
  refine CW.region ?_
  refine SL.v (.bool false) ?_
  refine SL.v (.bool false) ?_
  refine SL.nil ?_
  refine CW.cond_false (by kernel_rfl) ?_
  refine CW.seq ?_
  refine CW.region ?_
  refine SL.v (.bool true) ?_
  refine SL.v (.bool true) ?_
  refine SL.nil ?_
  refine CW.cond_true (by kernel_rfl) ?_
  refine CW.seq ?_
  refine CW.region ?_
  refine SL.v (.int .u8 2) ?_
  refine SL.nil ?_
  refine CW.ret ?_
  repeat with_reducible first | refine PThen.ret ?_ | refine PBlock.ret ?_
  refine PRet.tmp (t := 2) (v := .int .u8 2) rfl rfl (by kernel_rfl) ?_
  exact ⟨rfl, hs0.gr⟩
set_option maxRecDepth 100000 in
set_option maxHeartbeats 4000000 in
theorem part_5  (w : World) : Calls Tryd.prog 79 #[.int .i64 5] w fun e w' => e = .returned (.int .u8 4) ∧ Gr w w' := by
  refine calls_sx (n := 14) (args := [.int .i64 5]) Tryd.func79 rfl rfl rfl ?_
  have hs0 := Bk.init w
  refine CW.seq ?_
  refine CW.region ?_
  refine SL.v (.int .u8 0) ?_
  refine SL.nil ?_
  refine CW.seq ?_
  refine CW.seq ?_
  refine CW.region ?_
  refine SL.v (.int .i64 5) ?_
  refine SL.nil ?_
  refine CW.block ?_
  refine CW.seq ?_
  refine CW.region ?_
  refine SL.v (.bool false) ?_
  refine SL.v (.bool false) ?_
  refine SL.nil ?_
  refine CW.cond_false (by kernel_rfl) ?_
  refine CW.seq ?_
  refine CW.region ?_
  refine SL.v (.bool false) ?_
  refine SL.v (.bool false) ?_
  refine SL.nil ?_
  refine CW.cond_false (by kernel_rfl) ?_
  refine CW.seq ?_
  refine CW.region ?_
  refine SL.v (.bool true) ?_
  refine SL.v (.bool true) ?_
  refine SL.nil ?_
  refine CW.cond_true (by kernel_rfl) ?_
  refine CW.seq ?_
  refine CW.region ?_
  refine SL.v (.int .u8 4) ?_
  refine SL.nil ?_
  refine CW.ret ?_
  repeat with_reducible first | refine PThen.ret ?_ | refine PBlock.ret ?_
  refine PRet.tmp (t := 2) (v := .int .u8 4) rfl rfl (by kernel_rfl) ?_
  exact ⟨rfl, hs0.gr⟩
set_option maxRecDepth 100000 in
set_option maxHeartbeats 4000000 in
theorem part_7  (w : World) : Calls Tryd.prog 79 #[.int .i64 7] w fun e w' => e = .returned (.int .u8 8) ∧ Gr w w' := by
  refine calls_sx (n := 14) (args := [.int .i64 7]) Tryd.func79 rfl rfl rfl ?_
  have hs0 := Bk.init w
  refine CW.seq ?_
  refine CW.region ?_
  refine SL.v (.int .u8 0) ?_
  refine SL.nil ?_
  refine CW.seq ?_
  refine CW.seq ?_
  refine CW.region ?_
  refine SL.v (.int .i64 7) ?_
  refine SL.nil ?_
  refine CW.block ?_
  refine CW.seq ?_
  refine CW.region ?_
  refine SL.v (.bool false) ?_
  refine SL.v (.bool false) ?_
  refine SL.nil ?_
  refine CW.cond_false (by kernel_rfl) ?_
  refine CW.seq ?_
  refine CW.region ?_
  refine SL.v (.bool false) ?_
  refine SL.v (.bool false) ?_
  refine SL.nil ?_
  refine CW.cond_false (by kernel_rfl) ?_
  refine CW.seq ?_
  refine CW.region ?_
  refine SL.v (.bool false) ?_
  refine SL.v (.bool false) ?_
  refine SL.nil ?_
  refine CW.cond_false (by kernel_rfl) ?_
  refine CW.seq ?_
  refine CW.region ?_
  refine SL.v (.bool true) ?_
  refine SL.v (.bool true) ?_
  refine SL.nil ?_
  refine CW.cond_true (by kernel_rfl) ?_
  refine CW.seq ?_
  refine CW.region ?_
  refine SL.v (.int .u8 8) ?_
  refine SL.nil ?_
  refine CW.ret ?_
  repeat with_reducible first | refine PThen.ret ?_ | refine PBlock.ret ?_
  refine PRet.tmp (t := 2) (v := .int .u8 8) rfl rfl (by kernel_rfl) ?_
  exact ⟨rfl, hs0.gr⟩
set_option maxRecDepth 100000 in
set_option maxHeartbeats 4000000 in
theorem part_8  (w : World) : Calls Tryd.prog 79 #[.int .i64 8] w fun e w' => e = .returned (.int .u8 16) ∧ Gr w w' := by
  refine calls_sx (n := 14) (args := [.int .i64 8]) Tryd.func79 rfl rfl rfl ?_
  have hs0 := Bk.init w
  refine CW.seq ?_
  refine CW.region ?_
  refine SL.v (.int .u8 0) ?_
  refine SL.nil ?_
  refine CW.seq ?_
  refine CW.seq ?_
  refine CW.region ?_
  refine SL.v (.int .i64 8) ?_
  refine SL.nil ?_
  refine CW.block ?_
  refine CW.seq ?_
  refine CW.region ?_
  refine SL.v (.bool false) ?_
  refine SL.v (.bool false) ?_
  refine SL.nil ?_
  refine CW.cond_false (by kernel_rfl) ?_
  refine CW.seq ?_
  refine CW.region ?_
  refine SL.v (.bool false) ?_
  refine SL.v (.bool false) ?_
  refine SL.nil ?_
  refine CW.cond_false (by kernel_rfl) ?_
  refine CW.seq ?_
  refine CW.region ?_
  refine SL.v (.bool false) ?_
  refine SL.v (.bool false) ?_
  refine SL.nil ?_
  refine CW.cond_false (by kernel_rfl) ?_
  refine CW.seq ?_
  refine CW.region ?_
  refine SL.v (.bool false) ?_
  refine SL.v (.bool false) ?_
  refine SL.nil ?_
  refine CW.cond_false (by kernel_rfl) ?_
  refine CW.seq ?_
  refine CW.region ?_
  refine SL.v (.bool true) ?_
  refine SL.v (.bool true) ?_
  refine SL.nil ?_
  refine CW.cond_true (by kernel_rfl) ?_
  refine CW.seq ?_
  refine CW.region ?_
  refine SL.v (.int .u8 16) ?_
  refine SL.nil ?_
  refine CW.ret ?_
  repeat with_reducible first | refine PThen.ret ?_ | refine PBlock.ret ?_
  refine PRet.tmp (t := 2) (v := .int .u8 16) rfl rfl (by kernel_rfl) ?_
  exact ⟨rfl, hs0.gr⟩
set_option maxRecDepth 100000 in
set_option maxHeartbeats 4000000 in
theorem numbers_any  (w : World) : Calls Tryd.prog 78 #[] w fun e w' => e = .returned (.agg #[.int .i64 1, .int .i64 4, .int .i64 5, .int .i64 7, .int .i64 8]) ∧ Gr w w' := by
  refine calls_sx (n := 2) (args := []) Tryd.func78 rfl rfl rfl ?_
  have hs0 := Bk.init w
  refine CW.seq ?_
  refine CW.region ?_
  refine SL.new (mk := fun g => .pointer (some ⟨g, 0, none⟩)) (C := #[.int .i64 0, .int .i64 0, .int .i64 0, .int .i64 0, .int .i64 0]) (T := 129) hs0 rfl rfl (by kernel_rfl) (fun g_1 w_2 hs_3 => ?_)
  have hs_3 : Bk w w_2 [(g_1, .cells #[.int .i64 0, .int .i64 0, .int .i64 0, .int .i64 0, .int .i64 0] 129 (0, 0))] := hs_3
  refine SL.nil ?_
  refine CW.seq ?_
  refine CW.region ?_
  refine SL.v (.agg #[.int .i64 1, .int .i64 4, .int .i64 5, .int .i64 7, .int .i64 8]) ?_
  refine SL.store (i := 0) (g := g_1) (off := 0) (v := .agg #[.int .i64 1, .int .i64 4, .int .i64 5, .int .i64 7, .int .i64 8]) (C' := #[.int .i64 1, .int .i64 4, .int .i64 5, .int .i64 7, .int .i64 8]) (L' := [(g_1, .cells #[.int .i64 1, .int .i64 4, .int .i64 5, .int .i64 7, .int .i64 8] 129 (0, 0))]) hs_3 rfl rfl rfl (by kernel_rfl) (by kernel_rfl) rfl (by kernel_rfl) (by kernel_rfl) rfl (by kernel_rfl) (by kernel_rfl) (fun w_4 hs_5 => ?_)
  refine SL.nil ?_
  refine CW.ret ?_
  repeat with_reducible first | refine PThen.ret ?_ | refine PBlock.ret ?_
  refine PRet.cell (t := 0) (ty := 129) (g := g_1) (v := .agg #[.int .i64 1, .int .i64 4, .int .i64 5, .int .i64 7, .int .i64 8]) rfl rfl (by kernel_rfl) (hs_5.all 0 g_1 _ rfl) (by kernel_rfl) ?_
  exact ⟨rfl, hs_5.gr⟩
set_option maxRecDepth 100000 in
set_option maxHeartbeats 4000000 in
theorem params_any (r : Int) (w : World) (hr : 0 ≤ r ∧ r < 32) : Tr Tryd.prog 43 #[.int .u8 r] w [] (IRw (rpar r)) := by
  refine Tr.of fun U hs0 => ?_
  refine calls_sx (n := 22) (args := [.int .u8 r]) Tryd.func43 rfl rfl rfl ?_
  refine CW.seq ?_
  refine CW.region ?_
  refine SL.v (.slice none 0 0) ?_
  refine SL.nil ?_
  refine CW.seq ?_
  refine CW.region ?_
  refine SL.newH (mk := fun g => .slice (some ⟨g, 0, none⟩) 1 1) (C := #[.int .i64 0]) (T := 3) hs0 rfl rfl (by kernel_rfl) (fun g_1 w_2 hs_3 => ?_)
  have hs_3 : SH U w w_2 [pt g_1 #[.int .i64 0] 3] := hs_3
  refine SL.v (.slice (some ⟨g_1, 0, none⟩) 1 1) ?_
  refine SL.nil ?_
  refine CW.seq ?_
  refine CW.seq ?_
  refine CW.region ?_
  refine SL.call (f := 78) (args := #[]) (w1 := w_2) rfl rfl (by kernel_rfl) (numbers_any w_2) ?_
  rintro x w_4 ⟨rfl, hc_5⟩
  refine ⟨.agg #[.int .i64 1, .int .i64 4, .int .i64 5, .int .i64 7, .int .i64 8], rfl, ?_⟩
  have hs_6 := hs_3.grow hc_5
  refine SL.v (.int .i64 0) ?_
  refine SL.nil ?_
  refine CW.block ?_
  refine CW.loopN 6 ?_
  refine CR.more ?_
  refine CW.seq ?_
  refine CW.region ?_
  refine SL.v (.bool true) ?_
  refine SL.nil ?_
  refine CW.seq ?_
  refine CW.cond_true (by kernel_rfl) ?_
  refine CW.skip ?_
  refine CW.seq ?_
  refine CW.block ?_
  refine CW.seq ?_
  refine CW.region ?_
  refine SL.v (.int .i64 1) ?_
  refine SL.v (.int .i64 1) ?_
  refine SL.nil ?_
  refine CW.seq ?_
  refine CW.region ?_
  refine SL.v (.int .u8 r) ?_
  refine SL.v (.int .i64 1) ?_
  refine SL.call (f := 79) (args := #[.int .i64 1]) (w1 := w_4) rfl rfl (by kernel_rfl) (part_1 w_4) ?_
  rintro x w_7 ⟨rfl, hc_8⟩
  refine ⟨.int .u8 1, rfl, ?_⟩
  have hs_9 := hs_6.grow hc_8
  refine SL.v (.int .u8 (bits .and .u8 r 1)) ?_
  refine SL.v (.bool (!((bits .and .u8 r 1) == 0))) ?_
  refine SL.nil ?_
  have hs_11 : SH U w w_7 [pt g_1 ⟨icells ([0]) ++ []⟩ 3] := hs_9
  refine CW.mid (fun e9 w9 => ∃ (XJ_12_0 : List Int) (gJ_12_0 capJ_12_0 : Nat) (padJ_12_0 : List Value), XJ_12_0 = (bif ((bits .and .u8 r 1) == 0) then [0] else ([0]) ++ [1]) ∧ SH U w w9 [pt gJ_12_0 ⟨icells XJ_12_0 ++ padJ_12_0⟩ 3] ∧ (icells XJ_12_0 ++ padJ_12_0).length = capJ_12_0 * 1 ∧ XJ_12_0.length ≤ capJ_12_0 ∧ capJ_12_0 ≤ maxLen ∧ XJ_12_0.length ≤ 2 ∧ e9 0 = .int .u8 r ∧ e9 2 = .slice none 0 0 ∧ e9 3 = .slice (some ⟨gJ_12_0, 0, none⟩) XJ_12_0.length capJ_12_0 ∧ e9 5 = .int .i64 1 ∧ e9 7 = .agg #[.int .i64 1, .int .i64 4, .int .i64 5, .int .i64 7, .int .i64 8] ∧ e9 8 = .int .i64 0 ∧ e9 9 = .bool true ∧ e9 10 = .int .i64 1 ∧ e9 11 = .int .u8 r ∧ e9 12 = .int .i64 1 ∧ e9 13 = .int .u8 1 ∧ e9 14 = .int .u8 (bits .and .u8 r 1) ∧ e9 15 = .bool (!((bits .and .u8 r 1) == 0))) ?_ ?_
  · skip
    rcases Bool.eq_false_or_eq_true ((bits .and .u8 r 1) == 0) with hb_13 | hb_13
    · rw [hb_13]
      refine CW.cond_false (by kernel_rfl) ?_
      refine CW.skip ?_
      exact ⟨[0], g_1, 1, [], rfl, hs_11.pick [0] rfl, rfl, (by decide), (by decide), (Nat.le_trans (show ([0] : List Int).length ≤ 1 by decide) (by decide)), (by kernel_rfl), (by kernel_rfl), (by kernel_rfl), (by kernel_rfl), (by kernel_rfl), (by kernel_rfl), (by kernel_rfl), (by kernel_rfl), (by kernel_rfl), (by kernel_rfl), (by kernel_rfl), (by kernel_rfl), (by kernel_rfl)⟩
    · rw [hb_13]
      refine CW.cond_true (by kernel_rfl) ?_
      refine CW.region ?_
      refine SL.v (.slice (some ⟨g_1, 0, none⟩) 1 1) ?_
      refine SL.v (.int .i64 1) ?_
      refine SL.newH (mk := fun g => .slice (some ⟨g, 0, none⟩) 1 1) (C := #[.int .i64 1]) (T := 3) hs_11 rfl rfl (by kernel_rfl) (fun g_14 w_15 hs_16 => ?_)
      have hs_16 : SH U w w_15 [pt g_1 ⟨icells ([0]) ++ []⟩ 3, pt g_14 #[.int .i64 1] 3] := hs_16
      refine SL.appH (z := .int .i64 0) (size := 1) (bytes := 8) (el := 3) (m := 1) (news := [.int .i64 1]) (i := 0) (g := g_1) (k := 1) (cap := 1) (xs := icells ([0])) (pad := []) (xs' := icells (([0]) ++ [1])) (k' := (([0]) ++ [1]).length) (L' := [pt g_14 #[.int .i64 1] 3]) hs_16 rfl rfl rfl (by kernel_rfl) (by kernel_rfl) (by kernel_rfl) (by kernel_rfl) (by kernel_rfl) (by kernel_rfl) rfl (icells_len _) rfl (by decide) (by decide) rfl (srcH (cs := [.int .i64 1]) (el := 3) (by kernel_rfl) (hs_16.pt_at (i := 1) rfl) rfl rfl (List.all_eq_true.1 (by kernel_rfl))) (by have := (show ([0] : List Int).length ≤ 1 by decide); omega) (icells_app ([0]) ([1])) (by simp) rfl (fun g_17 cap_18 pad_19 w_20 hs_21 hl_22 hc_23 hm_24 => ?_)
      have hs_21 : SH U w w_20 [pt g_14 #[.int .i64 1] 3, pt g_17 ⟨icells (([0]) ++ [1]) ++ pad_19⟩ 3] := hs_21
      refine SL.v (.slice (some ⟨g_17, 0, none⟩) ((([0]) ++ [1]).length) cap_18) ?_
      refine SL.nil ?_
      exact ⟨([0]) ++ [1], g_17, cap_18, pad_19, rfl, hs_21.pick [1] rfl, hl_22, hc_23, hm_24, (Nat.le_trans (show (([0]) ++ [1]).length ≤ 2 by rw [List.length_append]; exact Nat.add_le_add (show ([0] : List Int).length ≤ 1 by decide) (Nat.le_refl _)) (by decide)), (by kernel_rfl), (by kernel_rfl), (by kernel_rfl), (by kernel_rfl), (by kernel_rfl), (by kernel_rfl), (by kernel_rfl), (by kernel_rfl), (by kernel_rfl), (by kernel_rfl), (by kernel_rfl), (by kernel_rfl), (by kernel_rfl)⟩
  · rintro e_25 w_26 ⟨XJ_12_0, gJ_12_0, capJ_12_0, padJ_12_0, hXJ_12_0, hs_27, hlJ_12_0, hcJ_12_0, hmJ_12_0, hbdJ_12_0, hv_29, hv_30, hv_31, hv_32, hv_33, hv_34, hv_35, hv_36, hv_37, hv_38, hv_39, hv_40, hv_41⟩
    obtain ⟨e_28, rfl⟩ : ∃ e_28, e_25 = put1 (put1 (put1 (put1 (put1 (put1 (put1 (put1 (put1 (put1 (put1 (put1 (put1 e_28 0 (.int .u8 r)) 2 (.slice none 0 0)) 3 (.slice (some ⟨gJ_12_0, 0, none⟩) XJ_12_0.length capJ_12_0)) 5 (.int .i64 1)) 7 (.agg #[.int .i64 1, .int .i64 4, .int .i64 5, .int .i64 7, .int .i64 8])) 8 (.int .i64 0)) 9 (.bool true)) 10 (.int .i64 1)) 11 (.int .u8 r)) 12 (.int .i64 1)) 13 (.int .u8 1)) 14 (.int .u8 (bits .and .u8 r 1))) 15 (.bool (!((bits .and .u8 r 1) == 0))) := ⟨e_25, (put_self hv_41).trans (congrArg (fun z => put1 z 15 (.bool (!((bits .and .u8 r 1) == 0)))) ((put_self hv_40).trans (congrArg (fun z => put1 z 14 (.int .u8 (bits .and .u8 r 1))) ((put_self hv_39).trans (congrArg (fun z => put1 z 13 (.int .u8 1)) ((put_self hv_38).trans (congrArg (fun z => put1 z 12 (.int .i64 1)) ((put_self hv_37).trans (congrArg (fun z => put1 z 11 (.int .u8 r)) ((put_self hv_36).trans (congrArg (fun z => put1 z 10 (.int .i64 1)) ((put_self hv_35).trans (congrArg (fun z => put1 z 9 (.bool true)) ((put_self hv_34).trans (congrArg (fun z => put1 z 8 (.int .i64 0)) ((put_self hv_33).trans (congrArg (fun z => put1 z 7 (.agg #[.int .i64 1, .int .i64 4, .int .i64 5, .int .i64 7, .int .i64 8])) ((put_self hv_32).trans (congrArg (fun z => put1 z 5 (.int .i64 1)) ((put_self hv_31).trans (congrArg (fun z => put1 z 3 (.slice (some ⟨gJ_12_0, 0, none⟩) XJ_12_0.length capJ_12_0)) ((put_self hv_30).trans (congrArg (fun z => put1 z 2 (.slice none 0 0)) (put_self hv_29))))))))))))))))))))))))⟩
    clear hv_29 hv_30 hv_31 hv_32 hv_33 hv_34 hv_35 hv_36 hv_37 hv_38 hv_39 hv_40 hv_41
    refine CW.region ?_
    refine SL.v (.int .i64 1) ?_
    refine SL.v (.int .i64 1) ?_
    refine SL.nil ?_
    refine CR.fresh (fun e9 => e9 0 = .int .u8 r ∧ e9 2 = .slice none 0 0 ∧ e9 3 = .slice (some ⟨gJ_12_0, 0, none⟩) XJ_12_0.length capJ_12_0 ∧ e9 7 = .agg #[.int .i64 1, .int .i64 4, .int .i64 5, .int .i64 7, .int .i64 8] ∧ e9 8 = .int .i64 1) ⟨(by kernel_rfl), (by kernel_rfl), (by kernel_rfl), (by kernel_rfl), (by kernel_rfl)⟩ ?_
    rintro e_42 ⟨hv_44, hv_45, hv_46, hv_47, hv_48⟩
    obtain ⟨e_43, rfl⟩ : ∃ e_43, e_42 = put1 (put1 (put1 (put1 (put1 e_43 0 (.int .u8 r)) 2 (.slice none 0 0)) 3 (.slice (some ⟨gJ_12_0, 0, none⟩) XJ_12_0.length capJ_12_0)) 7 (.agg #[.int .i64 1, .int .i64 4, .int .i64 5, .int .i64 7, .int .i64 8])) 8 (.int .i64 1) := ⟨e_42, (put_self hv_48).trans (congrArg (fun z => put1 z 8 (.int .i64 1)) ((put_self hv_47).trans (congrArg (fun z => put1 z 7 (.agg #[.int .i64 1, .int .i64 4, .int .i64 5, .int .i64 7, .int .i64 8])) ((put_self hv_46).trans (congrArg (fun z => put1 z 3 (.slice (some ⟨gJ_12_0, 0, none⟩) XJ_12_0.length capJ_12_0)) ((put_self hv_45).trans (congrArg (fun z => put1 z 2 (.slice none 0 0)) (put_self hv_44))))))))⟩
    clear hv_44 hv_45 hv_46 hv_47 hv_48
    refine CR.more ?_
    refine CW.seq ?_
    refine CW.region ?_
    refine SL.v (.bool true) ?_
    refine SL.nil ?_
    refine CW.seq ?_
    refine CW.cond_true (by kernel_rfl) ?_
    refine CW.skip ?_
    refine CW.seq ?_
    refine CW.block ?_
    refine CW.seq ?_
    refine CW.region ?_
    refine SL.v (.int .i64 4) ?_
    refine SL.v (.int .i64 4) ?_
    refine SL.nil ?_
    refine CW.seq ?_
    refine CW.region ?_
    refine SL.v (.int .u8 r) ?_
    refine SL.v (.int .i64 4) ?_
    refine SL.call (f := 79) (args := #[.int .i64 4]) (w1 := w_26) rfl rfl (by kernel_rfl) (part_4 w_26) ?_
    rintro x w_49 ⟨rfl, hc_50⟩
    refine ⟨.int .u8 2, rfl, ?_⟩
    have hs_51 := hs_27.grow hc_50
    refine SL.v (.int .u8 (bits .and .u8 r 2)) ?_
    refine SL.v (.bool (!((bits .and .u8 r 2) == 0))) ?_
    refine SL.nil ?_
    refine CW.mid (fun e9 w9 => ∃ (XJ_52_0 : List Int) (gJ_52_0 capJ_52_0 : Nat) (padJ_52_0 : List Value), XJ_52_0 = (bif ((bits .and .u8 r 2) == 0) then XJ_12_0 else XJ_12_0 ++ [4]) ∧ SH U w w9 [pt gJ_52_0 ⟨icells XJ_52_0 ++ padJ_52_0⟩ 3] ∧ (icells XJ_52_0 ++ padJ_52_0).length = capJ_52_0 * 1 ∧ XJ_52_0.length ≤ capJ_52_0 ∧ capJ_52_0 ≤ maxLen ∧ XJ_52_0.length ≤ 3 ∧ e9 0 = .int .u8 r ∧ e9 2 = .slice none 0 0 ∧ e9 3 = .slice (some ⟨gJ_52_0, 0, none⟩) XJ_52_0.length capJ_52_0 ∧ e9 5 = .int .i64 4 ∧ e9 7 = .agg #[.int .i64 1, .int .i64 4, .int .i64 5, .int .i64 7, .int .i64 8] ∧ e9 8 = .int .i64 1 ∧ e9 9 = .bool true ∧ e9 10 = .int .i64 4 ∧ e9 11 = .int .u8 r ∧ e9 12 = .int .i64 4 ∧ e9 13 = .int .u8 2 ∧ e9 14 = .int .u8 (bits .and .u8 r 2) ∧ e9 15 = .bool (!((bits .and .u8 r 2) == 0))) ?_ ?_
    · skip
      rcases Bool.eq_false_or_eq_true ((bits .and .u8 r 2) == 0) with hb_53 | hb_53
      · rw [hb_53]
        refine CW.cond_false (by kernel_rfl) ?_
        refine CW.skip ?_
        exact ⟨XJ_12_0, gJ_12_0, capJ_12_0, padJ_12_0, rfl, hs_51.pick [0] rfl, hlJ_12_0, hcJ_12_0, hmJ_12_0, (Nat.le_trans hbdJ_12_0 (by decide)), (by kernel_rfl), (by kernel_rfl), (by kernel_rfl), (by kernel_rfl), (by kernel_rfl), (by kernel_rfl), (by kernel_rfl), (by kernel_rfl), (by kernel_rfl), (by kernel_rfl), (by kernel_rfl), (by kernel_rfl), (by kernel_rfl)⟩
      · rw [hb_53]
        refine CW.cond_true (by kernel_rfl) ?_
        refine CW.region ?_
        refine SL.v (.slice (some ⟨gJ_12_0, 0, none⟩) XJ_12_0.length capJ_12_0) ?_
        refine SL.v (.int .i64 4) ?_
        refine SL.newH (mk := fun g => .slice (some ⟨g, 0, none⟩) 1 1) (C := #[.int .i64 4]) (T := 3) hs_51 rfl rfl (by kernel_rfl) (fun g_54 w_55 hs_56 => ?_)
        have hs_56 : SH U w w_55 [pt gJ_12_0 ⟨icells XJ_12_0 ++ padJ_12_0⟩ 3, pt g_54 #[.int .i64 4] 3] := hs_56
        refine SL.appH (z := .int .i64 0) (size := 1) (bytes := 8) (el := 3) (m := 1) (news := [.int .i64 4]) (i := 0) (g := gJ_12_0) (k := XJ_12_0.length) (cap := capJ_12_0) (xs := icells XJ_12_0) (pad := padJ_12_0) (xs' := icells (XJ_12_0 ++ [4])) (k' := (XJ_12_0 ++ [4]).length) (L' := [pt g_54 #[.int .i64 4] 3]) hs_56 rfl rfl rfl (by kernel_rfl) (by kernel_rfl) (by kernel_rfl) (by kernel_rfl) (by kernel_rfl) (by kernel_rfl) rfl (icells_len _) hlJ_12_0 hcJ_12_0 hmJ_12_0 rfl (srcH (cs := [.int .i64 4]) (el := 3) (by kernel_rfl) (hs_56.pt_at (i := 1) rfl) rfl rfl (List.all_eq_true.1 (by kernel_rfl))) (by have := hbdJ_12_0; omega) (icells_app XJ_12_0 ([4])) (by simp) rfl (fun g_57 cap_58 pad_59 w_60 hs_61 hl_62 hc_63 hm_64 => ?_)
        have hs_61 : SH U w w_60 [pt g_54 #[.int .i64 4] 3, pt g_57 ⟨icells (XJ_12_0 ++ [4]) ++ pad_59⟩ 3] := hs_61
        refine SL.v (.slice (some ⟨g_57, 0, none⟩) ((XJ_12_0 ++ [4]).length) cap_58) ?_
        refine SL.nil ?_
        exact ⟨XJ_12_0 ++ [4], g_57, cap_58, pad_59, rfl, hs_61.pick [1] rfl, hl_62, hc_63, hm_64, (Nat.le_trans (show (XJ_12_0 ++ [4]).length ≤ 3 by rw [List.length_append]; exact Nat.add_le_add hbdJ_12_0 (Nat.le_refl _)) (by decide)), (by kernel_rfl), (by kernel_rfl), (by kernel_rfl), (by kernel_rfl), (by kernel_rfl), (by kernel_rfl), (by kernel_rfl), (by kernel_rfl), (by kernel_rfl), (by kernel_rfl), (by kernel_rfl), (by kernel_rfl), (by kernel_rfl)⟩
    · rintro e_65 w_66 ⟨XJ_52_0, gJ_52_0, capJ_52_0, padJ_52_0, hXJ_52_0, hs_67, hlJ_52_0, hcJ_52_0, hmJ_52_0, hbdJ_52_0, hv_69, hv_70, hv_71, hv_72, hv_73, hv_74, hv_75, hv_76, hv_77, hv_78, hv_79, hv_80, hv_81⟩
      obtain ⟨e_68, rfl⟩ : ∃ e_68, e_65 = put1 (put1 (put1 (put1 (put1 (put1 (put1 (put1 (put1 (put1 (put1 (put1 (put1 e_68 0 (.int .u8 r)) 2 (.slice none 0 0)) 3 (.slice (some ⟨gJ_52_0, 0, none⟩) XJ_52_0.length capJ_52_0)) 5 (.int .i64 4)) 7 (.agg #[.int .i64 1, .int .i64 4, .int .i64 5, .int .i64 7, .int .i64 8])) 8 (.int .i64 1)) 9 (.bool true)) 10 (.int .i64 4)) 11 (.int .u8 r)) 12 (.int .i64 4)) 13 (.int .u8 2)) 14 (.int .u8 (bits .and .u8 r 2))) 15 (.bool (!((bits .and .u8 r 2) == 0))) := ⟨e_65, (put_self hv_81).trans (congrArg (fun z => put1 z 15 (.bool (!((bits .and .u8 r 2) == 0)))) ((put_self hv_80).trans (congrArg (fun z => put1 z 14 (.int .u8 (bits .and .u8 r 2))) ((put_self hv_79).trans (congrArg (fun z => put1 z 13 (.int .u8 2)) ((put_self hv_78).trans (congrArg (fun z => put1 z 12 (.int .i64 4)) ((put_self hv_77).trans (congrArg (fun z => put1 z 11 (.int .u8 r)) ((put_self hv_76).trans (congrArg (fun z => put1 z 10 (.int .i64 4)) ((put_self hv_75).trans (congrArg (fun z => put1 z 9 (.bool true)) ((put_self hv_74).trans (congrArg (fun z => put1 z 8 (.int .i64 1)) ((put_self hv_73).trans (congrArg (fun z => put1 z 7 (.agg #[.int .i64 1, .int .i64 4, .int .i64 5, .int .i64 7, .int .i64 8])) ((put_self hv_72).trans (congrArg (fun z => put1 z 5 (.int .i64 4)) ((put_self hv_71).trans (congrArg (fun z => put1 z 3 (.slice (some ⟨gJ_52_0, 0, none⟩) XJ_52_0.length capJ_52_0)) ((put_self hv_70).trans (congrArg (fun z => put1 z 2 (.slice none 0 0)) (put_self hv_69))))))))))))))))))))))))⟩
      clear hv_69 hv_70 hv_71 hv_72 hv_73 hv_74 hv_75 hv_76 hv_77 hv_78 hv_79 hv_80 hv_81
      refine CW.region ?_
      refine SL.v (.int .i64 2) ?_
      refine SL.v (.int .i64 2) ?_
      refine SL.nil ?_
      refine CR.fresh (fun e9 => e9 0 = .int .u8 r ∧ e9 2 = .slice none 0 0 ∧ e9 3 = .slice (some ⟨gJ_52_0, 0, none⟩) XJ_52_0.length capJ_52_0 ∧ e9 7 = .agg #[.int .i64 1, .int .i64 4, .int .i64 5, .int .i64 7, .int .i64 8] ∧ e9 8 = .int .i64 2) ⟨(by kernel_rfl), (by kernel_rfl), (by kernel_rfl), (by kernel_rfl), (by kernel_rfl)⟩ ?_
      rintro e_82 ⟨hv_84, hv_85, hv_86, hv_87, hv_88⟩
      obtain ⟨e_83, rfl⟩ : ∃ e_83, e_82 = put1 (put1 (put1 (put1 (put1 e_83 0 (.int .u8 r)) 2 (.slice none 0 0)) 3 (.slice (some ⟨gJ_52_0, 0, none⟩) XJ_52_0.length capJ_52_0)) 7 (.agg #[.int .i64 1, .int .i64 4, .int .i64 5, .int .i64 7, .int .i64 8])) 8 (.int .i64 2) := ⟨e_82, (put_self hv_88).trans (congrArg (fun z => put1 z 8 (.int .i64 2)) ((put_self hv_87).trans (congrArg (fun z => put1 z 7 (.agg #[.int .i64 1, .int .i64 4, .int .i64 5, .int .i64 7, .int .i64 8])) ((put_self hv_86).trans (congrArg (fun z => put1 z 3 (.slice (some ⟨gJ_52_0, 0, none⟩) XJ_52_0.length capJ_52_0)) ((put_self hv_85).trans (congrArg (fun z => put1 z 2 (.slice none 0 0)) (put_self hv_84))))))))⟩
      clear hv_84 hv_85 hv_86 hv_87 hv_88
      refine CR.more ?_
      refine CW.seq ?_
      refine CW.region ?_
      refine SL.v (.bool true) ?_
      refine SL.nil ?_
      refine CW.seq ?_
      refine CW.cond_true (by kernel_rfl) ?_
      refine CW.skip ?_
      refine CW.seq ?_
      refine CW.block ?_
      refine CW.seq ?_
      refine CW.region ?_
      refine SL.v (.int .i64 5) ?_
      refine SL.v (.int .i64 5) ?_
      refine SL.nil ?_
      refine CW.seq ?_
      refine CW.region ?_
      refine SL.v (.int .u8 r) ?_
      refine SL.v (.int .i64 5) ?_
      refine SL.call (f := 79) (args := #[.int .i64 5]) (w1 := w_66) rfl rfl (by kernel_rfl) (part_5 w_66) ?_
      rintro x w_89 ⟨rfl, hc_90⟩
      refine ⟨.int .u8 4, rfl, ?_⟩
      have hs_91 := hs_67.grow hc_90
      refine SL.v (.int .u8 (bits .and .u8 r 4)) ?_
      refine SL.v (.bool (!((bits .and .u8 r 4) == 0))) ?_
      refine SL.nil ?_
      refine CW.mid (fun e9 w9 => ∃ (XJ_92_0 : List Int) (gJ_92_0 capJ_92_0 : Nat) (padJ_92_0 : List Value), XJ_92_0 = (bif ((bits .and .u8 r 4) == 0) then XJ_52_0 else XJ_52_0 ++ [5]) ∧ SH U w w9 [pt gJ_92_0 ⟨icells XJ_92_0 ++ padJ_92_0⟩ 3] ∧ (icells XJ_92_0 ++ padJ_92_0).length = capJ_92_0 * 1 ∧ XJ_92_0.length ≤ capJ_92_0 ∧ capJ_92_0 ≤ maxLen ∧ XJ_92_0.length ≤ 4 ∧ e9 0 = .int .u8 r ∧ e9 2 = .slice none 0 0 ∧ e9 3 = .slice (some ⟨gJ_92_0, 0, none⟩) XJ_92_0.length capJ_92_0 ∧ e9 5 = .int .i64 5 ∧ e9 7 = .agg #[.int .i64 1, .int .i64 4, .int .i64 5, .int .i64 7, .int .i64 8] ∧ e9 8 = .int .i64 2 ∧ e9 9 = .bool true ∧ e9 10 = .int .i64 5 ∧ e9 11 = .int .u8 r ∧ e9 12 = .int .i64 5 ∧ e9 13 = .int .u8 4 ∧ e9 14 = .int .u8 (bits .and .u8 r 4) ∧ e9 15 = .bool (!((bits .and .u8 r 4) == 0))) ?_ ?_
      · skip
        rcases Bool.eq_false_or_eq_true ((bits .and .u8 r 4) == 0) with hb_93 | hb_93
        · rw [hb_93]
          refine CW.cond_false (by kernel_rfl) ?_
          refine CW.skip ?_
          exact ⟨XJ_52_0, gJ_52_0, capJ_52_0, padJ_52_0, rfl, hs_91.pick [0] rfl, hlJ_52_0, hcJ_52_0, hmJ_52_0, (Nat.le_trans hbdJ_52_0 (by decide)), (by kernel_rfl), (by kernel_rfl), (by kernel_rfl), (by kernel_rfl), (by kernel_rfl), (by kernel_rfl), (by kernel_rfl), (by kernel_rfl), (by kernel_rfl), (by kernel_rfl), (by kernel_rfl), (by kernel_rfl), (by kernel_rfl)⟩
        · rw [hb_93]
          refine CW.cond_true (by kernel_rfl) ?_
          refine CW.region ?_
          refine SL.v (.slice (some ⟨gJ_52_0, 0, none⟩) XJ_52_0.length capJ_52_0) ?_
          refine SL.v (.int .i64 5) ?_
          refine SL.newH (mk := fun g => .slice (some ⟨g, 0, none⟩) 1 1) (C := #[.int .i64 5]) (T := 3) hs_91 rfl rfl (by kernel_rfl) (fun g_94 w_95 hs_96 => ?_)
          have hs_96 : SH U w w_95 [pt gJ_52_0 ⟨icells XJ_52_0 ++ padJ_52_0⟩ 3, pt g_94 #[.int .i64 5] 3] := hs_96
          refine SL.appH (z := .int .i64 0) (size := 1) (bytes := 8) (el := 3) (m := 1) (news := [.int .i64 5]) (i := 0) (g := gJ_52_0) (k := XJ_52_0.length) (cap := capJ_52_0) (xs := icells XJ_52_0) (pad := padJ_52_0) (xs' := icells (XJ_52_0 ++ [5])) (k' := (XJ_52_0 ++ [5]).length) (L' := [pt g_94 #[.int .i64 5] 3]) hs_96 rfl rfl rfl (by kernel_rfl) (by kernel_rfl) (by kernel_rfl) (by kernel_rfl) (by kernel_rfl) (by kernel_rfl) rfl (icells_len _) hlJ_52_0 hcJ_52_0 hmJ_52_0 rfl (srcH (cs := [.int .i64 5]) (el := 3) (by kernel_rfl) (hs_96.pt_at (i := 1) rfl) rfl rfl (List.all_eq_true.1 (by kernel_rfl))) (by have := hbdJ_52_0; omega) (icells_app XJ_52_0 ([5])) (by simp) rfl (fun g_97 cap_98 pad_99 w_100 hs_101 hl_102 hc_103 hm_104 => ?_)
          have hs_101 : SH U w w_100 [pt g_94 #[.int .i64 5] 3, pt g_97 ⟨icells (XJ_52_0 ++ [5]) ++ pad_99⟩ 3] := hs_101
          refine SL.v (.slice (some ⟨g_97, 0, none⟩) ((XJ_52_0 ++ [5]).length) cap_98) ?_
          refine SL.nil ?_
          exact ⟨XJ_52_0 ++ [5], g_97, cap_98, pad_99, rfl, hs_101.pick [1] rfl, hl_102, hc_103, hm_104, (Nat.le_trans (show (XJ_52_0 ++ [5]).length ≤ 4 by rw [List.length_append]; exact Nat.add_le_add hbdJ_52_0 (Nat.le_refl _)) (by decide)), (by kernel_rfl), (by kernel_rfl), (by kernel_rfl), (by kernel_rfl), (by kernel_rfl), (by kernel_rfl), (by kernel_rfl), (by kernel_rfl), (by kernel_rfl), (by kernel_rfl), (by kernel_rfl), (by kernel_rfl), (by kernel_rfl)⟩
      · rintro e_105 w_106 ⟨XJ_92_0, gJ_92_0, capJ_92_0, padJ_92_0, hXJ_92_0, hs_107, hlJ_92_0, hcJ_92_0, hmJ_92_0, hbdJ_92_0, hv_109, hv_110, hv_111, hv_112, hv_113, hv_114, hv_115, hv_116, hv_117, hv_118, hv_119, hv_120, hv_121⟩
        obtain ⟨e_108, rfl⟩ : ∃ e_108, e_105 = put1 (put1 (put1 (put1 (put1 (put1 (put1 (put1 (put1 (put1 (put1 (put1 (put1 e_108 0 (.int .u8 r)) 2 (.slice none 0 0)) 3 (.slice (some ⟨gJ_92_0, 0, none⟩) XJ_92_0.length capJ_92_0)) 5 (.int .i64 5)) 7 (.agg #[.int .i64 1, .int .i64 4, .int .i64 5, .int .i64 7, .int .i64 8])) 8 (.int .i64 2)) 9 (.bool true)) 10 (.int .i64 5)) 11 (.int .u8 r)) 12 (.int .i64 5)) 13 (.int .u8 4)) 14 (.int .u8 (bits .and .u8 r 4))) 15 (.bool (!((bits .and .u8 r 4) == 0))) := ⟨e_105, (put_self hv_121).trans (congrArg (fun z => put1 z 15 (.bool (!((bits .and .u8 r 4) == 0)))) ((put_self hv_120).trans (congrArg (fun z => put1 z 14 (.int .u8 (bits .and .u8 r 4))) ((put_self hv_119).trans (congrArg (fun z => put1 z 13 (.int .u8 4)) ((put_self hv_118).trans (congrArg (fun z => put1 z 12 (.int .i64 5)) ((put_self hv_117).trans (congrArg (fun z => put1 z 11 (.int .u8 r)) ((put_self hv_116).trans (congrArg (fun z => put1 z 10 (.int .i64 5)) ((put_self hv_115).trans (congrArg (fun z => put1 z 9 (.bool true)) ((put_self hv_114).trans (congrArg (fun z => put1 z 8 (.int .i64 2)) ((put_self hv_113).trans (congrArg (fun z => put1 z 7 (.agg #[.int .i64 1, .int .i64 4, .int .i64 5, .int .i64 7, .int .i64 8])) ((put_self hv_112).trans (congrArg (fun z => put1 z 5 (.int .i64 5)) ((put_self hv_111).trans (congrArg (fun z => put1 z 3 (.slice (some ⟨gJ_92_0, 0, none⟩) XJ_92_0.length capJ_92_0)) ((put_self hv_110).trans (congrArg (fun z => put1 z 2 (.slice none 0 0)) (put_self hv_109))))))))))))))))))))))))⟩
        clear hv_109 hv_110 hv_111 hv_112 hv_113 hv_114 hv_115 hv_116 hv_117 hv_118 hv_119 hv_120 hv_121
        refine CW.region ?_
        refine SL.v (.int .i64 3) ?_
        refine SL.v (.int .i64 3) ?_
        refine SL.nil ?_
        refine CR.fresh (fun e9 => e9 0 = .int .u8 r ∧ e9 2 = .slice none 0 0 ∧ e9 3 = .slice (some ⟨gJ_92_0, 0, none⟩) XJ_92_0.length capJ_92_0 ∧ e9 7 = .agg #[.int .i64 1, .int .i64 4, .int .i64 5, .int .i64 7, .int .i64 8] ∧ e9 8 = .int .i64 3) ⟨(by kernel_rfl), (by kernel_rfl), (by kernel_rfl), (by kernel_rfl), (by kernel_rfl)⟩ ?_
        rintro e_122 ⟨hv_124, hv_125, hv_126, hv_127, hv_128⟩
        obtain ⟨e_123, rfl⟩ : ∃ e_123, e_122 = put1 (put1 (put1 (put1 (put1 e_123 0 (.int .u8 r)) 2 (.slice none 0 0)) 3 (.slice (some ⟨gJ_92_0, 0, none⟩) XJ_92_0.length capJ_92_0)) 7 (.agg #[.int .i64 1, .int .i64 4, .int .i64 5, .int .i64 7, .int .i64 8])) 8 (.int .i64 3) := ⟨e_122, (put_self hv_128).trans (congrArg (fun z => put1 z 8 (.int .i64 3)) ((put_self hv_127).trans (congrArg (fun z => put1 z 7 (.agg #[.int .i64 1, .int .i64 4, .int .i64 5, .int .i64 7, .int .i64 8])) ((put_self hv_126).trans (congrArg (fun z => put1 z 3 (.slice (some ⟨gJ_92_0, 0, none⟩) XJ_92_0.length capJ_92_0)) ((put_self hv_125).trans (congrArg (fun z => put1 z 2 (.slice none 0 0)) (put_self hv_124))))))))⟩
        clear hv_124 hv_125 hv_126 hv_127 hv_128
        refine CR.more ?_
        refine CW.seq ?_
        refine CW.region ?_
        refine SL.v (.bool true) ?_
        refine SL.nil ?_
        refine CW.seq ?_
        refine CW.cond_true (by kernel_rfl) ?_
        refine CW.skip ?_
        refine CW.seq ?_
        refine CW.block ?_
        refine CW.seq ?_
        refine CW.region ?_
        refine SL.v (.int .i64 7) ?_
        refine SL.v (.int .i64 7) ?_
        refine SL.nil ?_
        refine CW.seq ?_
        refine CW.region ?_
        refine SL.v (.int .u8 r) ?_
        refine SL.v (.int .i64 7) ?_
        refine SL.call (f := 79) (args := #[.int .i64 7]) (w1 := w_106) rfl rfl (by kernel_rfl) (part_7 w_106) ?_
        rintro x w_129 ⟨rfl, hc_130⟩
        refine ⟨.int .u8 8, rfl, ?_⟩
        have hs_131 := hs_107.grow hc_130
        refine SL.v (.int .u8 (bits .and .u8 r 8)) ?_
        refine SL.v (.bool (!((bits .and .u8 r 8) == 0))) ?_
        refine SL.nil ?_
        refine CW.mid (fun e9 w9 => ∃ (XJ_132_0 : List Int) (gJ_132_0 capJ_132_0 : Nat) (padJ_132_0 : List Value), XJ_132_0 = (bif ((bits .and .u8 r 8) == 0) then XJ_92_0 else XJ_92_0 ++ [7]) ∧ SH U w w9 [pt gJ_132_0 ⟨icells XJ_132_0 ++ padJ_132_0⟩ 3] ∧ (icells XJ_132_0 ++ padJ_132_0).length = capJ_132_0 * 1 ∧ XJ_132_0.length ≤ capJ_132_0 ∧ capJ_132_0 ≤ maxLen ∧ XJ_132_0.length ≤ 5 ∧ e9 0 = .int .u8 r ∧ e9 2 = .slice none 0 0 ∧ e9 3 = .slice (some ⟨gJ_132_0, 0, none⟩) XJ_132_0.length capJ_132_0 ∧ e9 5 = .int .i64 7 ∧ e9 7 = .agg #[.int .i64 1, .int .i64 4, .int .i64 5, .int .i64 7, .int .i64 8] ∧ e9 8 = .int .i64 3 ∧ e9 9 = .bool true ∧ e9 10 = .int .i64 7 ∧ e9 11 = .int .u8 r ∧ e9 12 = .int .i64 7 ∧ e9 13 = .int .u8 8 ∧ e9 14 = .int .u8 (bits .and .u8 r 8) ∧ e9 15 = .bool (!((bits .and .u8 r 8) == 0))) ?_ ?_
        · skip
          rcases Bool.eq_false_or_eq_true ((bits .and .u8 r 8) == 0) with hb_133 | hb_133
          · rw [hb_133]
            refine CW.cond_false (by kernel_rfl) ?_
            refine CW.skip ?_
            exact ⟨XJ_92_0, gJ_92_0, capJ_92_0, padJ_92_0, rfl, hs_131.pick [0] rfl, hlJ_92_0, hcJ_92_0, hmJ_92_0, (Nat.le_trans hbdJ_92_0 (by decide)), (by kernel_rfl), (by kernel_rfl), (by kernel_rfl), (by kernel_rfl), (by kernel_rfl), (by kernel_rfl), (by kernel_rfl), (by kernel_rfl), (by kernel_rfl), (by kernel_rfl), (by kernel_rfl), (by kernel_rfl), (by kernel_rfl)⟩
          · rw [hb_133]
            refine CW.cond_true (by kernel_rfl) ?_
            refine CW.region ?_
            refine SL.v (.slice (some ⟨gJ_92_0, 0, none⟩) XJ_92_0.length capJ_92_0) ?_
            refine SL.v (.int .i64 7) ?_
            refine SL.newH (mk := fun g => .slice (some ⟨g, 0, none⟩) 1 1) (C := #[.int .i64 7]) (T := 3) hs_131 rfl rfl (by kernel_rfl) (fun g_134 w_135 hs_136 => ?_)
            have hs_136 : SH U w w_135 [pt gJ_92_0 ⟨icells XJ_92_0 ++ padJ_92_0⟩ 3, pt g_134 #[.int .i64 7] 3] := hs_136
            refine SL.appH (z := .int .i64 0) (size := 1) (bytes := 8) (el := 3) (m := 1) (news := [.int .i64 7]) (i := 0) (g := gJ_92_0) (k := XJ_92_0.length) (cap := capJ_92_0) (xs := icells XJ_92_0) (pad := padJ_92_0) (xs' := icells (XJ_92_0 ++ [7])) (k' := (XJ_92_0 ++ [7]).length) (L' := [pt g_134 #[.int .i64 7] 3]) hs_136 rfl rfl rfl (by kernel_rfl) (by kernel_rfl) (by kernel_rfl) (by kernel_rfl) (by kernel_rfl) (by kernel_rfl) rfl (icells_len _) hlJ_92_0 hcJ_92_0 hmJ_92_0 rfl (srcH (cs := [.int .i64 7]) (el := 3) (by kernel_rfl) (hs_136.pt_at (i := 1) rfl) rfl rfl (List.all_eq_true.1 (by kernel_rfl))) (by have := hbdJ_92_0; omega) (icells_app XJ_92_0 ([7])) (by simp) rfl (fun g_137 cap_138 pad_139 w_140 hs_141 hl_142 hc_143 hm_144 => ?_)
            have hs_141 : SH U w w_140 [pt g_134 #[.int .i64 7] 3, pt g_137 ⟨icells (XJ_92_0 ++ [7]) ++ pad_139⟩ 3] := hs_141
            refine SL.v (.slice (some ⟨g_137, 0, none⟩) ((XJ_92_0 ++ [7]).length) cap_138) ?_
            refine SL.nil ?_
            exact ⟨XJ_92_0 ++ [7], g_137, cap_138, pad_139, rfl, hs_141.pick [1] rfl, hl_142, hc_143, hm_144, (Nat.le_trans (show (XJ_92_0 ++ [7]).length ≤ 5 by rw [List.length_append]; exact Nat.add_le_add hbdJ_92_0 (Nat.le_refl _)) (by decide)), (by kernel_rfl), (by kernel_rfl), (by kernel_rfl), (by kernel_rfl), (by kernel_rfl), (by kernel_rfl), (by kernel_rfl), (by kernel_rfl), (by kernel_rfl), (by kernel_rfl), (by kernel_rfl), (by kernel_rfl), (by kernel_rfl)⟩
        · rintro e_145 w_146 ⟨XJ_132_0, gJ_132_0, capJ_132_0, padJ_132_0, hXJ_132_0, hs_147, hlJ_132_0, hcJ_132_0, hmJ_132_0, hbdJ_132_0, hv_149, hv_150, hv_151, hv_152, hv_153, hv_154, hv_155, hv_156, hv_157, hv_158, hv_159, hv_160, hv_161⟩
          obtain ⟨e_148, rfl⟩ : ∃ e_148, e_145 = put1 (put1 (put1 (put1 (put1 (put1 (put1 (put1 (put1 (put1 (put1 (put1 (put1 e_148 0 (.int .u8 r)) 2 (.slice none 0 0)) 3 (.slice (some ⟨gJ_132_0, 0, none⟩) XJ_132_0.length capJ_132_0)) 5 (.int .i64 7)) 7 (.agg #[.int .i64 1, .int .i64 4, .int .i64 5, .int .i64 7, .int .i64 8])) 8 (.int .i64 3)) 9 (.bool true)) 10 (.int .i64 7)) 11 (.int .u8 r)) 12 (.int .i64 7)) 13 (.int .u8 8)) 14 (.int .u8 (bits .and .u8 r 8))) 15 (.bool (!((bits .and .u8 r 8) == 0))) := ⟨e_145, (put_self hv_161).trans (congrArg (fun z => put1 z 15 (.bool (!((bits .and .u8 r 8) == 0)))) ((put_self hv_160).trans (congrArg (fun z => put1 z 14 (.int .u8 (bits .and .u8 r 8))) ((put_self hv_159).trans (congrArg (fun z => put1 z 13 (.int .u8 8)) ((put_self hv_158).trans (congrArg (fun z => put1 z 12 (.int .i64 7)) ((put_self hv_157).trans (congrArg (fun z => put1 z 11 (.int .u8 r)) ((put_self hv_156).trans (congrArg (fun z => put1 z 10 (.int .i64 7)) ((put_self hv_155).trans (congrArg (fun z => put1 z 9 (.bool true)) ((put_self hv_154).trans (congrArg (fun z => put1 z 8 (.int .i64 3)) ((put_self hv_153).trans (congrArg (fun z => put1 z 7 (.agg #[.int .i64 1, .int .i64 4, .int .i64 5, .int .i64 7, .int .i64 8])) ((put_self hv_152).trans (congrArg (fun z => put1 z 5 (.int .i64 7)) ((put_self hv_151).trans (congrArg (fun z => put1 z 3 (.slice (some ⟨gJ_132_0, 0, none⟩) XJ_132_0.length capJ_132_0)) ((put_self hv_150).trans (congrArg (fun z => put1 z 2 (.slice none 0 0)) (put_self hv_149))))))))))))))))))))))))⟩
          clear hv_149 hv_150 hv_151 hv_152 hv_153 hv_154 hv_155 hv_156 hv_157 hv_158 hv_159 hv_160 hv_161
          refine CW.region ?_
          refine SL.v (.int .i64 4) ?_
          refine SL.v (.int .i64 4) ?_
          refine SL.nil ?_
          refine CR.fresh (fun e9 => e9 0 = .int .u8 r ∧ e9 2 = .slice none 0 0 ∧ e9 3 = .slice (some ⟨gJ_132_0, 0, none⟩) XJ_132_0.length capJ_132_0 ∧ e9 7 = .agg #[.int .i64 1, .int .i64 4, .int .i64 5, .int .i64 7, .int .i64 8] ∧ e9 8 = .int .i64 4) ⟨(by kernel_rfl), (by kernel_rfl), (by kernel_rfl), (by kernel_rfl), (by kernel_rfl)⟩ ?_
          rintro e_162 ⟨hv_164, hv_165, hv_166, hv_167, hv_168⟩
          obtain ⟨e_163, rfl⟩ : ∃ e_163, e_162 = put1 (put1 (put1 (put1 (put1 e_163 0 (.int .u8 r)) 2 (.slice none 0 0)) 3 (.slice (some ⟨gJ_132_0, 0, none⟩) XJ_132_0.length capJ_132_0)) 7 (.agg #[.int .i64 1, .int .i64 4, .int .i64 5, .int .i64 7, .int .i64 8])) 8 (.int .i64 4) := ⟨e_162, (put_self hv_168).trans (congrArg (fun z => put1 z 8 (.int .i64 4)) ((put_self hv_167).trans (congrArg (fun z => put1 z 7 (.agg #[.int .i64 1, .int .i64 4, .int .i64 5, .int .i64 7, .int .i64 8])) ((put_self hv_166).trans (congrArg (fun z => put1 z 3 (.slice (some ⟨gJ_132_0, 0, none⟩) XJ_132_0.length capJ_132_0)) ((put_self hv_165).trans (congrArg (fun z => put1 z 2 (.slice none 0 0)) (put_self hv_164))))))))⟩
          clear hv_164 hv_165 hv_166 hv_167 hv_168
          refine CR.more ?_
          refine CW.seq ?_
          refine CW.region ?_
          refine SL.v (.bool true) ?_
          refine SL.nil ?_
          refine CW.seq ?_
          refine CW.cond_true (by kernel_rfl) ?_
          refine CW.skip ?_
          refine CW.seq ?_
          refine CW.block ?_
          refine CW.seq ?_
          refine CW.region ?_
          refine SL.v (.int .i64 8) ?_
          refine SL.v (.int .i64 8) ?_
          refine SL.nil ?_
          refine CW.seq ?_
          refine CW.region ?_
          refine SL.v (.int .u8 r) ?_
          refine SL.v (.int .i64 8) ?_
          refine SL.call (f := 79) (args := #[.int .i64 8]) (w1 := w_146) rfl rfl (by kernel_rfl) (part_8 w_146) ?_
          rintro x w_169 ⟨rfl, hc_170⟩
          refine ⟨.int .u8 16, rfl, ?_⟩
          have hs_171 := hs_147.grow hc_170
          refine SL.v (.int .u8 (bits .and .u8 r 16)) ?_
          refine SL.v (.bool (!((bits .and .u8 r 16) == 0))) ?_
          refine SL.nil ?_
          refine CW.mid (fun e9 w9 => ∃ (XJ_172_0 : List Int) (gJ_172_0 capJ_172_0 : Nat) (padJ_172_0 : List Value), XJ_172_0 = (bif ((bits .and .u8 r 16) == 0) then XJ_132_0 else XJ_132_0 ++ [8]) ∧ SH U w w9 [pt gJ_172_0 ⟨icells XJ_172_0 ++ padJ_172_0⟩ 3] ∧ (icells XJ_172_0 ++ padJ_172_0).length = capJ_172_0 * 1 ∧ XJ_172_0.length ≤ capJ_172_0 ∧ capJ_172_0 ≤ maxLen ∧ XJ_172_0.length ≤ 6 ∧ e9 0 = .int .u8 r ∧ e9 2 = .slice none 0 0 ∧ e9 3 = .slice (some ⟨gJ_172_0, 0, none⟩) XJ_172_0.length capJ_172_0 ∧ e9 5 = .int .i64 8 ∧ e9 7 = .agg #[.int .i64 1, .int .i64 4, .int .i64 5, .int .i64 7, .int .i64 8] ∧ e9 8 = .int .i64 4 ∧ e9 9 = .bool true ∧ e9 10 = .int .i64 8 ∧ e9 11 = .int .u8 r ∧ e9 12 = .int .i64 8 ∧ e9 13 = .int .u8 16 ∧ e9 14 = .int .u8 (bits .and .u8 r 16) ∧ e9 15 = .bool (!((bits .and .u8 r 16) == 0))) ?_ ?_
          · skip
            rcases Bool.eq_false_or_eq_true ((bits .and .u8 r 16) == 0) with hb_173 | hb_173
            · rw [hb_173]
              refine CW.cond_false (by kernel_rfl) ?_
              refine CW.skip ?_
              exact ⟨XJ_132_0, gJ_132_0, capJ_132_0, padJ_132_0, rfl, hs_171.pick [0] rfl, hlJ_132_0, hcJ_132_0, hmJ_132_0, (Nat.le_trans hbdJ_132_0 (by decide)), (by kernel_rfl), (by kernel_rfl), (by kernel_rfl), (by kernel_rfl), (by kernel_rfl), (by kernel_rfl), (by kernel_rfl), (by kernel_rfl), (by kernel_rfl), (by kernel_rfl), (by kernel_rfl), (by kernel_rfl), (by kernel_rfl)⟩
            · rw [hb_173]
              refine CW.cond_true (by kernel_rfl) ?_
              refine CW.region ?_
              refine SL.v (.slice (some ⟨gJ_132_0, 0, none⟩) XJ_132_0.length capJ_132_0) ?_
              refine SL.v (.int .i64 8) ?_
              refine SL.newH (mk := fun g => .slice (some ⟨g, 0, none⟩) 1 1) (C := #[.int .i64 8]) (T := 3) hs_171 rfl rfl (by kernel_rfl) (fun g_174 w_175 hs_176 => ?_)
              have hs_176 : SH U w w_175 [pt gJ_132_0 ⟨icells XJ_132_0 ++ padJ_132_0⟩ 3, pt g_174 #[.int .i64 8] 3] := hs_176
              refine SL.appH (z := .int .i64 0) (size := 1) (bytes := 8) (el := 3) (m := 1) (news := [.int .i64 8]) (i := 0) (g := gJ_132_0) (k := XJ_132_0.length) (cap := capJ_132_0) (xs := icells XJ_132_0) (pad := padJ_132_0) (xs' := icells (XJ_132_0 ++ [8])) (k' := (XJ_132_0 ++ [8]).length) (L' := [pt g_174 #[.int .i64 8] 3]) hs_176 rfl rfl rfl (by kernel_rfl) (by kernel_rfl) (by kernel_rfl) (by kernel_rfl) (by kernel_rfl) (by kernel_rfl) rfl (icells_len _) hlJ_132_0 hcJ_132_0 hmJ_132_0 rfl (srcH (cs := [.int .i64 8]) (el := 3) (by kernel_rfl) (hs_176.pt_at (i := 1) rfl) rfl rfl (List.all_eq_true.1 (by kernel_rfl))) (by have := hbdJ_132_0; omega) (icells_app XJ_132_0 ([8])) (by simp) rfl (fun g_177 cap_178 pad_179 w_180 hs_181 hl_182 hc_183 hm_184 => ?_)
              have hs_181 : SH U w w_180 [pt g_174 #[.int .i64 8] 3, pt g_177 ⟨icells (XJ_132_0 ++ [8]) ++ pad_179⟩ 3] := hs_181
              refine SL.v (.slice (some ⟨g_177, 0, none⟩) ((XJ_132_0 ++ [8]).length) cap_178) ?_
              refine SL.nil ?_
              exact ⟨XJ_132_0 ++ [8], g_177, cap_178, pad_179, rfl, hs_181.pick [1] rfl, hl_182, hc_183, hm_184, (Nat.le_trans (show (XJ_132_0 ++ [8]).length ≤ 6 by rw [List.length_append]; exact Nat.add_le_add hbdJ_132_0 (Nat.le_refl _)) (by decide)), (by kernel_rfl), (by kernel_rfl), (by kernel_rfl), (by kernel_rfl), (by kernel_rfl), (by kernel_rfl), (by kernel_rfl), (by kernel_rfl), (by kernel_rfl), (by kernel_rfl), (by kernel_rfl), (by kernel_rfl), (by kernel_rfl)⟩
          · rintro e_185 w_186 ⟨XJ_172_0, gJ_172_0, capJ_172_0, padJ_172_0, hXJ_172_0, hs_187, hlJ_172_0, hcJ_172_0, hmJ_172_0, hbdJ_172_0, hv_189, hv_190, hv_191, hv_192, hv_193, hv_194, hv_195, hv_196, hv_197, hv_198, hv_199, hv_200, hv_201⟩
            obtain ⟨e_188, rfl⟩ : ∃ e_188, e_185 = put1 (put1 (put1 (put1 (put1 (put1 (put1 (put1 (put1 (put1 (put1 (put1 (put1 e_188 0 (.int .u8 r)) 2 (.slice none 0 0)) 3 (.slice (some ⟨gJ_172_0, 0, none⟩) XJ_172_0.length capJ_172_0)) 5 (.int .i64 8)) 7 (.agg #[.int .i64 1, .int .i64 4, .int .i64 5, .int .i64 7, .int .i64 8])) 8 (.int .i64 4)) 9 (.bool true)) 10 (.int .i64 8)) 11 (.int .u8 r)) 12 (.int .i64 8)) 13 (.int .u8 16)) 14 (.int .u8 (bits .and .u8 r 16))) 15 (.bool (!((bits .and .u8 r 16) == 0))) := ⟨e_185, (put_self hv_201).trans (congrArg (fun z => put1 z 15 (.bool (!((bits .and .u8 r 16) == 0)))) ((put_self hv_200).trans (congrArg (fun z => put1 z 14 (.int .u8 (bits .and .u8 r 16))) ((put_self hv_199).trans (congrArg (fun z => put1 z 13 (.int .u8 16)) ((put_self hv_198).trans (congrArg (fun z => put1 z 12 (.int .i64 8)) ((put_self hv_197).trans (congrArg (fun z => put1 z 11 (.int .u8 r)) ((put_self hv_196).trans (congrArg (fun z => put1 z 10 (.int .i64 8)) ((put_self hv_195).trans (congrArg (fun z => put1 z 9 (.bool true)) ((put_self hv_194).trans (congrArg (fun z => put1 z 8 (.int .i64 4)) ((put_self hv_193).trans (congrArg (fun z => put1 z 7 (.agg #[.int .i64 1, .int .i64 4, .int .i64 5, .int .i64 7, .int .i64 8])) ((put_self hv_192).trans (congrArg (fun z => put1 z 5 (.int .i64 8)) ((put_self hv_191).trans (congrArg (fun z => put1 z 3 (.slice (some ⟨gJ_172_0, 0, none⟩) XJ_172_0.length capJ_172_0)) ((put_self hv_190).trans (congrArg (fun z => put1 z 2 (.slice none 0 0)) (put_self hv_189))))))))))))))))))))))))⟩
            clear hv_189 hv_190 hv_191 hv_192 hv_193 hv_194 hv_195 hv_196 hv_197 hv_198 hv_199 hv_200 hv_201
            refine CW.region ?_
            refine SL.v (.int .i64 5) ?_
            refine SL.v (.int .i64 5) ?_
            refine SL.nil ?_
            refine CR.fresh (fun e9 => e9 0 = .int .u8 r ∧ e9 2 = .slice none 0 0 ∧ e9 3 = .slice (some ⟨gJ_172_0, 0, none⟩) XJ_172_0.length capJ_172_0 ∧ e9 7 = .agg #[.int .i64 1, .int .i64 4, .int .i64 5, .int .i64 7, .int .i64 8] ∧ e9 8 = .int .i64 5) ⟨(by kernel_rfl), (by kernel_rfl), (by kernel_rfl), (by kernel_rfl), (by kernel_rfl)⟩ ?_
            rintro e_202 ⟨hv_204, hv_205, hv_206, hv_207, hv_208⟩
            obtain ⟨e_203, rfl⟩ : ∃ e_203, e_202 = put1 (put1 (put1 (put1 (put1 e_203 0 (.int .u8 r)) 2 (.slice none 0 0)) 3 (.slice (some ⟨gJ_172_0, 0, none⟩) XJ_172_0.length capJ_172_0)) 7 (.agg #[.int .i64 1, .int .i64 4, .int .i64 5, .int .i64 7, .int .i64 8])) 8 (.int .i64 5) := ⟨e_202, (put_self hv_208).trans (congrArg (fun z => put1 z 8 (.int .i64 5)) ((put_self hv_207).trans (congrArg (fun z => put1 z 7 (.agg #[.int .i64 1, .int .i64 4, .int .i64 5, .int .i64 7, .int .i64 8])) ((put_self hv_206).trans (congrArg (fun z => put1 z 3 (.slice (some ⟨gJ_172_0, 0, none⟩) XJ_172_0.length capJ_172_0)) ((put_self hv_205).trans (congrArg (fun z => put1 z 2 (.slice none 0 0)) (put_self hv_204))))))))⟩
            clear hv_204 hv_205 hv_206 hv_207 hv_208
            refine CR.more ?_
            refine CW.seq ?_
            refine CW.region ?_
            refine SL.v (.bool false) ?_
            refine SL.nil ?_
            refine CW.seq ?_
            refine CW.cond_false (by kernel_rfl) ?_
            refine CW.exit ?_
            repeat with_reducible first | refine PThen.exit ?_ | refine PBlock.out rfl ?_
            with_reducible refine PBlock.here ?_
            repeat with_reducible refine PBlock.normal ?_
            refine CW.seq ?_
            refine CW.region ?_
            refine SL.v (.slice (some ⟨gJ_172_0, 0, none⟩) XJ_172_0.length capJ_172_0) ?_
            refine SL.v (.slice (some ⟨gJ_172_0, 0, none⟩) XJ_172_0.length capJ_172_0) ?_
            refine SL.nil ?_
            refine CW.ret ?_
            repeat with_reducible first | refine PThen.ret ?_ | refine PBlock.ret ?_
            refine PRet.tmp (t := 2) (v := .slice (some ⟨gJ_172_0, 0, none⟩) XJ_172_0.length capJ_172_0) rfl rfl (by kernel_rfl) ?_
            have hX : XJ_172_0 = rpar r := by
              rw [hXJ_172_0, hXJ_132_0, hXJ_92_0, hXJ_52_0, hXJ_12_0]
              obtain ⟨e1, e2, e3, e4, e5⟩ := rbits hr.1 hr.2; rw [e1, e2, e3, e4, e5]; unfold rpar rparL; cases (r % 2 == 1) <;> cases (r / 2 % 2 == 1) <;> cases (r / 4 % 2 == 1) <;> cases (r / 8 % 2 == 1) <;> cases (r / 16 % 2 == 1) <;> rfl
            rw [hX] at hlJ_172_0 hcJ_172_0
            have hs9 := hs_187.pick [0] rfl
            rw [hX] at hs9
            rw [hX]
            exact ⟨_, _, rfl, ⟨gJ_172_0, capJ_172_0, padJ_172_0, rfl, rfl, hlJ_172_0, hcJ_172_0, hmJ_172_0⟩, hs9⟩
set_option maxRecDepth 100000 in
set_option maxHeartbeats 4000000 in
theorem rparams_any (r : Int) (w : World) (hr0 : 0 ≤ r ∧ r < 256) : Tr Tryd.prog 46 #[.int .u8 r] w [] (IRw (rpar r)) := by
  refine Tr.of fun U hs0 => ?_
  refine calls_sx (n := 34) (args := [.int .u8 r]) Tryd.func46 rfl rfl rfl ?_
  refine CW.seq ?_
  refine CW.region ?_
  refine SL.v (.slice none 0 0) ?_
  refine SL.nil ?_
  refine CW.seq ?_
  refine CW.region ?_
  refine SL.v (.int .u8 r) ?_
  refine SL.call (f := 35) (args := #[.int .u8 r]) (w1 := w) rfl rfl (by kernel_rfl) (rof_any r w hr0) ?_
  rintro x w_1 ⟨rfl, hc_2⟩
  refine ⟨.agg #[.bool (r % 2 == 1), .bool (r / 2 % 2 == 1), .bool (r / 4 % 2 == 1), .bool (r / 8 % 2 == 1), .bool (r / 16 % 2 == 1)], rfl, ?_⟩
  have hs_3 := hs0.grow hc_2
  refine SL.newH (mk := fun g => .pointer (some ⟨g, 0, none⟩)) (C := #[.bool false, .bool false, .bool false, .bool false, .bool false]) (T := 80) hs_3 rfl rfl (by kernel_rfl) (fun g_4 w_5 hs_6 => ?_)
  have hs_6 : SH U w w_5 [pt g_4 #[.bool false, .bool false, .bool false, .bool false, .bool false] 80] := hs_6
  refine SL.storeH (i := 0) (g := g_4) (off := 0) (v := .agg #[.bool (r % 2 == 1), .bool (r / 2 % 2 == 1), .bool (r / 4 % 2 == 1), .bool (r / 8 % 2 == 1), .bool (r / 16 % 2 == 1)]) (C' := #[.bool (r % 2 == 1), .bool (r / 2 % 2 == 1), .bool (r / 4 % 2 == 1), .bool (r / 8 % 2 == 1), .bool (r / 16 % 2 == 1)]) (L' := [pt g_4 #[.bool (r % 2 == 1), .bool (r / 2 % 2 == 1), .bool (r / 4 % 2 == 1), .bool (r / 8 % 2 == 1), .bool (r / 16 % 2 == 1)] 80]) hs_6 rfl rfl rfl (by kernel_rfl) (by kernel_rfl) rfl (by kernel_rfl) (by kernel_rfl) rfl (by kernel_rfl) (by kernel_rfl) (fun w_7 hs_8 => ?_)
  refine SL.nil ?_
  refine CW.seq ?_
  refine CW.region ?_
  refine SL.newH (mk := fun g => .slice (some ⟨g, 0, none⟩) 1 1) (C := #[.int .i64 0]) (T := 3) hs_8 rfl rfl (by kernel_rfl) (fun g_9 w_10 hs_11 => ?_)
  have hs_11 : SH U w w_10 [pt g_4 #[.bool (r % 2 == 1), .bool (r / 2 % 2 == 1), .bool (r / 4 % 2 == 1), .bool (r / 8 % 2 == 1), .bool (r / 16 % 2 == 1)] 80, pt g_9 #[.int .i64 0] 3] := hs_11
  refine SL.v (.slice (some ⟨g_9, 0, none⟩) 1 1) ?_
  refine SL.nil ?_
  refine CW.seq ?_
  refine CW.seq ?_
  refine CW.region ?_
  refine SL.v (.pointer (some ⟨g_4, 0, none⟩)) ?_
  refine SL.load (g := g_4) (off := 0) (v := .bool (r % 2 == 1)) rfl rfl rfl (by kernel_rfl) (hs_11.pt_at (i := 0) rfl) (by kernel_rfl) ?_
  refine SL.nil ?_
  have hs_13 : SH U w w_10 [pt g_4 #[.bool (r % 2 == 1), .bool (r / 2 % 2 == 1), .bool (r / 4 % 2 == 1), .bool (r / 8 % 2 == 1), .bool (r / 16 % 2 == 1)] 80, pt g_9 ⟨icells ([0]) ++ []⟩ 3] := hs_11
  refine CW.mid (fun e9 w9 => ∃ (XJ_14_0 : List Int) (gJ_14_0 capJ_14_0 : Nat) (padJ_14_0 : List Value), XJ_14_0 = (bif (r % 2 == 1) then ([0]) ++ [1] else [0]) ∧ SH U w w9 [pt g_4 #[.bool (r % 2 == 1), .bool (r / 2 % 2 == 1), .bool (r / 4 % 2 == 1), .bool (r / 8 % 2 == 1), .bool (r / 16 % 2 == 1)] 80, pt gJ_14_0 ⟨icells XJ_14_0 ++ padJ_14_0⟩ 3] ∧ (icells XJ_14_0 ++ padJ_14_0).length = capJ_14_0 * 1 ∧ XJ_14_0.length ≤ capJ_14_0 ∧ capJ_14_0 ≤ maxLen ∧ XJ_14_0.length ≤ 2 ∧ e9 2 = .slice none 0 0 ∧ e9 3 = .pointer (some ⟨g_4, 0, none⟩) ∧ e9 4 = .slice (some ⟨gJ_14_0, 0, none⟩) XJ_14_0.length capJ_14_0) ?_ ?_
  · skip
    rcases Bool.eq_false_or_eq_true (r % 2 == 1) with hb_15 | hb_15
    · rw [hb_15]
      rw [hb_15] at hs_13
      refine CW.cond_true (by kernel_rfl) ?_
      refine CW.region ?_
      refine SL.v (.slice (some ⟨g_9, 0, none⟩) 1 1) ?_
      refine SL.newH (mk := fun g => .slice (some ⟨g, 0, none⟩) 1 1) (C := #[.int .i64 1]) (T := 3) hs_13 rfl rfl (by kernel_rfl) (fun g_16 w_17 hs_18 => ?_)
      have hs_18 : SH U w w_17 [pt g_4 #[.bool true, .bool (r / 2 % 2 == 1), .bool (r / 4 % 2 == 1), .bool (r / 8 % 2 == 1), .bool (r / 16 % 2 == 1)] 80, pt g_9 ⟨icells ([0]) ++ []⟩ 3, pt g_16 #[.int .i64 1] 3] := hs_18
      refine SL.appH (z := .int .i64 0) (size := 1) (bytes := 8) (el := 3) (m := 1) (news := [.int .i64 1]) (i := 1) (g := g_9) (k := 1) (cap := 1) (xs := icells ([0])) (pad := []) (xs' := icells (([0]) ++ [1])) (k' := (([0]) ++ [1]).length) (L' := [pt g_4 #[.bool true, .bool (r / 2 % 2 == 1), .bool (r / 4 % 2 == 1), .bool (r / 8 % 2 == 1), .bool (r / 16 % 2 == 1)] 80, pt g_16 #[.int .i64 1] 3]) hs_18 rfl rfl rfl (by kernel_rfl) (by kernel_rfl) (by kernel_rfl) (by kernel_rfl) (by kernel_rfl) (by kernel_rfl) rfl (icells_len _) rfl (by decide) (by decide) rfl (srcH (cs := [.int .i64 1]) (el := 3) (by kernel_rfl) (hs_18.pt_at (i := 2) rfl) rfl rfl (List.all_eq_true.1 (by kernel_rfl))) (by have := (show ([0] : List Int).length ≤ 1 by decide); omega) (icells_app ([0]) ([1])) (by simp) rfl (fun g_19 cap_20 pad_21 w_22 hs_23 hl_24 hc_25 hm_26 => ?_)
      have hs_23 : SH U w w_22 [pt g_4 #[.bool true, .bool (r / 2 % 2 == 1), .bool (r / 4 % 2 == 1), .bool (r / 8 % 2 == 1), .bool (r / 16 % 2 == 1)] 80, pt g_16 #[.int .i64 1] 3, pt g_19 ⟨icells (([0]) ++ [1]) ++ pad_21⟩ 3] := hs_23
      refine SL.v (.slice (some ⟨g_19, 0, none⟩) ((([0]) ++ [1]).length) cap_20) ?_
      refine SL.nil ?_
      exact ⟨([0]) ++ [1], g_19, cap_20, pad_21, rfl, hs_23.pick [0, 1] rfl, hl_24, hc_25, hm_26, (Nat.le_trans (show (([0]) ++ [1]).length ≤ 2 by rw [List.length_append]; exact Nat.add_le_add (show ([0] : List Int).length ≤ 1 by decide) (Nat.le_refl _)) (by decide)), (by kernel_rfl), (by kernel_rfl), (by kernel_rfl)⟩
    · rw [hb_15]
      rw [hb_15] at hs_13
      refine CW.cond_false (by kernel_rfl) ?_
      refine CW.skip ?_
      exact ⟨[0], g_9, 1, [], rfl, hs_13.pick [0, 0] rfl, rfl, (by decide), (by decide), (Nat.le_trans (show ([0] : List Int).length ≤ 1 by decide) (by decide)), (by kernel_rfl), (by kernel_rfl), (by kernel_rfl)⟩
  · rintro e_27 w_28 ⟨XJ_14_0, gJ_14_0, capJ_14_0, padJ_14_0, hXJ_14_0, hs_29, hlJ_14_0, hcJ_14_0, hmJ_14_0, hbdJ_14_0, hv_31, hv_32, hv_33⟩
    obtain ⟨e_30, rfl⟩ : ∃ e_30, e_27 = put1 (put1 (put1 e_30 2 (.slice none 0 0)) 3 (.pointer (some ⟨g_4, 0, none⟩))) 4 (.slice (some ⟨gJ_14_0, 0, none⟩) XJ_14_0.length capJ_14_0) := ⟨e_27, (put_self hv_33).trans (congrArg (fun z => put1 z 4 (.slice (some ⟨gJ_14_0, 0, none⟩) XJ_14_0.length capJ_14_0)) ((put_self hv_32).trans (congrArg (fun z => put1 z 3 (.pointer (some ⟨g_4, 0, none⟩))) (put_self hv_31))))⟩
    clear hv_31 hv_32 hv_33
    refine CW.seq ?_
    refine CW.seq ?_
    refine CW.region ?_
    refine SL.v (.pointer (some ⟨g_4, 1, none⟩)) ?_
    refine SL.load (g := g_4) (off := 1) (v := .bool (r / 2 % 2 == 1)) rfl rfl rfl (by kernel_rfl) (hs_29.pt_at (i := 0) rfl) (by kernel_rfl) ?_
    refine SL.nil ?_
    refine CW.mid (fun e9 w9 => ∃ (XJ_34_0 : List Int) (gJ_34_0 capJ_34_0 : Nat) (padJ_34_0 : List Value), XJ_34_0 = (bif (r / 2 % 2 == 1) then XJ_14_0 ++ [4] else XJ_14_0) ∧ SH U w w9 [pt g_4 #[.bool (r % 2 == 1), .bool (r / 2 % 2 == 1), .bool (r / 4 % 2 == 1), .bool (r / 8 % 2 == 1), .bool (r / 16 % 2 == 1)] 80, pt gJ_34_0 ⟨icells XJ_34_0 ++ padJ_34_0⟩ 3] ∧ (icells XJ_34_0 ++ padJ_34_0).length = capJ_34_0 * 1 ∧ XJ_34_0.length ≤ capJ_34_0 ∧ capJ_34_0 ≤ maxLen ∧ XJ_34_0.length ≤ 3 ∧ e9 2 = .slice none 0 0 ∧ e9 3 = .pointer (some ⟨g_4, 0, none⟩) ∧ e9 4 = .slice (some ⟨gJ_34_0, 0, none⟩) XJ_34_0.length capJ_34_0) ?_ ?_
    · skip
      rcases Bool.eq_false_or_eq_true (r / 2 % 2 == 1) with hb_35 | hb_35
      · rw [hb_35]
        rw [hb_35] at hs_29
        refine CW.cond_true (by kernel_rfl) ?_
        refine CW.region ?_
        refine SL.v (.slice (some ⟨gJ_14_0, 0, none⟩) XJ_14_0.length capJ_14_0) ?_
        refine SL.newH (mk := fun g => .slice (some ⟨g, 0, none⟩) 1 1) (C := #[.int .i64 4]) (T := 3) hs_29 rfl rfl (by kernel_rfl) (fun g_36 w_37 hs_38 => ?_)
        have hs_38 : SH U w w_37 [pt g_4 #[.bool (r % 2 == 1), .bool true, .bool (r / 4 % 2 == 1), .bool (r / 8 % 2 == 1), .bool (r / 16 % 2 == 1)] 80, pt gJ_14_0 ⟨icells XJ_14_0 ++ padJ_14_0⟩ 3, pt g_36 #[.int .i64 4] 3] := hs_38
        refine SL.appH (z := .int .i64 0) (size := 1) (bytes := 8) (el := 3) (m := 1) (news := [.int .i64 4]) (i := 1) (g := gJ_14_0) (k := XJ_14_0.length) (cap := capJ_14_0) (xs := icells XJ_14_0) (pad := padJ_14_0) (xs' := icells (XJ_14_0 ++ [4])) (k' := (XJ_14_0 ++ [4]).length) (L' := [pt g_4 #[.bool (r % 2 == 1), .bool true, .bool (r / 4 % 2 == 1), .bool (r / 8 % 2 == 1), .bool (r / 16 % 2 == 1)] 80, pt g_36 #[.int .i64 4] 3]) hs_38 rfl rfl rfl (by kernel_rfl) (by kernel_rfl) (by kernel_rfl) (by kernel_rfl) (by kernel_rfl) (by kernel_rfl) rfl (icells_len _) hlJ_14_0 hcJ_14_0 hmJ_14_0 rfl (srcH (cs := [.int .i64 4]) (el := 3) (by kernel_rfl) (hs_38.pt_at (i := 2) rfl) rfl rfl (List.all_eq_true.1 (by kernel_rfl))) (by have := hbdJ_14_0; omega) (icells_app XJ_14_0 ([4])) (by simp) rfl (fun g_39 cap_40 pad_41 w_42 hs_43 hl_44 hc_45 hm_46 => ?_)
        have hs_43 : SH U w w_42 [pt g_4 #[.bool (r % 2 == 1), .bool true, .bool (r / 4 % 2 == 1), .bool (r / 8 % 2 == 1), .bool (r / 16 % 2 == 1)] 80, pt g_36 #[.int .i64 4] 3, pt g_39 ⟨icells (XJ_14_0 ++ [4]) ++ pad_41⟩ 3] := hs_43
        refine SL.v (.slice (some ⟨g_39, 0, none⟩) ((XJ_14_0 ++ [4]).length) cap_40) ?_
        refine SL.nil ?_
        exact ⟨XJ_14_0 ++ [4], g_39, cap_40, pad_41, rfl, hs_43.pick [0, 1] rfl, hl_44, hc_45, hm_46, (Nat.le_trans (show (XJ_14_0 ++ [4]).length ≤ 3 by rw [List.length_append]; exact Nat.add_le_add hbdJ_14_0 (Nat.le_refl _)) (by decide)), (by kernel_rfl), (by kernel_rfl), (by kernel_rfl)⟩
      · rw [hb_35]
        rw [hb_35] at hs_29
        refine CW.cond_false (by kernel_rfl) ?_
        refine CW.skip ?_
        exact ⟨XJ_14_0, gJ_14_0, capJ_14_0, padJ_14_0, rfl, hs_29.pick [0, 0] rfl, hlJ_14_0, hcJ_14_0, hmJ_14_0, (Nat.le_trans hbdJ_14_0 (by decide)), (by kernel_rfl), (by kernel_rfl), (by kernel_rfl)⟩
    · rintro e_47 w_48 ⟨XJ_34_0, gJ_34_0, capJ_34_0, padJ_34_0, hXJ_34_0, hs_49, hlJ_34_0, hcJ_34_0, hmJ_34_0, hbdJ_34_0, hv_51, hv_52, hv_53⟩
      obtain ⟨e_50, rfl⟩ : ∃ e_50, e_47 = put1 (put1 (put1 e_50 2 (.slice none 0 0)) 3 (.pointer (some ⟨g_4, 0, none⟩))) 4 (.slice (some ⟨gJ_34_0, 0, none⟩) XJ_34_0.length capJ_34_0) := ⟨e_47, (put_self hv_53).trans (congrArg (fun z => put1 z 4 (.slice (some ⟨gJ_34_0, 0, none⟩) XJ_34_0.length capJ_34_0)) ((put_self hv_52).trans (congrArg (fun z => put1 z 3 (.pointer (some ⟨g_4, 0, none⟩))) (put_self hv_51))))⟩
      clear hv_51 hv_52 hv_53
      refine CW.seq ?_
      refine CW.seq ?_
      refine CW.region ?_
      refine SL.v (.pointer (some ⟨g_4, 2, none⟩)) ?_
      refine SL.load (g := g_4) (off := 2) (v := .bool (r / 4 % 2 == 1)) rfl rfl rfl (by kernel_rfl) (hs_49.pt_at (i := 0) rfl) (by kernel_rfl) ?_
      refine SL.nil ?_
      refine CW.mid (fun e9 w9 => ∃ (XJ_54_0 : List Int) (gJ_54_0 capJ_54_0 : Nat) (padJ_54_0 : List Value), XJ_54_0 = (bif (r / 4 % 2 == 1) then XJ_34_0 ++ [5] else XJ_34_0) ∧ SH U w w9 [pt g_4 #[.bool (r % 2 == 1), .bool (r / 2 % 2 == 1), .bool (r / 4 % 2 == 1), .bool (r / 8 % 2 == 1), .bool (r / 16 % 2 == 1)] 80, pt gJ_54_0 ⟨icells XJ_54_0 ++ padJ_54_0⟩ 3] ∧ (icells XJ_54_0 ++ padJ_54_0).length = capJ_54_0 * 1 ∧ XJ_54_0.length ≤ capJ_54_0 ∧ capJ_54_0 ≤ maxLen ∧ XJ_54_0.length ≤ 4 ∧ e9 2 = .slice none 0 0 ∧ e9 3 = .pointer (some ⟨g_4, 0, none⟩) ∧ e9 4 = .slice (some ⟨gJ_54_0, 0, none⟩) XJ_54_0.length capJ_54_0) ?_ ?_
      · skip
        rcases Bool.eq_false_or_eq_true (r / 4 % 2 == 1) with hb_55 | hb_55
        · rw [hb_55]
          rw [hb_55] at hs_49
          refine CW.cond_true (by kernel_rfl) ?_
          refine CW.region ?_
          refine SL.v (.slice (some ⟨gJ_34_0, 0, none⟩) XJ_34_0.length capJ_34_0) ?_
          refine SL.newH (mk := fun g => .slice (some ⟨g, 0, none⟩) 1 1) (C := #[.int .i64 5]) (T := 3) hs_49 rfl rfl (by kernel_rfl) (fun g_56 w_57 hs_58 => ?_)
          have hs_58 : SH U w w_57 [pt g_4 #[.bool (r % 2 == 1), .bool (r / 2 % 2 == 1), .bool true, .bool (r / 8 % 2 == 1), .bool (r / 16 % 2 == 1)] 80, pt gJ_34_0 ⟨icells XJ_34_0 ++ padJ_34_0⟩ 3, pt g_56 #[.int .i64 5] 3] := hs_58
          refine SL.appH (z := .int .i64 0) (size := 1) (bytes := 8) (el := 3) (m := 1) (news := [.int .i64 5]) (i := 1) (g := gJ_34_0) (k := XJ_34_0.length) (cap := capJ_34_0) (xs := icells XJ_34_0) (pad := padJ_34_0) (xs' := icells (XJ_34_0 ++ [5])) (k' := (XJ_34_0 ++ [5]).length) (L' := [pt g_4 #[.bool (r % 2 == 1), .bool (r / 2 % 2 == 1), .bool true, .bool (r / 8 % 2 == 1), .bool (r / 16 % 2 == 1)] 80, pt g_56 #[.int .i64 5] 3]) hs_58 rfl rfl rfl (by kernel_rfl) (by kernel_rfl) (by kernel_rfl) (by kernel_rfl) (by kernel_rfl) (by kernel_rfl) rfl (icells_len _) hlJ_34_0 hcJ_34_0 hmJ_34_0 rfl (srcH (cs := [.int .i64 5]) (el := 3) (by kernel_rfl) (hs_58.pt_at (i := 2) rfl) rfl rfl (List.all_eq_true.1 (by kernel_rfl))) (by have := hbdJ_34_0; omega) (icells_app XJ_34_0 ([5])) (by simp) rfl (fun g_59 cap_60 pad_61 w_62 hs_63 hl_64 hc_65 hm_66 => ?_)
          have hs_63 : SH U w w_62 [pt g_4 #[.bool (r % 2 == 1), .bool (r / 2 % 2 == 1), .bool true, .bool (r / 8 % 2 == 1), .bool (r / 16 % 2 == 1)] 80, pt g_56 #[.int .i64 5] 3, pt g_59 ⟨icells (XJ_34_0 ++ [5]) ++ pad_61⟩ 3] := hs_63
          refine SL.v (.slice (some ⟨g_59, 0, none⟩) ((XJ_34_0 ++ [5]).length) cap_60) ?_
          refine SL.nil ?_
          exact ⟨XJ_34_0 ++ [5], g_59, cap_60, pad_61, rfl, hs_63.pick [0, 1] rfl, hl_64, hc_65, hm_66, (Nat.le_trans (show (XJ_34_0 ++ [5]).length ≤ 4 by rw [List.length_append]; exact Nat.add_le_add hbdJ_34_0 (Nat.le_refl _)) (by decide)), (by kernel_rfl), (by kernel_rfl), (by kernel_rfl)⟩
        · rw [hb_55]
          rw [hb_55] at hs_49
          refine CW.cond_false (by kernel_rfl) ?_
          refine CW.skip ?_
          exact ⟨XJ_34_0, gJ_34_0, capJ_34_0, padJ_34_0, rfl, hs_49.pick [0, 0] rfl, hlJ_34_0, hcJ_34_0, hmJ_34_0, (Nat.le_trans hbdJ_34_0 (by decide)), (by kernel_rfl), (by kernel_rfl), (by kernel_rfl)⟩
      · rintro e_67 w_68 ⟨XJ_54_0, gJ_54_0, capJ_54_0, padJ_54_0, hXJ_54_0, hs_69, hlJ_54_0, hcJ_54_0, hmJ_54_0, hbdJ_54_0, hv_71, hv_72, hv_73⟩
        obtain ⟨e_70, rfl⟩ : ∃ e_70, e_67 = put1 (put1 (put1 e_70 2 (.slice none 0 0)) 3 (.pointer (some ⟨g_4, 0, none⟩))) 4 (.slice (some ⟨gJ_54_0, 0, none⟩) XJ_54_0.length capJ_54_0) := ⟨e_67, (put_self hv_73).trans (congrArg (fun z => put1 z 4 (.slice (some ⟨gJ_54_0, 0, none⟩) XJ_54_0.length capJ_54_0)) ((put_self hv_72).trans (congrArg (fun z => put1 z 3 (.pointer (some ⟨g_4, 0, none⟩))) (put_self hv_71))))⟩
        clear hv_71 hv_72 hv_73
        refine CW.seq ?_
        refine CW.seq ?_
        refine CW.region ?_
        refine SL.v (.pointer (some ⟨g_4, 3, none⟩)) ?_
        refine SL.load (g := g_4) (off := 3) (v := .bool (r / 8 % 2 == 1)) rfl rfl rfl (by kernel_rfl) (hs_69.pt_at (i := 0) rfl) (by kernel_rfl) ?_
        refine SL.nil ?_
        refine CW.mid (fun e9 w9 => ∃ (XJ_74_0 : List Int) (gJ_74_0 capJ_74_0 : Nat) (padJ_74_0 : List Value), XJ_74_0 = (bif (r / 8 % 2 == 1) then XJ_54_0 ++ [7] else XJ_54_0) ∧ SH U w w9 [pt g_4 #[.bool (r % 2 == 1), .bool (r / 2 % 2 == 1), .bool (r / 4 % 2 == 1), .bool (r / 8 % 2 == 1), .bool (r / 16 % 2 == 1)] 80, pt gJ_74_0 ⟨icells XJ_74_0 ++ padJ_74_0⟩ 3] ∧ (icells XJ_74_0 ++ padJ_74_0).length = capJ_74_0 * 1 ∧ XJ_74_0.length ≤ capJ_74_0 ∧ capJ_74_0 ≤ maxLen ∧ XJ_74_0.length ≤ 5 ∧ e9 2 = .slice none 0 0 ∧ e9 3 = .pointer (some ⟨g_4, 0, none⟩) ∧ e9 4 = .slice (some ⟨gJ_74_0, 0, none⟩) XJ_74_0.length capJ_74_0) ?_ ?_
        · skip
          rcases Bool.eq_false_or_eq_true (r / 8 % 2 == 1) with hb_75 | hb_75
          · rw [hb_75]
            rw [hb_75] at hs_69
            refine CW.cond_true (by kernel_rfl) ?_
            refine CW.region ?_
            refine SL.v (.slice (some ⟨gJ_54_0, 0, none⟩) XJ_54_0.length capJ_54_0) ?_
            refine SL.newH (mk := fun g => .slice (some ⟨g, 0, none⟩) 1 1) (C := #[.int .i64 7]) (T := 3) hs_69 rfl rfl (by kernel_rfl) (fun g_76 w_77 hs_78 => ?_)
            have hs_78 : SH U w w_77 [pt g_4 #[.bool (r % 2 == 1), .bool (r / 2 % 2 == 1), .bool (r / 4 % 2 == 1), .bool true, .bool (r / 16 % 2 == 1)] 80, pt gJ_54_0 ⟨icells XJ_54_0 ++ padJ_54_0⟩ 3, pt g_76 #[.int .i64 7] 3] := hs_78
            refine SL.appH (z := .int .i64 0) (size := 1) (bytes := 8) (el := 3) (m := 1) (news := [.int .i64 7]) (i := 1) (g := gJ_54_0) (k := XJ_54_0.length) (cap := capJ_54_0) (xs := icells XJ_54_0) (pad := padJ_54_0) (xs' := icells (XJ_54_0 ++ [7])) (k' := (XJ_54_0 ++ [7]).length) (L' := [pt g_4 #[.bool (r % 2 == 1), .bool (r / 2 % 2 == 1), .bool (r / 4 % 2 == 1), .bool true, .bool (r / 16 % 2 == 1)] 80, pt g_76 #[.int .i64 7] 3]) hs_78 rfl rfl rfl (by kernel_rfl) (by kernel_rfl) (by kernel_rfl) (by kernel_rfl) (by kernel_rfl) (by kernel_rfl) rfl (icells_len _) hlJ_54_0 hcJ_54_0 hmJ_54_0 rfl (srcH (cs := [.int .i64 7]) (el := 3) (by kernel_rfl) (hs_78.pt_at (i := 2) rfl) rfl rfl (List.all_eq_true.1 (by kernel_rfl))) (by have := hbdJ_54_0; omega) (icells_app XJ_54_0 ([7])) (by simp) rfl (fun g_79 cap_80 pad_81 w_82 hs_83 hl_84 hc_85 hm_86 => ?_)
            have hs_83 : SH U w w_82 [pt g_4 #[.bool (r % 2 == 1), .bool (r / 2 % 2 == 1), .bool (r / 4 % 2 == 1), .bool true, .bool (r / 16 % 2 == 1)] 80, pt g_76 #[.int .i64 7] 3, pt g_79 ⟨icells (XJ_54_0 ++ [7]) ++ pad_81⟩ 3] := hs_83
            refine SL.v (.slice (some ⟨g_79, 0, none⟩) ((XJ_54_0 ++ [7]).length) cap_80) ?_
            refine SL.nil ?_
            exact ⟨XJ_54_0 ++ [7], g_79, cap_80, pad_81, rfl, hs_83.pick [0, 1] rfl, hl_84, hc_85, hm_86, (Nat.le_trans (show (XJ_54_0 ++ [7]).length ≤ 5 by rw [List.length_append]; exact Nat.add_le_add hbdJ_54_0 (Nat.le_refl _)) (by decide)), (by kernel_rfl), (by kernel_rfl), (by kernel_rfl)⟩
          · rw [hb_75]
            rw [hb_75] at hs_69
            refine CW.cond_false (by kernel_rfl) ?_
            refine CW.skip ?_
            exact ⟨XJ_54_0, gJ_54_0, capJ_54_0, padJ_54_0, rfl, hs_69.pick [0, 0] rfl, hlJ_54_0, hcJ_54_0, hmJ_54_0, (Nat.le_trans hbdJ_54_0 (by decide)), (by kernel_rfl), (by kernel_rfl), (by kernel_rfl)⟩
        · rintro e_87 w_88 ⟨XJ_74_0, gJ_74_0, capJ_74_0, padJ_74_0, hXJ_74_0, hs_89, hlJ_74_0, hcJ_74_0, hmJ_74_0, hbdJ_74_0, hv_91, hv_92, hv_93⟩
          obtain ⟨e_90, rfl⟩ : ∃ e_90, e_87 = put1 (put1 (put1 e_90 2 (.slice none 0 0)) 3 (.pointer (some ⟨g_4, 0, none⟩))) 4 (.slice (some ⟨gJ_74_0, 0, none⟩) XJ_74_0.length capJ_74_0) := ⟨e_87, (put_self hv_93).trans (congrArg (fun z => put1 z 4 (.slice (some ⟨gJ_74_0, 0, none⟩) XJ_74_0.length capJ_74_0)) ((put_self hv_92).trans (congrArg (fun z => put1 z 3 (.pointer (some ⟨g_4, 0, none⟩))) (put_self hv_91))))⟩
          clear hv_91 hv_92 hv_93
          refine CW.seq ?_
          refine CW.seq ?_
          refine CW.region ?_
          refine SL.v (.pointer (some ⟨g_4, 4, none⟩)) ?_
          refine SL.load (g := g_4) (off := 4) (v := .bool (r / 16 % 2 == 1)) rfl rfl rfl (by kernel_rfl) (hs_89.pt_at (i := 0) rfl) (by kernel_rfl) ?_
          refine SL.nil ?_
          refine CW.mid (fun e9 w9 => ∃ (XJ_94_0 : List Int) (gJ_94_0 capJ_94_0 : Nat) (padJ_94_0 : List Value), XJ_94_0 = (bif (r / 16 % 2 == 1) then XJ_74_0 ++ [8] else XJ_74_0) ∧ SH U w w9 [pt g_4 #[.bool (r % 2 == 1), .bool (r / 2 % 2 == 1), .bool (r / 4 % 2 == 1), .bool (r / 8 % 2 == 1), .bool (r / 16 % 2 == 1)] 80, pt gJ_94_0 ⟨icells XJ_94_0 ++ padJ_94_0⟩ 3] ∧ (icells XJ_94_0 ++ padJ_94_0).length = capJ_94_0 * 1 ∧ XJ_94_0.length ≤ capJ_94_0 ∧ capJ_94_0 ≤ maxLen ∧ XJ_94_0.length ≤ 6 ∧ e9 2 = .slice none 0 0 ∧ e9 4 = .slice (some ⟨gJ_94_0, 0, none⟩) XJ_94_0.length capJ_94_0) ?_ ?_
          · skip
            rcases Bool.eq_false_or_eq_true (r / 16 % 2 == 1) with hb_95 | hb_95
            · rw [hb_95]
              rw [hb_95] at hs_89
              refine CW.cond_true (by kernel_rfl) ?_
              refine CW.region ?_
              refine SL.v (.slice (some ⟨gJ_74_0, 0, none⟩) XJ_74_0.length capJ_74_0) ?_
              refine SL.newH (mk := fun g => .slice (some ⟨g, 0, none⟩) 1 1) (C := #[.int .i64 8]) (T := 3) hs_89 rfl rfl (by kernel_rfl) (fun g_96 w_97 hs_98 => ?_)
              have hs_98 : SH U w w_97 [pt g_4 #[.bool (r % 2 == 1), .bool (r / 2 % 2 == 1), .bool (r / 4 % 2 == 1), .bool (r / 8 % 2 == 1), .bool true] 80, pt gJ_74_0 ⟨icells XJ_74_0 ++ padJ_74_0⟩ 3, pt g_96 #[.int .i64 8] 3] := hs_98
              refine SL.appH (z := .int .i64 0) (size := 1) (bytes := 8) (el := 3) (m := 1) (news := [.int .i64 8]) (i := 1) (g := gJ_74_0) (k := XJ_74_0.length) (cap := capJ_74_0) (xs := icells XJ_74_0) (pad := padJ_74_0) (xs' := icells (XJ_74_0 ++ [8])) (k' := (XJ_74_0 ++ [8]).length) (L' := [pt g_4 #[.bool (r % 2 == 1), .bool (r / 2 % 2 == 1), .bool (r / 4 % 2 == 1), .bool (r / 8 % 2 == 1), .bool true] 80, pt g_96 #[.int .i64 8] 3]) hs_98 rfl rfl rfl (by kernel_rfl) (by kernel_rfl) (by kernel_rfl) (by kernel_rfl) (by kernel_rfl) (by kernel_rfl) rfl (icells_len _) hlJ_74_0 hcJ_74_0 hmJ_74_0 rfl (srcH (cs := [.int .i64 8]) (el := 3) (by kernel_rfl) (hs_98.pt_at (i := 2) rfl) rfl rfl (List.all_eq_true.1 (by kernel_rfl))) (by have := hbdJ_74_0; omega) (icells_app XJ_74_0 ([8])) (by simp) rfl (fun g_99 cap_100 pad_101 w_102 hs_103 hl_104 hc_105 hm_106 => ?_)
              have hs_103 : SH U w w_102 [pt g_4 #[.bool (r % 2 == 1), .bool (r / 2 % 2 == 1), .bool (r / 4 % 2 == 1), .bool (r / 8 % 2 == 1), .bool true] 80, pt g_96 #[.int .i64 8] 3, pt g_99 ⟨icells (XJ_74_0 ++ [8]) ++ pad_101⟩ 3] := hs_103
              refine SL.v (.slice (some ⟨g_99, 0, none⟩) ((XJ_74_0 ++ [8]).length) cap_100) ?_
              refine SL.nil ?_
              exact ⟨XJ_74_0 ++ [8], g_99, cap_100, pad_101, rfl, hs_103.pick [0, 1] rfl, hl_104, hc_105, hm_106, (Nat.le_trans (show (XJ_74_0 ++ [8]).length ≤ 6 by rw [List.length_append]; exact Nat.add_le_add hbdJ_74_0 (Nat.le_refl _)) (by decide)), (by kernel_rfl), (by kernel_rfl)⟩
            · rw [hb_95]
              rw [hb_95] at hs_89
              refine CW.cond_false (by kernel_rfl) ?_
              refine CW.skip ?_
              exact ⟨XJ_74_0, gJ_74_0, capJ_74_0, padJ_74_0, rfl, hs_89.pick [0, 0] rfl, hlJ_74_0, hcJ_74_0, hmJ_74_0, (Nat.le_trans hbdJ_74_0 (by decide)), (by kernel_rfl), (by kernel_rfl)⟩
          · rintro e_107 w_108 ⟨XJ_94_0, gJ_94_0, capJ_94_0, padJ_94_0, hXJ_94_0, hs_109, hlJ_94_0, hcJ_94_0, hmJ_94_0, hbdJ_94_0, hv_111, hv_112⟩
            obtain ⟨e_110, rfl⟩ : ∃ e_110, e_107 = put1 (put1 e_110 2 (.slice none 0 0)) 4 (.slice (some ⟨gJ_94_0, 0, none⟩) XJ_94_0.length capJ_94_0) := ⟨e_107, (put_self hv_112).trans (congrArg (fun z => put1 z 4 (.slice (some ⟨gJ_94_0, 0, none⟩) XJ_94_0.length capJ_94_0)) (put_self hv_111))⟩
            clear hv_111 hv_112
            refine CW.seq ?_
            refine CW.region ?_
            refine SL.v (.slice (some ⟨gJ_94_0, 0, none⟩) XJ_94_0.length capJ_94_0) ?_
            refine SL.v (.slice (some ⟨gJ_94_0, 0, none⟩) XJ_94_0.length capJ_94_0) ?_
            refine SL.nil ?_
            refine CW.ret ?_
            repeat with_reducible first | refine PThen.ret ?_ | refine PBlock.ret ?_
            refine PRet.tmp (t := 2) (v := .slice (some ⟨gJ_94_0, 0, none⟩) XJ_94_0.length capJ_94_0) rfl rfl (by kernel_rfl) ?_
            have hX : XJ_94_0 = rpar r := by
              rw [hXJ_94_0, hXJ_74_0, hXJ_54_0, hXJ_34_0, hXJ_14_0]
              unfold rpar rparL; cases (r % 2 == 1) <;> cases (r / 2 % 2 == 1) <;> cases (r / 4 % 2 == 1) <;> cases (r / 8 % 2 == 1) <;> cases (r / 16 % 2 == 1) <;> rfl
            rw [hX] at hlJ_94_0 hcJ_94_0
            have hs9 := hs_109.pick [1] rfl
            rw [hX] at hs9
            rw [hX]
            exact ⟨_, _, rfl, ⟨gJ_94_0, capJ_94_0, padJ_94_0, rfl, rfl, hlJ_94_0, hcJ_94_0, hmJ_94_0⟩, hs9⟩
/-- The numbers of a setting. -/
def settL (c : Cor) (id : ByteArray) : List Int :=
  if id = ⟨#[109]⟩ then rpar c.clean.rend else
  if id = ⟨#[114]⟩ then [c.clean.mt + 1, c.clean.mb] else
  if id = ⟨#[115]⟩ then [c.clean.ml + 1, c.clean.mr] else
  if id = ⟨#[34, 113]⟩ then [flagZ c.clean.kept] else
  if id = ⟨#[34, 112]⟩ then [60 + c.clean.level, flagZ (!c.clean.eight)] else
  if id = ⟨#[42, 120]⟩ then [2 - flagZ c.clean.stream] else
  if id = ⟨#[116]⟩ then [c.clean.pb] else
  if id = ⟨#[36, 124]⟩ then [c.clean.pr] else
  if id = ⟨#[36, 126]⟩ then [c.clean.status] else
  if id = ⟨#[36, 125]⟩ then [flagZ c.clean.below] else
  []
theorem settL_0 (c : Cor) : settL c ⟨#[109]⟩ = rpar c.clean.rend := by
  unfold settL
  rw [if_pos rfl]
theorem settL_1 (c : Cor) : settL c ⟨#[114]⟩ = [c.clean.mt + 1, c.clean.mb] := by
  unfold settL
  rw [if_neg (by decide)]; rw [if_pos rfl]
theorem settL_2 (c : Cor) : settL c ⟨#[115]⟩ = [c.clean.ml + 1, c.clean.mr] := by
  unfold settL
  rw [if_neg (by decide)]; rw [if_neg (by decide)]; rw [if_pos rfl]
theorem settL_3 (c : Cor) : settL c ⟨#[34, 113]⟩ = [flagZ c.clean.kept] := by
  unfold settL
  rw [if_neg (by decide)]; rw [if_neg (by decide)]; rw [if_neg (by decide)]; rw [if_pos rfl]
theorem settL_4 (c : Cor) : settL c ⟨#[34, 112]⟩ = [60 + c.clean.level, flagZ (!c.clean.eight)] := by
  unfold settL
  rw [if_neg (by decide)]; rw [if_neg (by decide)]; rw [if_neg (by decide)]; rw [if_neg (by decide)]; rw [if_pos rfl]
theorem settL_5 (c : Cor) : settL c ⟨#[42, 120]⟩ = [2 - flagZ c.clean.stream] := by
  unfold settL
  rw [if_neg (by decide)]; rw [if_neg (by decide)]; rw [if_neg (by decide)]; rw [if_neg (by decide)]; rw [if_neg (by decide)]; rw [if_pos rfl]
theorem settL_6 (c : Cor) : settL c ⟨#[116]⟩ = [c.clean.pb] := by
  unfold settL
  rw [if_neg (by decide)]; rw [if_neg (by decide)]; rw [if_neg (by decide)]; rw [if_neg (by decide)]; rw [if_neg (by decide)]; rw [if_neg (by decide)]; rw [if_pos rfl]
theorem settL_7 (c : Cor) : settL c ⟨#[36, 124]⟩ = [c.clean.pr] := by
  unfold settL
  rw [if_neg (by decide)]; rw [if_neg (by decide)]; rw [if_neg (by decide)]; rw [if_neg (by decide)]; rw [if_neg (by decide)]; rw [if_neg (by decide)]; rw [if_neg (by decide)]; rw [if_pos rfl]
theorem settL_8 (c : Cor) : settL c ⟨#[36, 126]⟩ = [c.clean.status] := by
  unfold settL
  rw [if_neg (by decide)]; rw [if_neg (by decide)]; rw [if_neg (by decide)]; rw [if_neg (by decide)]; rw [if_neg (by decide)]; rw [if_neg (by decide)]; rw [if_neg (by decide)]; rw [if_neg (by decide)]; rw [if_pos rfl]
theorem settL_9 (c : Cor) : settL c ⟨#[36, 125]⟩ = [flagZ c.clean.below] := by
  unfold settL
  rw [if_neg (by decide)]; rw [if_neg (by decide)]; rw [if_neg (by decide)]; rw [if_neg (by decide)]; rw [if_neg (by decide)]; rw [if_neg (by decide)]; rw [if_neg (by decide)]; rw [if_neg (by decide)]; rw [if_neg (by decide)]; rw [if_pos rfl]
theorem settL_no (c : Cor) {id : ByteArray} (h0 : seqB id ⟨#[109]⟩ = false) (h1 : seqB id ⟨#[114]⟩ = false) (h2 : seqB id ⟨#[115]⟩ = false) (h3 : seqB id ⟨#[34, 113]⟩ = false) (h4 : seqB id ⟨#[34, 112]⟩ = false) (h5 : seqB id ⟨#[42, 120]⟩ = false) (h6 : seqB id ⟨#[116]⟩ = false) (h7 : seqB id ⟨#[36, 124]⟩ = false) (h8 : seqB id ⟨#[36, 126]⟩ = false) (h9 : seqB id ⟨#[36, 125]⟩ = false) : settL c id = [] := by
  unfold settL
  rw [if_neg (seqB_ne h0), if_neg (seqB_ne h1), if_neg (seqB_ne h2), if_neg (seqB_ne h3), if_neg (seqB_ne h4), if_neg (seqB_ne h5), if_neg (seqB_ne h6), if_neg (seqB_ne h7), if_neg (seqB_ne h8), if_neg (seqB_ne h9)]
/-- The text of a setting. -/
def setS (c : Cor) (id : ByteArray) : ByteArray := if settL c id = [] then ⟨#[]⟩ else strOf (fmtR (settL c id)) ++ id
def setK (c : Cor) (id : ByteArray) : Bool := !(settL c id).isEmpty
theorem rpar_nz (r : Int) : ((((rpar r).length : Nat) : Int) == 0) = false := by unfold rpar rparL; simp; omega
theorem meet_lt2 (aT al ab ar bT bl bb br : Int) : ((meetZ aT al ab ar bT bl bb br).1 = 0 ∧ (meetZ aT al ab ar bT bl bb br).2.1 = 0) ∨ ((meetZ aT al ab ar bT bl bb br).1 < (meetZ aT al ab ar bT bl bb br).2.2.1 ∧ (meetZ aT al ab ar bT bl bb br).2.1 < (meetZ aT al ab ar bT bl bb br).2.2.2) := by
  unfold meetZ
  split
  · exact .inl ⟨rfl, rfl⟩
  · rename_i h
    simp only [Bool.not_eq_true, Bool.or_eq_false_iff] at h
    exact .inr (empty_f h.2)
theorem inner_lt {pb pr mt ml mb mr : Int} (h1 : I6 pb) (h2 : I6 pr) (k : I6 mt ∧ I6 ml ∧ I6 mb ∧ I6 mr) : (innerZ pb pr mt ml mb mr).1 < 9223372036854775807 ∧ (innerZ pb pr mt ml mb mr).2.1 < 9223372036854775807 := by
  have hw := whole_in h1 h2
  have hm := meet_in (aT := 0) (al := 0) (ab := max 0 (max 1 pb)) (ar := max 0 (max 1 pr)) (by unfold I6 at *; omega) k
  have hl := meet_lt2 0 0 (max 0 (max 1 pb)) (max 0 (max 1 pr)) mt ml mb mr
  unfold innerZ
  split
  · unfold wholeZ; simp only; omega
  · unfold I6 at hm; omega
theorem rpar_ne (r : Int) : rpar r ≠ [] := by unfold rpar rparL; simp
theorem setS_of {c : Cor} {id : ByteArray} {l : List Int} (h : settL c id = l) (hl : l ≠ []) : setS c id = strOf (fmtR l) ++ id ∧ setK c id = true := by
  unfold setS setK
  rw [h]
  exact ⟨if_neg hl, by cases l with | nil => exact absurd rfl hl | cons a b => rfl⟩
theorem setS_no {c : Cor} {id : ByteArray} (h : settL c id = []) : setS c id = ⟨#[]⟩ ∧ setK c id = false := by
  unfold setS setK
  rw [h]
  exact ⟨if_pos rfl, rfl⟩
theorem fmt_sz (l : List Int) (n : Nat) (h : l.length ≤ n) : (strOf (fmtR l)).size ≤ 6 * n := by
  rw [strOf_sz]
  have := fmtGo_len (l.take 30)
  have h2 : (l.take 30).length ≤ l.length := by simp; omega
  unfold fmtR
  omega
theorem flag_in (b : Bool) : 0 ≤ flagZ b ∧ flagZ b ≤ 1 := by cases b <;> decide
theorem flag_not (b : Bool) : 1 + flagZ (!b) = 2 - flagZ b := by cases b <;> rfl
theorem clean_nice {c : Cor} (hok : c.Ok) : (0 ≤ c.clean.rend ∧ c.clean.rend < 32) ∧ (1 ≤ c.clean.level ∧ c.clean.level ≤ 5) ∧ (c.clean.mt < 9223372036854775807 ∧ c.clean.ml < 9223372036854775807) ∧ (-9223372036854775808 ≤ c.clean.mt ∧ -9223372036854775808 ≤ c.clean.ml) ∧ (∀ b, 0 ≤ flagZ b ∧ flagZ b ≤ 1) := by
  have hr := hok.rend
  have h5 := clipz_in c.level 1 5 (by decide)
  have hin := inner_lt hok.p.2.2.1 hok.p.2.2.2 hok.m
  refine ⟨?_, h5, ?_, ?_, fun b => by cases b <;> decide⟩
  · show 0 ≤ c.rend % 32 ∧ c.rend % 32 < 32; omega
  · exact ⟨hin.1, hin.2⟩
  · exact ⟨hok.clean.m.1.1, hok.clean.m.2.1.1⟩
end Go.Proofs.YtfkecgkfcldffaaDoor
