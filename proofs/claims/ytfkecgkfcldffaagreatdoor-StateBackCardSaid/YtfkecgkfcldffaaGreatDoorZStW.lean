/-
  A cursor that is brought back by the program: not ten fields (gen_stw.py).
-/
import Derived.Test.YtfkecgkfcldffaaGreatDoorZStU
namespace Go.Proofs.YtfkecgkfcldffaaGreatDoor
set_option linter.unusedSimpArgs false
set_option linter.unusedVariables false
open Go.RowKit
set_option linter.unusedVariables false

set_option maxRecDepth 100000 in
set_option maxHeartbeats 4000000 in
theorem setc_no (c : Cor) (l : List Int) (w : World) (hok : c.Ok) (hM : MaxOkS w) (hl : ∀ c ∈ l, 0 ≤ c ∧ c < 256) (hn : l.length ≤ 1000) (hx : (splitSemi l).length ≠ 10) :
    Calls Tryz.prog 10 #[.agg (cvA c), .string (strOf l)] w fun e w' => e = .returned (.tuple #[.agg (cvA c.clean), .int .i64 3]) ∧ Gr w w' := by
  have hno : ((((splitSemi l).length : Nat) : Int) == 10) = false := by rw [beq_eq_false_iff_ne]; omega
  refine calls_sx (n := 126) (args := [.agg (cvA c), .string (strOf l)]) Tryz.func10 rfl rfl rfl ?_
  have hs0 := SH.none w
  refine CW.seq ?_
  refine CW.region ?_
  refine SL.newH (mk := fun g => .pointer (some ⟨g, 0, none⟩)) (C := (cvA c)) (T := 45) hs0 rfl rfl (by kernel_rfl) (fun g_1 w_2 hs_3 => ?_)
  have hs_3 : SH [] w w_2 [pt g_1 (cvA c) 45] := hs_3
  refine SL.newH (mk := fun g => .pointer (some ⟨g, 0, none⟩)) (C := czA) (T := 45) hs_3 rfl rfl (by kernel_rfl) (fun g_4 w_5 hs_6 => ?_)
  have hs_6 : SH [] w w_5 [pt g_1 (cvA c) 45, pt g_4 czA 45] := hs_6
  refine SL.v (.int .i64 0) ?_
  refine SL.nil ?_
  refine CW.seq ?_
  refine CW.region ?_
  refine SL.load (g := g_1) (off := 0) (v := .agg (cvA c)) rfl rfl rfl (by kernel_rfl) (hs_6.pt_at (i := 0) rfl) (by kernel_rfl) ?_
  refine SL.call (f := 20) (args := #[.agg (cvA c)]) (w1 := w_5) rfl rfl (by kernel_rfl) (clean_any c w_5 hok) ?_
  rintro x w_7 ⟨rfl, hc_8⟩
  refine ⟨.agg (cvA c.clean), rfl, ?_⟩
  have hs_9 := hs_6.grow hc_8
  refine SL.storeH (i := 0) (g := g_1) (off := 0) (v := .agg (cvA c.clean)) (L' := [pt g_1 (cvA c.clean) 45, pt g_4 czA 45]) hs_9 rfl rfl rfl (by kernel_rfl) (by kernel_rfl) rfl (by kernel_rfl) (by kernel_rfl) rfl (by kernel_rfl) rfl (fun w_10 hs_11 => ?_)
  refine SL.nil ?_
  refine CW.seq ?_
  refine CW.region ?_
  refine SL.v (.string (strOf l)) ?_
  refine SL.callH (f := 28) (args := #[.string (strOf l), .string ⟨#[59]⟩]) (Pre := []) (Rest := [pt g_1 (cvA c.clean) 45, pt g_4 czA 45]) [] hs_11 rfl rfl (by kernel_rfl) rfl (split_semi l w_10 hl (by omega) (hM.gr hs_11.gr)) ?_
  rintro v_ Q_ w_13 ⟨g_12, rfl, rfl⟩ hs_15
  have hs_15 : SH [] w w_13 [pt g_12 ((splitSemi l).map fun q => Value.string (strOf q)).toArray 9, pt g_1 (cvA c.clean) 45, pt g_4 czA 45] := hs_15
  refine SL.v (.agg #[.slice (some ⟨g_12, 0, none⟩) ((splitSemi l).length) ((splitSemi l).length), .bool false]) ?_
  refine SL.newH (mk := fun g => .pointer (some ⟨g, 0, none⟩)) (C := #[.slice none 0 0, .bool false]) (T := 78) hs_15 rfl rfl (by kernel_rfl) (fun g_16 w_17 hs_18 => ?_)
  have hs_18 : SH [] w w_17 [pt g_12 ((splitSemi l).map fun q => Value.string (strOf q)).toArray 9, pt g_1 (cvA c.clean) 45, pt g_4 czA 45, pt g_16 #[.slice none 0 0, .bool false] 78] := hs_18
  refine SL.storeH (i := 3) (g := g_16) (off := 0) (v := .agg #[.slice (some ⟨g_12, 0, none⟩) ((splitSemi l).length) ((splitSemi l).length), .bool false]) (L' := [pt g_12 ((splitSemi l).map fun q => Value.string (strOf q)).toArray 9, pt g_1 (cvA c.clean) 45, pt g_4 czA 45, pt g_16 #[.slice (some ⟨g_12, 0, none⟩) ((splitSemi l).length) ((splitSemi l).length), .bool false] 78]) hs_18 rfl rfl rfl (by kernel_rfl) (by kernel_rfl) rfl (by kernel_rfl) (by kernel_rfl) rfl (by kernel_rfl) rfl (fun w_19 hs_20 => ?_)
  refine SL.nil ?_
  refine CW.seq ?_
  refine CW.seq ?_
  refine CW.region ?_
  refine SL.v (.pointer (some ⟨g_16, 0, none⟩)) ?_
  refine SL.load (g := g_16) (off := 0) (v := .slice (some ⟨g_12, 0, none⟩) ((splitSemi l).length) ((splitSemi l).length)) rfl rfl rfl (by kernel_rfl) (hs_20.pt_at (i := 3) rfl) (by kernel_rfl) ?_
  refine SL.val (v := .int .i64 (((splitSemi l).length : Nat) : Int)) (w' := w_19) rfl rfl (by kernel_rfl) ?_
  refine SL.v (.bool (!((((splitSemi l).length : Nat) : Int) == 10))) ?_
  refine SL.nil ?_
  have hb_21 : ((((splitSemi l).length : Nat) : Int) == 10) = false := hno
  rw [hb_21]
  refine CW.cond_true (by kernel_rfl) ?_
  refine CW.seq ?_
  refine CW.region ?_
  refine SL.load (g := g_1) (off := 0) (v := .agg (cvA c.clean)) rfl rfl rfl (by kernel_rfl) (hs_20.pt_at (i := 1) rfl) (by kernel_rfl) ?_
  refine SL.storeH (i := 2) (g := g_4) (off := 0) (v := .agg (cvA c.clean)) (L' := [pt g_12 ((splitSemi l).map fun q => Value.string (strOf q)).toArray 9, pt g_1 (cvA c.clean) 45, pt g_4 (cvA c.clean) 45, pt g_16 #[.slice (some ⟨g_12, 0, none⟩) ((splitSemi l).length) ((splitSemi l).length), .bool false] 78]) hs_20 rfl rfl rfl (by kernel_rfl) (by kernel_rfl) rfl (by kernel_rfl) (by kernel_rfl) rfl (by kernel_rfl) rfl (fun w_22 hs_23 => ?_)
  refine SL.v (.int .i64 3) ?_
  refine SL.nil ?_
  refine CW.ret ?_
  repeat with_reducible first | refine PThen.ret ?_ | refine PBlock.ret ?_
  refine PRet.cellTmp (t := 4) (u := 5) (ty := 45) (g := g_4) (v := .agg (cvA c.clean)) (v' := .int .i64 3) rfl rfl rfl (by kernel_rfl) (hs_23.pt_at (i := 2) rfl) (by kernel_rfl) (by kernel_rfl) ?_
  exact ⟨rfl, hs_23.gr⟩
end Go.Proofs.YtfkecgkfcldffaaGreatDoor
