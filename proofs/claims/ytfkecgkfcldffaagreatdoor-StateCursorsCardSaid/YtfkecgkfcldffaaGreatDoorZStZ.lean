/-
 A cursor that is brought back by the program: not ten fields (gen_stw.py).
 The fields of a cursor that is brought back, read by the document (gen_stx.py).
 A text's fields, by the document (gen_sty.py).
 A cursor that is brought back by the document, walked (gen_stz.py).
-/
import Derived.Test.YtfkecgkfcldffaaGreatDoorZStU
namespace Go.Proofs.YtfkecgkfcldffaaGreatDoor
set_option linter.unusedSimpArgs false
set_option linter.unusedVariables false
open Go.RowKit
set_option linter.unusedVariables false

set_option maxRecDepth 100000 in
set_option maxHeartbeats 4000000 in
theorem setc_no (c : Cor) (l : List Int) (w : World) (hok : c.Ok) (hM : MaxOkS w) (hl : ∀ c ∈ l, 0 ≤ c ∧ c < 256) (hn : l.length ≤ 1000) (hx : (splitSemi l).length ≠ 10) :
  Calls Tryz.prog 10 #[.agg (cvA c), .string (strOf l)] w fun e w' => e = .returned (.tuple #[.agg (cvA c.clean), iv 3]) ∧ Gr w w' := by
 have hno : ((((splitSemi l).length : Nat) : Int) == 10) = false := by rw [beq_eq_false_iff_ne]; omega
 refine calls_sx (n := 126) (args := [.agg (cvA c), .string (strOf l)]) Tryz.func10 rfl rfl rfl ?_
 have hs0 := SH.none w
 refine CW.seq ?_
 refine CW.region ?_
 refine SL.newH (mk := fun g => pv g 0) (C := (cvA c)) (T := 45) hs0 rfl rfl (by kernel_rfl) (fun g_1 w_2 hs_3 => ?_)
 have hs_3 : SH [] w w_2 [pt g_1 (cvA c) 45] := hs_3
 refine SL.newH (mk := fun g => pv g 0) (C := czA) (T := 45) hs_3 rfl rfl (by kernel_rfl) (fun g_4 w_5 hs_6 => ?_)
 have hs_6 : SH [] w w_5 [pt g_1 (cvA c) 45, pt g_4 czA 45] := hs_6
 refine SL.v (iv 0) ?_
 refine SL.nil ?_
 refine CW.seq ?_
 refine CW.region ?_
 refine SL.load (g := g_1) (off := 0) (v := .agg (cvA c)) rfl rfl rfl (by kernel_rfl) (hs_6.pt_at (i := 0) rfl) (by kernel_rfl) ?_
 refine SL.call (f := 20) (args := #[.agg (cvA c)]) (w1 := w_5) rfl rfl (by kernel_rfl) (clean_any c w_5 hok) ?_
 rintro x w_7 ⟨rfl, hc_8⟩
 refine ⟨_, rfl, ?_⟩
 have hs_9 := hs_6.grow hc_8
 refine SL.storeH (i := 0) (g := g_1) (off := 0) (v := .agg (cvA c.clean)) (L' := [pt g_1 (cvA c.clean) 45, pt g_4 czA 45]) hs_9 rfl rfl rfl (by kernel_rfl) (by kernel_rfl) rfl (by kernel_rfl) (by kernel_rfl) rfl (by kernel_rfl) rfl (fun w_10 hs_11 => ?_)
 refine SL.nil ?_
 refine CW.seq ?_
 refine CW.region ?_
 refine SL.v (.string (strOf l)) ?_
 refine SL.callH (f := 28) (args := #[.string (strOf l), .string ⟨#[59]⟩]) (Pre := []) (Rest := [pt g_1 (cvA c.clean) 45, pt g_4 czA 45]) [] hs_11 rfl rfl (by kernel_rfl) rfl (split_semi l w_10 hl (by omega) (hM.gr hs_11.gr)) ?_
 rintro v_ Q_ w_13 ⟨g_12, rfl, rfl⟩ hs_15
 have hs_15 : SH [] w w_13 [pt g_12 ((splitSemi l).map fun q => Value.string (strOf q)).toArray 9, pt g_1 (cvA c.clean) 45, pt g_4 czA 45] := hs_15
 refine SL.v (.agg #[sv g_12 0 ((splitSemi l).length) ((splitSemi l).length), .bool false]) ?_
 refine SL.newH (mk := fun g => pv g 0) (C := #[.slice none 0 0, .bool false]) (T := 78) hs_15 rfl rfl (by kernel_rfl) (fun g_16 w_17 hs_18 => ?_)
 have hs_18 : SH [] w w_17 [pt g_12 ((splitSemi l).map fun q => Value.string (strOf q)).toArray 9, pt g_1 (cvA c.clean) 45, pt g_4 czA 45, pt g_16 #[.slice none 0 0, .bool false] 78] := hs_18
 refine SL.storeH (i := 3) (g := g_16) (off := 0) (v := .agg #[sv g_12 0 ((splitSemi l).length) ((splitSemi l).length), .bool false]) (L' := [pt g_12 ((splitSemi l).map fun q => Value.string (strOf q)).toArray 9, pt g_1 (cvA c.clean) 45, pt g_4 czA 45, pt g_16 #[sv g_12 0 ((splitSemi l).length) ((splitSemi l).length), .bool false] 78]) hs_18 rfl rfl rfl (by kernel_rfl) (by kernel_rfl) rfl (by kernel_rfl) (by kernel_rfl) rfl (by kernel_rfl) rfl (fun w_19 hs_20 => ?_)
 refine SL.nil ?_
 refine CW.seq ?_
 refine CW.seq ?_
 refine CW.region ?_
 refine SL.v (pv g_16 0) ?_
 refine SL.load (g := g_16) (off := 0) (v := sv g_12 0 ((splitSemi l).length) ((splitSemi l).length)) rfl rfl rfl (by kernel_rfl) (hs_20.pt_at (i := 3) rfl) (by kernel_rfl) ?_
 refine SL.val (v := iv (((splitSemi l).length : Nat) : Int)) (w' := w_19) rfl rfl (by kernel_rfl) ?_
 refine SL.v (.bool (!((((splitSemi l).length : Nat) : Int) == 10))) ?_
 refine SL.nil ?_
 have hb_21 : ((((splitSemi l).length : Nat) : Int) == 10) = false := hno
 rw [hb_21]
 refine CW.cond_true (by kernel_rfl) ?_
 refine CW.seq ?_
 refine CW.region ?_
 refine SL.load (g := g_1) (off := 0) (v := .agg (cvA c.clean)) rfl rfl rfl (by kernel_rfl) (hs_20.pt_at (i := 1) rfl) (by kernel_rfl) ?_
 refine SL.storeH (i := 2) (g := g_4) (off := 0) (v := .agg (cvA c.clean)) (L' := [pt g_12 ((splitSemi l).map fun q => Value.string (strOf q)).toArray 9, pt g_1 (cvA c.clean) 45, pt g_4 (cvA c.clean) 45, pt g_16 #[sv g_12 0 ((splitSemi l).length) ((splitSemi l).length), .bool false] 78]) hs_20 rfl rfl rfl (by kernel_rfl) (by kernel_rfl) rfl (by kernel_rfl) (by kernel_rfl) rfl (by kernel_rfl) rfl (fun w_22 hs_23 => ?_)
 refine SL.v (iv 3) ?_
 refine SL.nil ?_
 refine CW.ret ?_
 repeat with_reducible first | refine PThen.ret ?_ | refine PBlock.ret ?_
 refine PRet.cellTmp (t := 4) (u := 5) (ty := 45) (g := g_4) (v := .agg (cvA c.clean)) (v' := iv 3) rfl rfl rfl (by kernel_rfl) (hs_23.pt_at (i := 2) rfl) (by kernel_rfl) (by kernel_rfl) ?_
 exact ⟨rfl, hs_23.gr⟩
end Go.Proofs.YtfkecgkfcldffaaGreatDoor

namespace Go.Proofs.YtfkecgkfcldffaaGreatDoor
set_option linter.unusedSimpArgs false
set_option linter.unusedVariables false
open Go.RowKit
set_option linter.unusedVariables false

/-- A field as the document reads it. -/
def fewV (l : List Int) (m : Int) : Int := bif bitK l m then bitV l m else -1
def numM (l : List Int) : Int := bif numK l then numV l else -1
set_option maxRecDepth 100000 in
theorem few_any (l : List Int) (m : Int) (w : World) (hl : ∀ c ∈ l, 0 ≤ c ∧ c < 256) (hm : 0 ≤ m ∧ m ≤ 100) (hn : l.length ≤ 100000) : Calls Tryz.prog 36 #[.string (strOf l), iv m] w fun e w' => e = .returned (iv (fewV l m)) ∧ Gr w w' := by
 have hl0 : 0 < l.length → 0 ≤ l.getD 0 0 ∧ l.getD 0 0 < 256 := fun h => getD_byte hl h
 refine calls_sx (n := 25) (args := [.string (strOf l), iv m]) Tryz.func36 rfl rfl rfl ?_
 have hs0 := SH.none w
 refine CW.seq ?_
 refine CW.region ?_
 refine SL.v (iv 0) ?_
 refine SL.nil ?_
 refine CW.seq ?_
 refine CW.seq ?_
 refine CW.region ?_
 refine SL.v (.string (strOf l)) ?_
 refine SL.val (v := iv ((l.length : Nat) : Int)) (w' := w) rfl rfl (run_slen rfl (by kernel_rfl) (by kernel_rfl) (strOf_sz _)) ?_
 refine SL.v (.bool (!(((l.length : Nat) : Int) == 1))) ?_
 refine SL.v (.bool (!(((l.length : Nat) : Int) == 1))) ?_
 rcases Bool.eq_false_or_eq_true (((l.length : Nat) : Int) == 1) with hb_1 | hb_1
 ·try rw [hb_1]
  have hqhb_1 : l.length = 1 := by have := (beq_iff_eq (a := ((l.length : Nat) : Int)) (b := 1)).1 hb_1; omega
  refine SL.go ?_
  refine SL.v (.string (strOf l)) ?_
  refine SL.go ?_
  refine SL.val (v := .int .u8 (l.getD 0 0)) (w' := w) rfl rfl (run_sidx (q := .i64) (I := 0) (l := l) (i := 0) rfl (by kernel_rfl) (by kernel_rfl) rfl (by kernel_rfl) hl (by omega)) ?_
  refine SL.go ?_
  refine SL.v (.bool (decide ((l.getD 0 0) < 64))) ?_
  refine SL.v (.bool (decide ((l.getD 0 0) < 64))) ?_
  refine SL.v (.bool (decide ((l.getD 0 0) < 64))) ?_
  rcases Bool.eq_false_or_eq_true (decide ((l.getD 0 0) < 64)) with hb_2 | hb_2
  ·try rw [hb_2]
   have hqhb_2 := of_decide_eq_true hb_2
   refine SL.no true ?_
   refine SL.no true ?_
   refine SL.no true ?_
   refine SL.no true ?_
   refine SL.no true ?_
   refine SL.no true ?_
   refine SL.v (.bool true) ?_
   refine SL.nil ?_
   refine CW.cond_true (by kernel_rfl) ?_
   refine CW.seq ?_
   refine CW.region ?_
   refine SL.v (iv (-1)) ?_
   refine SL.nil ?_
   refine CW.ret ?_
   repeat with_reducible first | refine PThen.ret ?_ | refine PBlock.ret ?_
   refine PRet.tmp (t := 4) (v := iv (-1)) rfl rfl (by kernel_rfl) ?_
   have hk : bitK l m = false := by unfold bitK; simp only [Bool.and_eq_true, decide_eq_true_eq, Bool.and_eq_false_iff, decide_eq_false_iff_not]; omega
   exact ⟨by unfold fewV bitV; rw [hk]; rfl, hs0.gr⟩
  ·try rw [hb_2]
   have hqhb_2 := of_decide_eq_false hb_2
   refine SL.go ?_
   refine SL.v (.string (strOf l)) ?_
   refine SL.go ?_
   refine SL.val (v := .int .u8 (l.getD 0 0)) (w' := w) rfl rfl (run_sidx (q := .i64) (I := 0) (l := l) (i := 0) rfl (by kernel_rfl) (by kernel_rfl) rfl (by kernel_rfl) hl (by omega)) ?_
   refine SL.go ?_
   refine SL.val (v := iv (l.getD 0 0)) (w' := w) rfl rfl (by have hw : IntKind.i64.wrap (l.getD 0 0) = l.getD 0 0 := IntWalk.i64_in _ (by omega); exact run_eqv (by kernel_rfl) (congrArg (fun z => Value.int .i64 z) hw)) ?_
   refine SL.go ?_
   refine SL.v (iv m) ?_
   refine SL.go ?_
   refine SL.val (v := iv (64 + m)) (w' := w) rfl rfl (by have hw : IntKind.i64.wrap (64 + m) = 64 + m := IntWalk.i64_in _ (by omega); exact run_eqv (by kernel_rfl) (congrArg (fun z => Value.int .i64 z) hw)) ?_
   refine SL.go ?_
   refine SL.v (.bool (decide ((64 + m) < (l.getD 0 0)))) ?_
   refine SL.v (.bool (decide ((64 + m) < (l.getD 0 0)))) ?_
   refine SL.nil ?_
   rcases Bool.eq_false_or_eq_true (decide ((64 + m) < (l.getD 0 0))) with hb_3 | hb_3
   ·try rw [hb_3]
    have hqhb_3 := of_decide_eq_true hb_3
    refine CW.cond_true (by kernel_rfl) ?_
    refine CW.seq ?_
    refine CW.region ?_
    refine SL.v (iv (-1)) ?_
    refine SL.nil ?_
    refine CW.ret ?_
    repeat with_reducible first | refine PThen.ret ?_ | refine PBlock.ret ?_
    refine PRet.tmp (t := 4) (v := iv (-1)) rfl rfl (by kernel_rfl) ?_
    have hk : bitK l m = false := by unfold bitK; simp only [Bool.and_eq_true, decide_eq_true_eq, Bool.and_eq_false_iff, decide_eq_false_iff_not]; omega
    exact ⟨by unfold fewV bitV; rw [hk]; rfl, hs0.gr⟩
   ·try rw [hb_3]
    have hqhb_3 := of_decide_eq_false hb_3
    refine CW.cond_false (by kernel_rfl) ?_
    refine CW.skip ?_
    refine CW.seq ?_
    refine CW.region ?_
    refine SL.v (.string (strOf l)) ?_
    refine SL.val (v := .int .u8 (l.getD 0 0)) (w' := w) rfl rfl (run_sidx (q := .i64) (I := 0) (l := l) (i := 0) rfl (by kernel_rfl) (by kernel_rfl) rfl (by kernel_rfl) hl (by omega)) ?_
    refine SL.val (v := iv (l.getD 0 0)) (w' := w) rfl rfl (by have hw : IntKind.i64.wrap (l.getD 0 0) = l.getD 0 0 := IntWalk.i64_in _ (by omega); exact run_eqv (by kernel_rfl) (congrArg (fun z => Value.int .i64 z) hw)) ?_
    refine SL.val (v := iv ((l.getD 0 0) - 64)) (w' := w) rfl rfl (by have hw : IntKind.i64.wrap ((l.getD 0 0) - 64) = (l.getD 0 0) - 64 := IntWalk.i64_in _ (by omega); exact run_eqv (by kernel_rfl) (congrArg (fun z => Value.int .i64 z) hw)) ?_
    refine SL.v (iv ((l.getD 0 0) - 64)) ?_
    refine SL.nil ?_
    refine CW.ret ?_
    repeat with_reducible first | refine PThen.ret ?_ | refine PBlock.ret ?_
    refine PRet.tmp (t := 4) (v := iv ((l.getD 0 0) - 64)) rfl rfl (by kernel_rfl) ?_
    have hk : bitK l m = true := by unfold bitK; simp only [Bool.and_eq_true, decide_eq_true_eq, Bool.and_eq_false_iff, decide_eq_false_iff_not]; omega
    exact ⟨by unfold fewV bitV; rw [hk]; rfl, hs0.gr⟩
 ·try rw [hb_1]
  have hqhb_1 : l.length ≠ 1 := by intro e; rw [e] at hb_1; simp at hb_1
  refine SL.no true ?_
  refine SL.no true ?_
  refine SL.no true ?_
  refine SL.v (.bool true) ?_
  refine SL.v (.bool true) ?_
  refine SL.no true ?_
  refine SL.no true ?_
  refine SL.no true ?_
  refine SL.no true ?_
  refine SL.no true ?_
  refine SL.no true ?_
  refine SL.v (.bool true) ?_
  refine SL.nil ?_
  refine CW.cond_true (by kernel_rfl) ?_
  refine CW.seq ?_
  refine CW.region ?_
  refine SL.v (iv (-1)) ?_
  refine SL.nil ?_
  refine CW.ret ?_
  repeat with_reducible first | refine PThen.ret ?_ | refine PBlock.ret ?_
  refine PRet.tmp (t := 4) (v := iv (-1)) rfl rfl (by kernel_rfl) ?_
  have hk : bitK l m = false := by unfold bitK; simp only [Bool.and_eq_true, decide_eq_true_eq, Bool.and_eq_false_iff, decide_eq_false_iff_not]; omega
  exact ⟨by unfold fewV bitV; rw [hk]; rfl, hs0.gr⟩
theorem rparse_1 (l : List Int) (x : Int) (w : World) (hl : ∀ c ∈ l, 0 ≤ c ∧ c < 256) (hn : l.length ≤ 300) (ha : l.all isAcc = true) (hx : numsR l = [x]) :
  Tr Tryz.prog 78 #[.string (strOf l)] w [] (fun v Q => ∃ g c pad, v = .tuple #[sv g 0 1 c, iv 0] ∧ Q = [pt g ⟨[iv x] ++ pad⟩ 3]) := fun fp hfp => by
 have h0 : fp = [] := hfp
 subst h0
 refine (nums_call hl (by omega) ha w).mono fun e w' hR => ?_
 obtain ⟨v, rfl, hown, hg⟩ := hR
 rw [hx] at hown
 obtain ⟨h1, ⟨_, h2⟩ | ⟨g, cap, cur, rfl, h3, h4, h5, h6, h7, h8⟩⟩ := hown
 ·cases h2
 ·have hcur : cur = ⟨icells [x] ++ cur.toList.drop 1⟩ := by
   apply Array.ext'
   show cur.toList = icells [x] ++ cur.toList.drop 1
   conv => rhs; rw [← h8]
   exact (List.take_append_drop _ _).symm
  rw [hcur] at h4
  exact ⟨_, _, [g], rfl, ⟨g, cap, cur.toList.drop 1, rfl, rfl⟩, HSt.mk1 ⟨rfl, h4⟩, hg.updU, fun k hk => .inr (by simp at hk; omega)⟩
set_option maxRecDepth 100000 in
theorem dnum_bad (l : List Int) (w : World) (hl : ∀ c ∈ l, 0 ≤ c ∧ c < 256) (hn : l.length ≤ 300) (ha : l.all isAcc = false) : Calls Tryz.prog 35 #[.string (strOf l)] w fun e w' => e = .returned (iv (-1)) ∧ Gr w w' := by
 refine calls_sx (n := 20) (args := [.string (strOf l)]) Tryz.func35 rfl rfl rfl ?_
 have hs0 := SH.none w
 refine CW.seq ?_
 refine CW.region ?_
 refine SL.v (iv 0) ?_
 refine SL.nil ?_
 refine CW.seq ?_
 refine CW.region ?_
 refine SL.v (.string (strOf l)) ?_
 refine SL.callH (f := 78) (args := #[.string (strOf l)]) (Pre := []) (Rest := []) [] hs0 rfl rfl (by kernel_rfl) rfl (rparse_no l w hl hn ha) ?_
 rintro v_ Q_ w_1 ⟨rfl, rfl⟩ hs_3
 have hs_3 : SH [] w w_1 [] := hs_3
 refine SL.v (.tuple #[.slice none 0 0, iv 3]) ?_
 refine SL.v (.slice none 0 0) ?_
 refine SL.v (iv 3) ?_
 refine SL.v (.slice none 0 0) ?_
 refine SL.v (iv 3) ?_
 refine SL.nil ?_
 refine CW.seq ?_
 refine CW.seq ?_
 refine CW.region ?_
 refine SL.v (iv 3) ?_
 refine SL.v (.bool true) ?_
 refine SL.v (.bool true) ?_
 refine SL.no true ?_
 refine SL.no true ?_
 refine SL.no true ?_
 refine SL.v (.bool true) ?_
 refine SL.nil ?_
 refine CW.cond_true (by kernel_rfl) ?_
 refine CW.seq ?_
 refine CW.region ?_
 refine SL.v (iv (-1)) ?_
 refine SL.nil ?_
 refine CW.ret ?_
 repeat with_reducible first | refine PThen.ret ?_ | refine PBlock.ret ?_
 refine PRet.tmp (t := 2) (v := iv (-1)) rfl rfl (by kernel_rfl) ?_
 exact ⟨rfl, hs_3.gr⟩
set_option maxRecDepth 100000 in
theorem dnum_len (l : List Int) (w : World) (hl : ∀ c ∈ l, 0 ≤ c ∧ c < 256) (hn : l.length ≤ 300) (ha : l.all isAcc = true) (hx : (numsR l).length ≠ 1) : Calls Tryz.prog 35 #[.string (strOf l)] w fun e w' => e = .returned (iv (-1)) ∧ Gr w w' := by
 refine calls_sx (n := 20) (args := [.string (strOf l)]) Tryz.func35 rfl rfl rfl ?_
 have hs0 := SH.none w
 refine CW.seq ?_
 refine CW.region ?_
 refine SL.v (iv 0) ?_
 refine SL.nil ?_
 refine CW.seq ?_
 refine CW.region ?_
 refine SL.v (.string (strOf l)) ?_
 refine SL.callH (f := 78) (args := #[.string (strOf l)]) (Pre := []) (Rest := []) [] hs0 rfl rfl (by kernel_rfl) rfl (rparse_len l w hl hn ha) ?_
 rintro v_ Q_ w_4 ⟨a_1, c_2, rfl, rfl⟩ hs_6
 have hs_6 : SH [] w w_4 [rowH 3 1 a_1 (numsR l).length c_2 (icells (numsR l))] := hs_6
 refine SL.v (.tuple #[.slice a_1 ((numsR l).length) c_2, iv 0]) ?_
 refine SL.v (.slice a_1 ((numsR l).length) c_2) ?_
 refine SL.v (iv 0) ?_
 refine SL.v (.slice a_1 ((numsR l).length) c_2) ?_
 refine SL.v (iv 0) ?_
 refine SL.nil ?_
 refine CW.seq ?_
 refine CW.seq ?_
 refine CW.region ?_
 refine SL.v (iv 0) ?_
 refine SL.v (.bool false) ?_
 refine SL.v (.bool false) ?_
 refine SL.go ?_
 refine SL.v (.slice a_1 ((numsR l).length) c_2) ?_
 refine SL.go ?_
 refine SL.val (v := iv (((numsR l).length : Nat) : Int)) (w' := w_4) rfl rfl (by kernel_rfl) ?_
 refine SL.go ?_
 refine SL.v (.bool (!((((numsR l).length : Nat) : Int) == 1))) ?_
 refine SL.v (.bool (!((((numsR l).length : Nat) : Int) == 1))) ?_
 refine SL.nil ?_
 have hb_7 : ((((numsR l).length : Nat) : Int) == 1) = false := (by simp; omega)
 rw [hb_7]
 refine CW.cond_true (by kernel_rfl) ?_
 refine CW.seq ?_
 refine CW.region ?_
 refine SL.v (iv (-1)) ?_
 refine SL.nil ?_
 refine CW.ret ?_
 repeat with_reducible first | refine PThen.ret ?_ | refine PBlock.ret ?_
 refine PRet.tmp (t := 2) (v := iv (-1)) rfl rfl (by kernel_rfl) ?_
 exact ⟨rfl, hs_6.gr⟩
set_option maxRecDepth 100000 in
theorem dnum_one (l : List Int) (w : World) (hl : ∀ c ∈ l, 0 ≤ c ∧ c < 256) (hn : l.length ≤ 300) (x : Int) (ha : l.all isAcc = true) (hx : numsR l = [x]) : Calls Tryz.prog 35 #[.string (strOf l)] w fun e w' => e = .returned (iv x) ∧ Gr w w' := by
 refine calls_sx (n := 20) (args := [.string (strOf l)]) Tryz.func35 rfl rfl rfl ?_
 have hs0 := SH.none w
 refine CW.seq ?_
 refine CW.region ?_
 refine SL.v (iv 0) ?_
 refine SL.nil ?_
 refine CW.seq ?_
 refine CW.region ?_
 refine SL.v (.string (strOf l)) ?_
 refine SL.callH (f := 78) (args := #[.string (strOf l)]) (Pre := []) (Rest := []) [] hs0 rfl rfl (by kernel_rfl) rfl (rparse_1 l x w hl hn ha hx) ?_
 rintro v_ Q_ w_4 ⟨g_1, c_2, pad_3, rfl, rfl⟩ hs_6
 have hs_6 : SH [] w w_4 [pt g_1 ⟨[iv x] ++ pad_3⟩ 3] := hs_6
 refine SL.v (.tuple #[sv g_1 0 1 c_2, iv 0]) ?_
 refine SL.v (sv g_1 0 1 c_2) ?_
 refine SL.v (iv 0) ?_
 refine SL.v (sv g_1 0 1 c_2) ?_
 refine SL.v (iv 0) ?_
 refine SL.nil ?_
 refine CW.seq ?_
 refine CW.seq ?_
 refine CW.region ?_
 refine SL.v (iv 0) ?_
 refine SL.v (.bool false) ?_
 refine SL.v (.bool false) ?_
 refine SL.go ?_
 refine SL.v (sv g_1 0 1 c_2) ?_
 refine SL.go ?_
 refine SL.val (v := iv 1) (w' := w_4) rfl rfl (by kernel_rfl) ?_
 refine SL.go ?_
 refine SL.v (.bool false) ?_
 refine SL.v (.bool false) ?_
 refine SL.nil ?_
 refine CW.cond_false (by kernel_rfl) ?_
 refine CW.skip ?_
 refine CW.seq ?_
 refine CW.region ?_
 refine SL.v (sv g_1 0 1 c_2) ?_
 refine SL.v (pv g_1 0) ?_
 refine SL.load (g := g_1) (off := 0) (v := iv x) rfl rfl rfl (by kernel_rfl) (hs_6.pt_at (i := 0) rfl) (by kernel_rfl) ?_
 refine SL.v (iv x) ?_
 refine SL.nil ?_
 refine CW.ret ?_
 repeat with_reducible first | refine PThen.ret ?_ | refine PBlock.ret ?_
 refine PRet.tmp (t := 2) (v := iv x) rfl rfl (by kernel_rfl) ?_
 exact ⟨rfl, hs_6.gr⟩
theorem dnum_any (l : List Int) (w : World) (hl : ∀ c ∈ l, 0 ≤ c ∧ c < 256) (hn : l.length ≤ 300) : Calls Tryz.prog 35 #[.string (strOf l)] w fun e w' => e = .returned (iv (numM l)) ∧ Gr w w' := by
 unfold numM
 cases ha : l.all isAcc with
 | false => obtain ⟨e1, e2⟩ := nmK_bad ha; rw [e1, e2]; exact dnum_bad l w hl hn ha
 | true =>
  by_cases hx : (numsR l).length = 1
  ·obtain ⟨x, hx⟩ : ∃ x, numsR l = [x] := by
    match numsR l, hx with
    | [x], _ => exact ⟨x, rfl⟩
   obtain ⟨e1, e2⟩ := nmK_one ha hx; rw [e1, e2]; exact dnum_one l w hl hn x ha hx
  ·obtain ⟨e1, e2⟩ := nmK_len ha hx; rw [e1, e2]; exact dnum_len l w hl hn ha hx
end Go.Proofs.YtfkecgkfcldffaaGreatDoor

namespace Go.Proofs.YtfkecgkfcldffaaGreatDoor
set_option linter.unusedSimpArgs false
set_option linter.unusedVariables false
open Go.RowKit
set_option linter.unusedVariables false

theorem scells_app (a b : List ByteArray) : scells a ++ scells b = scells (a ++ b) := by unfold scells; simp
/-- How far a text has been cut. -/
def FPos (l : List Int) (b k : Nat) (dn : List ByteArray) : Prop := ∃ done : List (List Int), dn = done.map strOf ∧
 ((k ≤ l.length ∧ b ≤ k ∧ (∀ j, b ≤ j → j < k → l[j]? ≠ some 59) ∧ splitSemi l = done ++ splitSemi (l.drop b)) ∨ (k = l.length + 1 ∧ b = k ∧ splitSemi l = done))
theorem FPos.next {l : List Int} {dn : List ByteArray} {b k : Nat} (h : FPos l b k dn) (hk : k < l.length) (hne : l.getD k 0 ≠ 59) : FPos l b (k + 1) dn := by
 obtain ⟨done, e, h⟩ := h
 rw [List.getD_eq_getElem?_getD] at hne
 rcases h with ⟨h1, h2, h3, h4⟩ | ⟨h1, _⟩
 ·refine ⟨done, e, .inl ⟨by omega, by omega, fun j hj hjk => ?_, h4⟩⟩
  by_cases e : j = k
  ·subst e; intro hc; rw [hc] at hne; exact hne rfl
  ·exact h3 j hj (by omega)
 ·omega
theorem FPos.piece {l : List Int} {dn : List ByteArray} {b k : Nat} (h : FPos l b k dn) (hk : k ≤ l.length) (hc : k < l.length → l.getD k 0 = 59) : FPos l (k + 1) (k + 1) (dn ++ [strOf ((l.drop b).take (k - b))]) := by
 obtain ⟨done, e, h⟩ := h
 refine ⟨done ++ [(l.drop b).take (k - b)], by rw [e]; simp, ?_⟩
 rcases h with ⟨h1, h2, h3, h4⟩ | ⟨h1, _⟩
 ·have hf : ∀ j : Nat, j < k - b → (l.drop b)[j]? ≠ some 59 := fun j hj => by rw [List.getElem?_drop]; exact h3 _ (by omega) (by omega)
  by_cases e : k = l.length
  ·have hn : ∀ j : Nat, (l.drop b)[j]? ≠ some 59 := fun j => by
    by_cases hj : j < k - b
    ·exact hf j hj
    ·rw [List.getElem?_drop, List.getElem?_eq_none (by omega)]; simp
   refine .inr ⟨by omega, rfl, ?_⟩
   rw [h4, split_none _ hn, List.take_of_length_le (by simp; omega)]
  ·have hm : (l.drop b)[k - b]? = some 59 := by
    rw [List.getElem?_drop, show b + (k - b) = k by omega]
    have := hc (by omega)
    rw [List.getD_eq_getElem?_getD, List.getElem?_eq_getElem (show k < l.length by omega), Option.getD_some] at this
    rw [List.getElem?_eq_getElem (show k < l.length by omega), this]
   refine .inl ⟨by omega, by omega, fun j hj hjk => by omega, ?_⟩
   rw [h4, split_at _ _ hf hm, List.drop_drop, show b + (k - b + 1) = k + 1 by omega]
   simp
 ·omega
theorem FPos.end {l : List Int} {dn : List ByteArray} {b k : Nat} (h : FPos l b k dn) (hk : l.length < k) : dn = (splitSemi l).map strOf := by
 obtain ⟨done, e, ⟨h1, _⟩ | ⟨_, _, h⟩⟩ := h
 ·omega
 ·rw [e, h]
theorem FPos.init (l : List Int) : FPos l 0 0 [] := ⟨[], rfl, .inl ⟨Nat.zero_le _, Nat.le_refl _, fun j _ h => by omega, by simp⟩⟩
set_option maxRecDepth 100000 in
set_option maxHeartbeats 4000000 in
theorem fields_any (l : List Int) (w : World) (hl : ∀ c ∈ l, 0 ≤ c ∧ c < 256) (hn : l.length ≤ 100000) : Tr Tryz.prog 34 #[.string (strOf l)] w [] (fun v Q => ∃ a c, v = .slice a (splitSemi l).length c ∧ Q = [rowH 9 1 a (splitSemi l).length c (scells ((splitSemi l).map strOf))]) := by
 refine Tr.of fun U hs0 => ?_
 refine calls_sx (n := 32) (args := [.string (strOf l)]) Tryz.func34 rfl rfl rfl ?_
 refine CW.seq ?_
 refine CW.region ?_
 refine SL.v (.slice none 0 0) ?_
 refine SL.nil ?_
 refine CW.seq ?_
 refine CW.region ?_
 refine SL.v (.slice none 0 0) ?_
 refine SL.nil ?_
 refine CW.seq ?_
 refine CW.region ?_
 refine SL.v (iv 0) ?_
 refine SL.nil ?_
 refine CW.seq ?_
 refine CW.seq ?_
 refine CW.region ?_
 refine SL.v (iv 0) ?_
 refine SL.nil ?_
 refine CW.block ?_
 have hs_1 : SH U w w [rowH 9 1 none (([] : List ByteArray)).length 0 (scells ([] : List ByteArray))] := hs0.row0 9 1
 refine CW.loopI (fun m_ e9 w9 => ∃ (k : Nat), ∃ (b : Nat), ∃ (dn : List ByteArray), ∃ (a : Option Addr), ∃ (c : Nat), m_ = l.length + 1 - k ∧ SH U w w9 [rowH 9 1 a (dn).length c (scells dn)] ∧ (k ≤ l.length + 1) ∧ (FPos l b k dn) ∧ (b ≤ k) ∧ (dn.length ≤ k) ∧ e9 0 = .string (strOf l) ∧ e9 2 = .slice none 0 0 ∧ e9 3 = .slice a dn.length c ∧ e9 4 = iv ((b : Nat) : Int) ∧ e9 5 = iv ((k : Nat) : Int)) ⟨_, 0, 0, ([] : List ByteArray), none, 0, rfl, hs_1, (Nat.zero_le _), (FPos.init l), (Nat.le_refl _), (Nat.le_refl _), (by kernel_rfl), (by kernel_rfl), (by kernel_rfl), (by kernel_rfl), (by kernel_rfl)⟩ ?_
 rintro m_2 e_3 w_4 ⟨k, b, dn, a, c, hm_6, hs_5, hk, hp, hbk, hdl, hv_7, hv_8, hv_9, hv_10, hv_11⟩
 obtain ⟨e_12, rfl⟩ : ∃ e_12, e_3 = put1 (put1 (put1 (put1 (put1 e_12 0 (.string (strOf l))) 2 (.slice none 0 0)) 3 (.slice a dn.length c)) 4 (iv ((b : Nat) : Int))) 5 (iv ((k : Nat) : Int)) := ⟨e_3, (put_self hv_11).trans (congrArg (fun z => put1 z 5 (iv ((k : Nat) : Int))) ((put_self hv_10).trans (congrArg (fun z => put1 z 4 (iv ((b : Nat) : Int))) ((put_self hv_9).trans (congrArg (fun z => put1 z 3 (.slice a dn.length c)) ((put_self hv_8).trans (congrArg (fun z => put1 z 2 (.slice none 0 0)) (put_self hv_7))))))))⟩
 clear hv_7 hv_8 hv_9 hv_10 hv_11
 refine CW.seq ?_
 refine CW.seq ?_
 refine CW.region ?_
 refine SL.v (iv ((k : Nat) : Int)) ?_
 refine SL.v (.string (strOf l)) ?_
 refine SL.val (v := iv ((l.length : Nat) : Int)) (w' := w_4) rfl rfl (run_slen rfl (by kernel_rfl) (by kernel_rfl) (strOf_sz _)) ?_
 refine SL.v (.bool (decide (((k : Nat) : Int) ≤ ((l.length : Nat) : Int)))) ?_
 refine SL.nil ?_
 rcases Bool.eq_false_or_eq_true (decide (((k : Nat) : Int) ≤ ((l.length : Nat) : Int))) with hb_13 | hb_13
 ·try rw [hb_13]
  have hqhb_13 := of_decide_eq_true hb_13
  refine CW.cond_true (by kernel_rfl) ?_
  refine CW.skip ?_
  refine CW.seq ?_
  refine CW.block ?_
  refine CW.seq ?_
  refine CW.region ?_
  refine SL.v (iv ((k : Nat) : Int)) ?_
  refine SL.v (.string (strOf l)) ?_
  refine SL.val (v := iv ((l.length : Nat) : Int)) (w' := w_4) rfl rfl (run_slen rfl (by kernel_rfl) (by kernel_rfl) (strOf_sz _)) ?_
  refine SL.v (.bool (((k : Nat) : Int) == ((l.length : Nat) : Int))) ?_
  refine SL.v (.bool (((k : Nat) : Int) == ((l.length : Nat) : Int))) ?_
  rcases Bool.eq_false_or_eq_true (((k : Nat) : Int) == ((l.length : Nat) : Int)) with hb_14 | hb_14
  ·try rw [hb_14]
   have hqhb_14 : k = l.length := by simp at hb_14; omega
   refine SL.no true ?_
   refine SL.no true ?_
   refine SL.no true ?_
   refine SL.no true ?_
   refine SL.v (.bool true) ?_
   refine SL.nil ?_
   refine CW.cond_true (by kernel_rfl) ?_
   refine CW.seq ?_
   refine CW.region ?_
   refine SL.v (.slice a dn.length c) ?_
   refine SL.v (.string (strOf l)) ?_
   refine SL.v (iv ((b : Nat) : Int)) ?_
   refine SL.v (iv ((k : Nat) : Int)) ?_
   refine SL.val (v := .string (strOf ((l.drop b).take (k - b)))) (w' := w_4) rfl rfl (run_spart (q := .i64) (q' := .i64) (I := ((b : Nat) : Int)) (J := ((k : Nat) : Int)) (l := l) (i := b) (j := k) rfl (by kernel_rfl) (by kernel_rfl) (by kernel_rfl) rfl rfl (by kernel_rfl) (by omega) (by omega)) ?_
   refine SL.newH (mk := fun g => sv g 0 1 1) (C := #[.string (strOf ((l.drop b).take (k - b)))]) (T := 9) hs_5 rfl rfl (by kernel_rfl) (fun g_15 w_16 hs_17 => ?_)
   have hs_17 : SH U w w_16 [rowH 9 1 a (dn).length c (scells dn), pt g_15 #[.string (strOf ((l.drop b).take (k - b)))] 9] := hs_17
   refine SL.appR (z := .string ⟨#[]⟩) (size := 1) (bytes := 16) (el := 9) (m := 1) (news := [.string (strOf ((l.drop b).take (k - b)))]) (i := 0) (xs' := scells (dn ++ [strOf ((l.drop b).take (k - b))])) (k' := (dn ++ [strOf ((l.drop b).take (k - b))]).length) (L' := [pt g_15 #[.string (strOf ((l.drop b).take (k - b)))] 9]) hs_17 rfl rfl rfl (by kernel_rfl) (by kernel_rfl) (by kernel_rfl) (by kernel_rfl) (by kernel_rfl) (by kernel_rfl) rfl rfl (srcH (off := 0) (cs := [.string (strOf ((l.drop b).take (k - b)))]) (el := 9) (by kernel_rfl) (hs_17.pt_at (i := 1) rfl) rfl rfl (List.all_eq_true.1 (by kernel_rfl))) (by simp; omega) (scells_app dn ([strOf ((l.drop b).take (k - b))])) (by simp) rfl (fun a_18 c_19 w_20 hs_21 => ?_)
   have hs_21 : SH U w w_20 [pt g_15 #[.string (strOf ((l.drop b).take (k - b)))] 9, rowH 9 1 a_18 (dn ++ [strOf ((l.drop b).take (k - b))]).length c_19 (scells (dn ++ [strOf ((l.drop b).take (k - b))]))] := hs_21
   refine SL.v (.slice a_18 ((dn ++ [strOf ((l.drop b).take (k - b))]).length) c_19) ?_
   refine SL.nil ?_
   refine CW.region ?_
   refine SL.v (iv ((k : Nat) : Int)) ?_
   refine SL.val (v := iv ((k + 1 : Nat) : Int)) (w' := w_20) rfl rfl (by have hw : IntKind.i64.wrap (((k : Nat) : Int) + 1) = ((k + 1 : Nat) : Int) := (IntWalk.i64_in _ (by omega)).trans (by omega); exact run_eqv (by kernel_rfl) (congrArg (fun z => Value.int .i64 z) hw)) ?_
   refine SL.v (iv ((k + 1 : Nat) : Int)) ?_
   refine SL.nil ?_
   refine CW.region ?_
   refine SL.v (iv ((k : Nat) : Int)) ?_
   refine SL.val (v := iv ((k + 1 : Nat) : Int)) (w' := w_20) rfl rfl (by have hw : IntKind.i64.wrap (((k : Nat) : Int) + 1) = ((k + 1 : Nat) : Int) := (IntWalk.i64_in _ (by omega)).trans (by omega); exact run_eqv (by kernel_rfl) (congrArg (fun z => Value.int .i64 z) hw)) ?_
   refine SL.v (iv ((k + 1 : Nat) : Int)) ?_
   refine SL.nil ?_
   exact ⟨_, ⟨k + 1, k + 1, dn ++ [strOf ((l.drop b).take (k - b))], a_18, c_19, rfl, (hs_21.pick [1] rfl), (by omega), (hp.piece (by omega) (fun h => by have := hb_14; simp at this; omega)), (Nat.le_refl _), (by simp; omega), (by kernel_rfl), (by kernel_rfl), (by kernel_rfl), (by kernel_rfl), (by kernel_rfl)⟩, by omega⟩
  ·try rw [hb_14]
   have hqhb_14 : k ≠ l.length := by simp at hb_14; omega
   refine SL.go ?_
   refine SL.v (.string (strOf l)) ?_
   refine SL.go ?_
   refine SL.v (iv ((k : Nat) : Int)) ?_
   refine SL.go ?_
   refine SL.val (v := .int .u8 (l.getD k 0)) (w' := w_4) rfl rfl (run_sidx (q := .i64) (I := ((k : Nat) : Int)) (l := l) (i := k) rfl (by kernel_rfl) (by kernel_rfl) rfl (by kernel_rfl) hl (by omega)) ?_
   refine SL.go ?_
   refine SL.v (.bool ((l.getD k 0) == 59)) ?_
   refine SL.v (.bool ((l.getD k 0) == 59)) ?_
   refine SL.nil ?_
   rcases Bool.eq_false_or_eq_true ((l.getD k 0) == 59) with hb_23 | hb_23
   ·try rw [hb_23]
    refine CW.cond_true (by kernel_rfl) ?_
    refine CW.seq ?_
    refine CW.region ?_
    refine SL.v (.slice a dn.length c) ?_
    refine SL.v (.string (strOf l)) ?_
    refine SL.v (iv ((b : Nat) : Int)) ?_
    refine SL.v (iv ((k : Nat) : Int)) ?_
    refine SL.val (v := .string (strOf ((l.drop b).take (k - b)))) (w' := w_4) rfl rfl (run_spart (q := .i64) (q' := .i64) (I := ((b : Nat) : Int)) (J := ((k : Nat) : Int)) (l := l) (i := b) (j := k) rfl (by kernel_rfl) (by kernel_rfl) (by kernel_rfl) rfl rfl (by kernel_rfl) (by omega) (by omega)) ?_
    refine SL.newH (mk := fun g => sv g 0 1 1) (C := #[.string (strOf ((l.drop b).take (k - b)))]) (T := 9) hs_5 rfl rfl (by kernel_rfl) (fun g_24 w_25 hs_26 => ?_)
    have hs_26 : SH U w w_25 [rowH 9 1 a (dn).length c (scells dn), pt g_24 #[.string (strOf ((l.drop b).take (k - b)))] 9] := hs_26
    refine SL.appR (z := .string ⟨#[]⟩) (size := 1) (bytes := 16) (el := 9) (m := 1) (news := [.string (strOf ((l.drop b).take (k - b)))]) (i := 0) (xs' := scells (dn ++ [strOf ((l.drop b).take (k - b))])) (k' := (dn ++ [strOf ((l.drop b).take (k - b))]).length) (L' := [pt g_24 #[.string (strOf ((l.drop b).take (k - b)))] 9]) hs_26 rfl rfl rfl (by kernel_rfl) (by kernel_rfl) (by kernel_rfl) (by kernel_rfl) (by kernel_rfl) (by kernel_rfl) rfl rfl (srcH (off := 0) (cs := [.string (strOf ((l.drop b).take (k - b)))]) (el := 9) (by kernel_rfl) (hs_26.pt_at (i := 1) rfl) rfl rfl (List.all_eq_true.1 (by kernel_rfl))) (by simp; omega) (scells_app dn ([strOf ((l.drop b).take (k - b))])) (by simp) rfl (fun a_27 c_28 w_29 hs_30 => ?_)
    have hs_30 : SH U w w_29 [pt g_24 #[.string (strOf ((l.drop b).take (k - b)))] 9, rowH 9 1 a_27 (dn ++ [strOf ((l.drop b).take (k - b))]).length c_28 (scells (dn ++ [strOf ((l.drop b).take (k - b))]))] := hs_30
    refine SL.v (.slice a_27 ((dn ++ [strOf ((l.drop b).take (k - b))]).length) c_28) ?_
    refine SL.nil ?_
    refine CW.region ?_
    refine SL.v (iv ((k : Nat) : Int)) ?_
    refine SL.val (v := iv ((k + 1 : Nat) : Int)) (w' := w_29) rfl rfl (by have hw : IntKind.i64.wrap (((k : Nat) : Int) + 1) = ((k + 1 : Nat) : Int) := (IntWalk.i64_in _ (by omega)).trans (by omega); exact run_eqv (by kernel_rfl) (congrArg (fun z => Value.int .i64 z) hw)) ?_
    refine SL.v (iv ((k + 1 : Nat) : Int)) ?_
    refine SL.nil ?_
    refine CW.region ?_
    refine SL.v (iv ((k : Nat) : Int)) ?_
    refine SL.val (v := iv ((k + 1 : Nat) : Int)) (w' := w_29) rfl rfl (by have hw : IntKind.i64.wrap (((k : Nat) : Int) + 1) = ((k + 1 : Nat) : Int) := (IntWalk.i64_in _ (by omega)).trans (by omega); exact run_eqv (by kernel_rfl) (congrArg (fun z => Value.int .i64 z) hw)) ?_
    refine SL.v (iv ((k + 1 : Nat) : Int)) ?_
    refine SL.nil ?_
    exact ⟨_, ⟨k + 1, k + 1, dn ++ [strOf ((l.drop b).take (k - b))], a_27, c_28, rfl, (hs_30.pick [1] rfl), (by omega), (hp.piece (by omega) (fun h => by have := hb_23; simpa using this)), (Nat.le_refl _), (by simp; omega), (by kernel_rfl), (by kernel_rfl), (by kernel_rfl), (by kernel_rfl), (by kernel_rfl)⟩, by omega⟩
   ·try rw [hb_23]
    refine CW.cond_false (by kernel_rfl) ?_
    refine CW.skip ?_
    refine CW.region ?_
    refine SL.v (iv ((k : Nat) : Int)) ?_
    refine SL.val (v := iv ((k + 1 : Nat) : Int)) (w' := w_4) rfl rfl (by have hw : IntKind.i64.wrap (((k : Nat) : Int) + 1) = ((k + 1 : Nat) : Int) := (IntWalk.i64_in _ (by omega)).trans (by omega); exact run_eqv (by kernel_rfl) (congrArg (fun z => Value.int .i64 z) hw)) ?_
    refine SL.v (iv ((k + 1 : Nat) : Int)) ?_
    refine SL.nil ?_
    exact ⟨_, ⟨k + 1, b, dn, a, c, rfl, (hs_5.pick [0] rfl), (by omega), (hp.next (by have := hb_14; simp at this; omega) (by have := hb_23; simpa using this)), (by omega), (by omega), (by kernel_rfl), (by kernel_rfl), (by kernel_rfl), (by kernel_rfl), (by kernel_rfl)⟩, by omega⟩
 ·try rw [hb_13]
  have hqhb_13 := of_decide_eq_false hb_13
  refine CW.cond_false (by kernel_rfl) ?_
  refine CW.exit ?_
  repeat with_reducible first | refine PThen.exit ?_ | refine PBlock.out rfl ?_
  with_reducible refine PBlock.here ?_
  repeat with_reducible refine PBlock.normal ?_
  refine CW.seq ?_
  refine CW.region ?_
  refine SL.v (.slice a dn.length c) ?_
  refine SL.v (.slice a dn.length c) ?_
  refine SL.nil ?_
  refine CW.ret ?_
  repeat with_reducible first | refine PThen.ret ?_ | refine PBlock.ret ?_
  refine PRet.tmp (t := 2) (v := .slice a dn.length c) rfl rfl (by kernel_rfl) ?_
  have he := hp.end (by omega)
  have hln : dn.length = (splitSemi l).length := by rw [he, List.length_map]
  have hs9 := hs_5.pick [0] rfl
  rw [hln, he] at hs9
  rw [hln]
  exact ⟨_, _, rfl, ⟨a, c, rfl, rfl⟩, hs9⟩
end Go.Proofs.YtfkecgkfcldffaaGreatDoor

namespace Go.Proofs.YtfkecgkfcldffaaGreatDoor
set_option linter.unusedSimpArgs false
set_option linter.unusedVariables false
open Go.RowKit
set_option linter.unusedVariables false

theorem fields_10 (l : List Int) (f0 f1 f2 f3 f4 f5 f6 f7 f8 f9 : List Int) (w : World) (hl : ∀ c ∈ l, 0 ≤ c ∧ c < 256) (hn : l.length ≤ 100000) (hx : splitSemi l = [f0, f1, f2, f3, f4, f5, f6, f7, f8, f9]) : Tr Tryz.prog 34 #[.string (strOf l)] w []
  (fun v Q => ∃ g c pad, v = sv g 0 10 c ∧ Q = [pt g ⟨[.string (strOf f0), .string (strOf f1), .string (strOf f2), .string (strOf f3), .string (strOf f4), .string (strOf f5), .string (strOf f6), .string (strOf f7), .string (strOf f8), .string (strOf f9)] ++ pad⟩ 9]) := fun fp hfp => by
 refine (fields_any l w hl hn fp hfp).mono fun e w' hR => ?_
 obtain ⟨v, Q, fp', rfl, ⟨a, c, rfl, rfl⟩, hst, hu, hf⟩ := hR
 rw [hx] at hst
 obtain ⟨⟨h1, ⟨_, h2⟩ | ⟨g, cap, cur, hv, h3, h4, h5, h6, h7, h8⟩⟩, hfp'⟩ := hst.one
 ·cases h2
 ·cases hv
  have hcur : cur = ⟨scells ([f0, f1, f2, f3, f4, f5, f6, f7, f8, f9].map strOf) ++ cur.toList.drop 10⟩ := by
   apply Array.ext'
   show cur.toList = scells ([f0, f1, f2, f3, f4, f5, f6, f7, f8, f9].map strOf) ++ cur.toList.drop 10
   conv => rhs; rw [← h8]
   exact (List.take_append_drop _ _).symm
  rw [hcur] at h4
  refine ⟨_, _, fp', rfl, ⟨g, c, cur.toList.drop 10, by rw [hx]; rfl, rfl⟩, ?_, hu, hf⟩
  rw [hfp']
  exact HSt.mk1 ⟨rfl, h4⟩
end Go.Proofs.YtfkecgkfcldffaaGreatDoor
