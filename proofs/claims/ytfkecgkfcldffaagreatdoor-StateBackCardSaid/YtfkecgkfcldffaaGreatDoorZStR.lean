/-
 The fields of a cursor that is brought back, read by the program (gen_str.py).
-/
import Derived.Lib.SplitLaws
import Derived.Test.YtfkecgkfcldffaaGreatDoorZStN
import Derived.Test.YtfkecgkfcldffaaGreatDoorZStL
namespace Go.Proofs.YtfkecgkfcldffaaGreatDoor
set_option linter.unusedSimpArgs false
set_option linter.unusedVariables false
open Go.RowKit
set_option linter.unusedVariables false

/-- A field as a number. -/
def numV (l : List Int) : Int := match l.all isAcc, numsR l with | true, [x] => x | _, _ => 0
def numK (l : List Int) : Bool := match l.all isAcc, numsR l with | true, [_] => true | _, _ => false
theorem nmK_bad {l : List Int} (h : l.all isAcc = false) : numV l = 0 ∧ numK l = false := by unfold numV numK; rw [h]; exact ⟨rfl, rfl⟩
theorem nmK_len {l : List Int} (h : l.all isAcc = true) (hx : (numsR l).length ≠ 1) : numV l = 0 ∧ numK l = false := by
 unfold numV numK
 rw [h]
 match he : numsR l with
 | [] => exact ⟨rfl, rfl⟩
 | [x] => rw [he] at hx; exact absurd rfl hx
 | _ :: _ :: _ => exact ⟨rfl, rfl⟩
theorem nmK_one {l : List Int} {x : Int} (h : l.all isAcc = true) (hx : numsR l = [x]) : numV l = x ∧ numK l = true := by unfold numV numK; rw [h, hx]; exact ⟨rfl, rfl⟩
theorem pparse_bad1 (l : List Int) (w : World) (hl : ∀ c ∈ l, 0 ≤ c ∧ c < 256) (hn : l.length ≤ 100000) (ha : l.all isAcc = false) :
  Tr Tryz.prog 46 #[.string (strOf l)] w [] (fun v Q => v = .tuple #[.slice none 0 0, iv 3] ∧ Q = []) :=
 (pparse_any l w hl hn).mono fun v Q hR => by
  rcases hR with ⟨h, _⟩ | ⟨_, h⟩
  ·rw [ha] at h; cases h
  ·exact h
theorem pparse_len1 (l : List Int) (w : World) (hl : ∀ c ∈ l, 0 ≤ c ∧ c < 256) (hn : l.length ≤ 100000) (ha : l.all isAcc = true) :
  Tr Tryz.prog 46 #[.string (strOf l)] w [] (fun v Q => ∃ a c, v = .tuple #[.slice a (numsR l).length c, iv 0] ∧ Q = [rdH 3 a (numsR l).length c (icells (numsR l))]) :=
 (pparse_any l w hl hn).mono fun v Q hR => by
  rcases hR with ⟨_, h⟩ | ⟨h, _⟩
  ·exact h
  ·rw [ha] at h; cases h
theorem pparse_1 (l : List Int) (x : Int) (w : World) (hl : ∀ c ∈ l, 0 ≤ c ∧ c < 256) (hn : l.length ≤ 100000) (ha : l.all isAcc = true) (hx : numsR l = [x]) :
  Tr Tryz.prog 46 #[.string (strOf l)] w [] (fun v Q => ∃ g c pad, v = .tuple #[sv g 0 1 c, iv 0] ∧ Q = [pt g ⟨[iv x] ++ pad⟩ 3]) := fun fp hfp => by
 refine (pparse_any l w hl hn fp hfp).mono fun e w' hR => ?_
 obtain ⟨v, Q, fp', rfl, hR, hst, hu, hf⟩ := hR
 rcases hR with ⟨_, a, c, rfl, rfl⟩ | ⟨h, _⟩
 ·rw [hx] at hst
  obtain ⟨h0, ⟨_, _, h1, _⟩ | ⟨g, pad, rfl, rfl, h3, h4⟩⟩ := hst.one
  ·simp at h1
  ·exact ⟨_, _, [g], rfl, ⟨g, c, pad, by rw [hx]; rfl, rfl⟩, HSt.mk1 ⟨rfl, h3⟩, hu, hf⟩
 ·rw [ha] at h; cases h
set_option maxRecDepth 100000 in
theorem fnum_bad (l : List Int) (w : World) (hl : ∀ c ∈ l, 0 ≤ c ∧ c < 256) (hn : l.length ≤ 100000) (ha : l.all isAcc = false) : Calls Tryz.prog 30 #[.string (strOf l)] w fun e w' => e = .returned (.tuple #[iv 0, .bool false]) ∧ Gr w w' := by
 refine calls_sx (n := 21) (args := [.string (strOf l)]) Tryz.func30 rfl rfl rfl ?_
 have hs0 := SH.none w
 refine CW.seq ?_
 refine CW.region ?_
 refine SL.v (iv 0) ?_
 refine SL.v (.bool false) ?_
 refine SL.nil ?_
 refine CW.seq ?_
 refine CW.region ?_
 refine SL.v (.string (strOf l)) ?_
 refine SL.callH (f := 46) (args := #[.string (strOf l)]) (Pre := []) (Rest := []) [] hs0 rfl rfl (by kernel_rfl) rfl (pparse_bad1 l w hl hn ha) ?_
 rintro v_ Q_ w_1 ⟨rfl, rfl⟩ hs_3
 have hs_3 : SH [] w w_1 [] := hs_3
 refine SL.v (.tuple #[.slice none 0 0, iv 3]) ?_
 refine SL.v (.slice none 0 0) ?_
 refine SL.v (iv 3) ?_
 refine SL.v (.slice none 0 0) ?_
 refine SL.v (iv 3) ?_
 refine SL.nil ?_
 refine CW.seq ?_
 refine CW.seq ?_
 refine CW.region ?_
 refine SL.v (iv 3) ?_
 refine SL.v (.bool true) ?_
 refine SL.v (.bool true) ?_
 refine SL.no true ?_
 refine SL.no true ?_
 refine SL.no true ?_
 refine SL.v (.bool true) ?_
 refine SL.nil ?_
 refine CW.cond_true (by kernel_rfl) ?_
 refine CW.seq ?_
 refine CW.region ?_
 refine SL.v (iv 0) ?_
 refine SL.v (.bool false) ?_
 refine SL.nil ?_
 refine CW.ret ?_
 repeat with_reducible first | refine PThen.ret ?_ | refine PBlock.ret ?_
 refine PRet.tmp2 (t := 2) (u := 3) (v := iv 0) (v' := .bool false) rfl rfl rfl (by kernel_rfl) (by kernel_rfl) ?_
 exact ⟨rfl, hs_3.gr⟩
set_option maxRecDepth 100000 in
theorem fnum_len (l : List Int) (w : World) (hl : ∀ c ∈ l, 0 ≤ c ∧ c < 256) (hn : l.length ≤ 100000) (ha : l.all isAcc = true) (hx : (numsR l).length ≠ 1) : Calls Tryz.prog 30 #[.string (strOf l)] w fun e w' => e = .returned (.tuple #[iv 0, .bool false]) ∧ Gr w w' := by
 refine calls_sx (n := 21) (args := [.string (strOf l)]) Tryz.func30 rfl rfl rfl ?_
 have hs0 := SH.none w
 refine CW.seq ?_
 refine CW.region ?_
 refine SL.v (iv 0) ?_
 refine SL.v (.bool false) ?_
 refine SL.nil ?_
 refine CW.seq ?_
 refine CW.region ?_
 refine SL.v (.string (strOf l)) ?_
 refine SL.callH (f := 46) (args := #[.string (strOf l)]) (Pre := []) (Rest := []) [] hs0 rfl rfl (by kernel_rfl) rfl (pparse_len1 l w hl hn ha) ?_
 rintro v_ Q_ w_4 ⟨a_1, c_2, rfl, rfl⟩ hs_6
 have hs_6 : SH [] w w_4 [rdH 3 a_1 (numsR l).length c_2 (icells (numsR l))] := hs_6
 refine SL.v (.tuple #[.slice a_1 ((numsR l).length) c_2, iv 0]) ?_
 refine SL.v (.slice a_1 ((numsR l).length) c_2) ?_
 refine SL.v (iv 0) ?_
 refine SL.v (.slice a_1 ((numsR l).length) c_2) ?_
 refine SL.v (iv 0) ?_
 refine SL.nil ?_
 refine CW.seq ?_
 refine CW.seq ?_
 refine CW.region ?_
 refine SL.v (iv 0) ?_
 refine SL.v (.bool false) ?_
 refine SL.v (.bool false) ?_
 refine SL.go ?_
 refine SL.v (.slice a_1 ((numsR l).length) c_2) ?_
 refine SL.go ?_
 refine SL.val (v := iv (((numsR l).length : Nat) : Int)) (w' := w_4) rfl rfl (by kernel_rfl) ?_
 refine SL.go ?_
 refine SL.v (.bool (!((((numsR l).length : Nat) : Int) == 1))) ?_
 refine SL.v (.bool (!((((numsR l).length : Nat) : Int) == 1))) ?_
 refine SL.nil ?_
 have hb_7 : ((((numsR l).length : Nat) : Int) == 1) = false := (by simp; omega)
 rw [hb_7]
 refine CW.cond_true (by kernel_rfl) ?_
 refine CW.seq ?_
 refine CW.region ?_
 refine SL.v (iv 0) ?_
 refine SL.v (.bool false) ?_
 refine SL.nil ?_
 refine CW.ret ?_
 repeat with_reducible first | refine PThen.ret ?_ | refine PBlock.ret ?_
 refine PRet.tmp2 (t := 2) (u := 3) (v := iv 0) (v' := .bool false) rfl rfl rfl (by kernel_rfl) (by kernel_rfl) ?_
 exact ⟨rfl, hs_6.gr⟩
set_option maxRecDepth 100000 in
theorem fnum_one (l : List Int) (w : World) (hl : ∀ c ∈ l, 0 ≤ c ∧ c < 256) (hn : l.length ≤ 100000) (x : Int) (ha : l.all isAcc = true) (hx : numsR l = [x]) : Calls Tryz.prog 30 #[.string (strOf l)] w fun e w' => e = .returned (.tuple #[iv x, .bool true]) ∧ Gr w w' := by
 refine calls_sx (n := 21) (args := [.string (strOf l)]) Tryz.func30 rfl rfl rfl ?_
 have hs0 := SH.none w
 refine CW.seq ?_
 refine CW.region ?_
 refine SL.v (iv 0) ?_
 refine SL.v (.bool false) ?_
 refine SL.nil ?_
 refine CW.seq ?_
 refine CW.region ?_
 refine SL.v (.string (strOf l)) ?_
 refine SL.callH (f := 46) (args := #[.string (strOf l)]) (Pre := []) (Rest := []) [] hs0 rfl rfl (by kernel_rfl) rfl (pparse_1 l x w hl hn ha hx) ?_
 rintro v_ Q_ w_4 ⟨g_1, c_2, pad_3, rfl, rfl⟩ hs_6
 have hs_6 : SH [] w w_4 [pt g_1 ⟨[iv x] ++ pad_3⟩ 3] := hs_6
 refine SL.v (.tuple #[sv g_1 0 1 c_2, iv 0]) ?_
 refine SL.v (sv g_1 0 1 c_2) ?_
 refine SL.v (iv 0) ?_
 refine SL.v (sv g_1 0 1 c_2) ?_
 refine SL.v (iv 0) ?_
 refine SL.nil ?_
 refine CW.seq ?_
 refine CW.seq ?_
 refine CW.region ?_
 refine SL.v (iv 0) ?_
 refine SL.v (.bool false) ?_
 refine SL.v (.bool false) ?_
 refine SL.go ?_
 refine SL.v (sv g_1 0 1 c_2) ?_
 refine SL.go ?_
 refine SL.val (v := iv 1) (w' := w_4) rfl rfl (by kernel_rfl) ?_
 refine SL.go ?_
 refine SL.v (.bool false) ?_
 refine SL.v (.bool false) ?_
 refine SL.nil ?_
 refine CW.cond_false (by kernel_rfl) ?_
 refine CW.skip ?_
 refine CW.seq ?_
 refine CW.region ?_
 refine SL.v (sv g_1 0 1 c_2) ?_
 refine SL.v (pv g_1 0) ?_
 refine SL.load (g := g_1) (off := 0) (v := iv x) rfl rfl rfl (by kernel_rfl) (hs_6.pt_at (i := 0) rfl) (by kernel_rfl) ?_
 refine SL.v (iv x) ?_
 refine SL.v (.bool true) ?_
 refine SL.nil ?_
 refine CW.ret ?_
 repeat with_reducible first | refine PThen.ret ?_ | refine PBlock.ret ?_
 refine PRet.tmp2 (t := 2) (u := 3) (v := iv x) (v' := .bool true) rfl rfl rfl (by kernel_rfl) (by kernel_rfl) ?_
 exact ⟨rfl, hs_6.gr⟩
theorem fnum_any (l : List Int) (w : World) (hl : ∀ c ∈ l, 0 ≤ c ∧ c < 256) (hn : l.length ≤ 100000) : Calls Tryz.prog 30 #[.string (strOf l)] w fun e w' => e = .returned (.tuple #[iv (numV l), .bool (numK l)]) ∧ Gr w w' := by
 cases ha : l.all isAcc with
 | false => obtain ⟨e1, e2⟩ := nmK_bad ha; rw [e1, e2]; exact fnum_bad l w hl hn ha
 | true =>
  by_cases hx : (numsR l).length = 1
  ·obtain ⟨x, hx⟩ : ∃ x, numsR l = [x] := by
    match numsR l, hx with
    | [x], _ => exact ⟨x, rfl⟩
   obtain ⟨e1, e2⟩ := nmK_one ha hx; rw [e1, e2]; exact fnum_one l w hl hn x ha hx
  ·obtain ⟨e1, e2⟩ := nmK_len ha hx; rw [e1, e2]; exact fnum_len l w hl hn ha hx
/-- A field as some bits. -/
def bitK (l : List Int) (m : Int) : Bool := decide (l.length = 1) && decide (64 ≤ l.getD 0 0) && decide (l.getD 0 0 ≤ 64 + m)
def bitV (l : List Int) (m : Int) : Int := bif bitK l m then l.getD 0 0 - 64 else 0
set_option maxRecDepth 100000 in
theorem byteof_any (l : List Int) (m : Int) (w : World) (hl : ∀ c ∈ l, 0 ≤ c ∧ c < 256) (hm : 0 ≤ m ∧ m ≤ 100) (hn : l.length ≤ 100000) : Calls Tryz.prog 72 #[.string (strOf l), iv m] w fun e w' => e = .returned (.tuple #[iv (bitV l m), .bool (bitK l m)]) ∧ Gr w w' := by
 have hl0 : 0 < l.length → 0 ≤ l.getD 0 0 ∧ l.getD 0 0 < 256 := fun h => getD_byte hl h
 refine calls_sx (n := 26) (args := [.string (strOf l), iv m]) Tryz.func72 rfl rfl rfl ?_
 have hs0 := SH.none w
 refine CW.seq ?_
 refine CW.region ?_
 refine SL.v (iv 0) ?_
 refine SL.v (.bool false) ?_
 refine SL.nil ?_
 refine CW.seq ?_
 refine CW.seq ?_
 refine CW.region ?_
 refine SL.v (.string (strOf l)) ?_
 refine SL.val (v := iv ((l.length : Nat) : Int)) (w' := w) rfl rfl (run_slen rfl (by kernel_rfl) (by kernel_rfl) (strOf_sz _)) ?_
 refine SL.v (.bool (!(((l.length : Nat) : Int) == 1))) ?_
 refine SL.v (.bool (!(((l.length : Nat) : Int) == 1))) ?_
 rcases Bool.eq_false_or_eq_true (((l.length : Nat) : Int) == 1) with hb_1 | hb_1
 ·try rw [hb_1]
  have hqhb_1 : l.length = 1 := by have := (beq_iff_eq (a := ((l.length : Nat) : Int)) (b := 1)).1 hb_1; omega
  refine SL.go ?_
  refine SL.v (.string (strOf l)) ?_
  refine SL.go ?_
  refine SL.val (v := .int .u8 (l.getD 0 0)) (w' := w) rfl rfl (run_sidx (q := .i64) (I := 0) (l := l) (i := 0) rfl (by kernel_rfl) (by kernel_rfl) rfl (by kernel_rfl) hl (by omega)) ?_
  refine SL.go ?_
  refine SL.v (.bool (decide ((l.getD 0 0) < 64))) ?_
  refine SL.v (.bool (decide ((l.getD 0 0) < 64))) ?_
  refine SL.v (.bool (decide ((l.getD 0 0) < 64))) ?_
  rcases Bool.eq_false_or_eq_true (decide ((l.getD 0 0) < 64)) with hb_2 | hb_2
  ·try rw [hb_2]
   have hqhb_2 := of_decide_eq_true hb_2
   refine SL.no true ?_
   refine SL.no true ?_
   refine SL.no true ?_
   refine SL.no true ?_
   refine SL.no true ?_
   refine SL.no true ?_
   refine SL.v (.bool true) ?_
   refine SL.nil ?_
   refine CW.cond_true (by kernel_rfl) ?_
   refine CW.seq ?_
   refine CW.region ?_
   refine SL.v (iv 0) ?_
   refine SL.v (.bool false) ?_
   refine SL.nil ?_
   refine CW.ret ?_
   repeat with_reducible first | refine PThen.ret ?_ | refine PBlock.ret ?_
   refine PRet.tmp2 (t := 4) (u := 5) (v := iv 0) (v' := .bool false) rfl rfl rfl (by kernel_rfl) (by kernel_rfl) ?_
   have hk : bitK l m = false := by unfold bitK; simp only [Bool.and_eq_true, decide_eq_true_eq, Bool.and_eq_false_iff, decide_eq_false_iff_not]; omega
   exact ⟨by unfold bitV; rw [hk]; rfl, hs0.gr⟩
  ·try rw [hb_2]
   have hqhb_2 := of_decide_eq_false hb_2
   refine SL.go ?_
   refine SL.v (.string (strOf l)) ?_
   refine SL.go ?_
   refine SL.val (v := .int .u8 (l.getD 0 0)) (w' := w) rfl rfl (run_sidx (q := .i64) (I := 0) (l := l) (i := 0) rfl (by kernel_rfl) (by kernel_rfl) rfl (by kernel_rfl) hl (by omega)) ?_
   refine SL.go ?_
   refine SL.val (v := iv (l.getD 0 0)) (w' := w) rfl rfl (by have hw : IntKind.i64.wrap (l.getD 0 0) = l.getD 0 0 := IntWalk.i64_in _ (by omega); exact run_eqv (by kernel_rfl) (congrArg (fun z => Value.int .i64 z) hw)) ?_
   refine SL.go ?_
   refine SL.v (iv m) ?_
   refine SL.go ?_
   refine SL.val (v := iv (64 + m)) (w' := w) rfl rfl (by have hw : IntKind.i64.wrap (64 + m) = 64 + m := IntWalk.i64_in _ (by omega); exact run_eqv (by kernel_rfl) (congrArg (fun z => Value.int .i64 z) hw)) ?_
   refine SL.go ?_
   refine SL.v (.bool (decide ((64 + m) < (l.getD 0 0)))) ?_
   refine SL.v (.bool (decide ((64 + m) < (l.getD 0 0)))) ?_
   refine SL.nil ?_
   rcases Bool.eq_false_or_eq_true (decide ((64 + m) < (l.getD 0 0))) with hb_3 | hb_3
   ·try rw [hb_3]
    have hqhb_3 := of_decide_eq_true hb_3
    refine CW.cond_true (by kernel_rfl) ?_
    refine CW.seq ?_
    refine CW.region ?_
    refine SL.v (iv 0) ?_
    refine SL.v (.bool false) ?_
    refine SL.nil ?_
    refine CW.ret ?_
    repeat with_reducible first | refine PThen.ret ?_ | refine PBlock.ret ?_
    refine PRet.tmp2 (t := 4) (u := 5) (v := iv 0) (v' := .bool false) rfl rfl rfl (by kernel_rfl) (by kernel_rfl) ?_
    have hk : bitK l m = false := by unfold bitK; simp only [Bool.and_eq_true, decide_eq_true_eq, Bool.and_eq_false_iff, decide_eq_false_iff_not]; omega
    exact ⟨by unfold bitV; rw [hk]; rfl, hs0.gr⟩
   ·try rw [hb_3]
    have hqhb_3 := of_decide_eq_false hb_3
    refine CW.cond_false (by kernel_rfl) ?_
    refine CW.skip ?_
    refine CW.seq ?_
    refine CW.region ?_
    refine SL.v (.string (strOf l)) ?_
    refine SL.val (v := .int .u8 (l.getD 0 0)) (w' := w) rfl rfl (run_sidx (q := .i64) (I := 0) (l := l) (i := 0) rfl (by kernel_rfl) (by kernel_rfl) rfl (by kernel_rfl) hl (by omega)) ?_
    refine SL.val (v := iv (l.getD 0 0)) (w' := w) rfl rfl (by have hw : IntKind.i64.wrap (l.getD 0 0) = l.getD 0 0 := IntWalk.i64_in _ (by omega); exact run_eqv (by kernel_rfl) (congrArg (fun z => Value.int .i64 z) hw)) ?_
    refine SL.val (v := iv ((l.getD 0 0) - 64)) (w' := w) rfl rfl (by have hw : IntKind.i64.wrap ((l.getD 0 0) - 64) = (l.getD 0 0) - 64 := IntWalk.i64_in _ (by omega); exact run_eqv (by kernel_rfl) (congrArg (fun z => Value.int .i64 z) hw)) ?_
    refine SL.v (iv ((l.getD 0 0) - 64)) ?_
    refine SL.v (.bool true) ?_
    refine SL.nil ?_
    refine CW.ret ?_
    repeat with_reducible first | refine PThen.ret ?_ | refine PBlock.ret ?_
    refine PRet.tmp2 (t := 4) (u := 5) (v := iv ((l.getD 0 0) - 64)) (v' := .bool true) rfl rfl rfl (by kernel_rfl) (by kernel_rfl) ?_
    have hk : bitK l m = true := by unfold bitK; simp only [Bool.and_eq_true, decide_eq_true_eq, Bool.and_eq_false_iff, decide_eq_false_iff_not]; omega
    exact ⟨by unfold bitV; rw [hk]; rfl, hs0.gr⟩
 ·try rw [hb_1]
  have hqhb_1 : l.length ≠ 1 := by intro e; rw [e] at hb_1; simp at hb_1
  refine SL.no true ?_
  refine SL.no true ?_
  refine SL.no true ?_
  refine SL.v (.bool true) ?_
  refine SL.v (.bool true) ?_
  refine SL.no true ?_
  refine SL.no true ?_
  refine SL.no true ?_
  refine SL.no true ?_
  refine SL.no true ?_
  refine SL.no true ?_
  refine SL.v (.bool true) ?_
  refine SL.nil ?_
  refine CW.cond_true (by kernel_rfl) ?_
  refine CW.seq ?_
  refine CW.region ?_
  refine SL.v (iv 0) ?_
  refine SL.v (.bool false) ?_
  refine SL.nil ?_
  refine CW.ret ?_
  repeat with_reducible first | refine PThen.ret ?_ | refine PBlock.ret ?_
  refine PRet.tmp2 (t := 4) (u := 5) (v := iv 0) (v' := .bool false) rfl rfl rfl (by kernel_rfl) (by kernel_rfl) ?_
  have hk : bitK l m = false := by unfold bitK; simp only [Bool.and_eq_true, decide_eq_true_eq, Bool.and_eq_false_iff, decide_eq_false_iff_not]; omega
  exact ⟨by unfold bitV; rw [hk]; rfl, hs0.gr⟩
set_option maxRecDepth 100000 in
theorem upto_any (l : List Int) (m : Int) (w : World) (hl : ∀ c ∈ l, 0 ≤ c ∧ c < 256) (hm : 0 ≤ m ∧ m ≤ 100) (hn : l.length ≤ 100000) : Calls Tryz.prog 31 #[iv m, .string (strOf l)] w fun e w' => e = .returned (.tuple #[iv (bitV l m), .bool (bitK l m)]) ∧ Gr w w' := by
 refine calls_sx (n := 11) (args := [iv m, .string (strOf l)]) Tryz.func31 rfl rfl rfl ?_
 have hs0 := SH.none w
 refine CW.seq ?_
 refine CW.region ?_
 refine SL.v (iv 0) ?_
 refine SL.v (.bool false) ?_
 refine SL.nil ?_
 refine CW.seq ?_
 refine CW.region ?_
 refine SL.v (.string (strOf l)) ?_
 refine SL.v (iv m) ?_
 refine SL.call (f := 72) (args := #[.string (strOf l), iv m]) (w1 := w) rfl rfl (by kernel_rfl) (byteof_any l m w hl hm hn) ?_
 rintro x w_1 ⟨rfl, hc_2⟩
 refine ⟨_, rfl, ?_⟩
 have hs_3 := hs0.grow hc_2
 refine SL.v (iv (bitV l m)) ?_
 refine SL.v (.bool (bitK l m)) ?_
 refine SL.v (iv (bitV l m)) ?_
 refine SL.v (.bool (bitK l m)) ?_
 refine SL.nil ?_
 refine CW.ret ?_
 repeat with_reducible first | refine PThen.ret ?_ | refine PBlock.ret ?_
 refine PRet.tmp2 (t := 4) (u := 5) (v := iv (bitV l m)) (v' := .bool (bitK l m)) rfl rfl rfl (by kernel_rfl) (by kernel_rfl) ?_
 exact ⟨rfl, hs_3.gr⟩
/-! ### Pieces at a separator -/
def qp (x : UInt8) : List UInt8 → List UInt8 × List (List UInt8)
 | [] => ([], [])
 | c :: l => if c = x then ([], (qp x l).1 :: (qp x l).2) else (c :: (qp x l).1, (qp x l).2)
theorem qp_yes (x : UInt8) (l : List UInt8) : qp x (x :: l) = ([], (qp x l).1 :: (qp x l).2) := by
 show (if x = x then _ else _) = _
 rw [if_pos rfl]
theorem qp_no (x c : UInt8) (l : List UInt8) (h : ¬ c = x) : qp x (c :: l) = (c :: (qp x l).1, (qp x l).2) := by
 show (if c = x then _ else _) = _
 rw [if_neg h]
def qps (x : UInt8) (l : List UInt8) : List (List UInt8) := (qp x l).1 :: (qp x l).2
theorem split_qps (x : UInt8) : ∀ l : List UInt8, Lib.splitK [x] 0 (Lib.count l [x]) l = qps x l
 | [] => by rw [Lib.count_one]; rfl
 | c :: l => by
  have ih := split_qps x l
  by_cases hc : c = x
  ·subst hc
   rw [Lib.count_cons_eq, Nat.add_comm, Lib.splitK]
   have hix : Lib.index (c :: l) [c] = 0 := by unfold Lib.index; simp [List.isPrefixOf]
   rw [hix]
   simp only [show ((0 : Int) == -1) = false from rfl, Bool.false_eq_true, if_false]
   simp only [Int.toNat_zero, Nat.zero_add, List.length_cons, List.length_nil, List.take_zero, List.drop_succ_cons, List.drop_zero]
   rw [ih]
   unfold qps
   rw [qp_yes]
  ·rw [Lib.count_cons_ne c x l hc]
   have hp : ([x] : List UInt8).isPrefixOf (c :: l) = false := by simp [List.isPrefixOf]; exact fun h => hc h.symm
   have hix : Lib.index (c :: l) [x] = if Lib.index l [x] == -1 then -1 else Lib.index l [x] + 1 := by rw [Lib.index, hp]; simp
   have hpc : qps x (c :: l) = (c :: (qp x l).1) :: (qp x l).2 := by unfold qps; rw [qp_no x c l hc]
   rw [hpc]
   unfold qps at ih
   generalize Lib.count l [x] = k at ih ⊢
   cases k with
   | zero =>
    rw [Lib.splitK] at ih ⊢
    injection ih with i1 i2
    rw [← i1, ← i2]
   | succ k =>
    rw [Lib.splitK] at ih ⊢
    rw [hix]
    by_cases hm : (Lib.index l [x] == -1) = true
    ·rw [if_pos hm] at ih ⊢
     injection ih with i1 i2
     rw [← i1, ← i2, if_pos (by decide)]
    ·rw [if_neg hm] at ih ⊢
     have hge := Lib.index_ge l [x]
     have hne : Lib.index l [x] ≠ -1 := fun e => hm (by rw [e]; rfl)
     obtain ⟨j, hj⟩ : ∃ j : Nat, Lib.index l [x] = j := ⟨(Lib.index l [x]).toNat, by omega⟩
     rw [hj] at ih ⊢
     have h1 : (((j : Int) + 1) == -1) = false := by simp; omega
     rw [h1]
     simp only [Bool.false_eq_true, if_false]
     have h2 : ((j : Int) + 1).toNat = j + 1 := by omega
     rw [h2]
     injection ih with i1 i2
     simp only [Int.toNat_natCast, Nat.add_zero] at i1 i2
     rw [← i1, ← i2]
     simp
def bi (l : List UInt8) : List Int := l.map fun b => (b.toNat : Int)
theorem qps_semi : ∀ l : List UInt8, (qps 59 l).map bi = splitSemi (bi l)
 | [] => rfl
 | c :: l => by
  have ih := qps_semi l
  by_cases hc : c = 59
  ·subst hc
   unfold qps at ih ⊢
   rw [qp_yes]
   show _ = splitSemi ((59 : Int) :: bi l)
   rw [splitSemi, if_pos rfl, ← ih]
   rfl
  ·have hc' : ((c.toNat : Nat) : Int) ≠ 59 := fun e => hc (UInt8.toNat_inj.1 (by have : (59 : UInt8).toNat = 59 := rfl; omega))
   unfold qps at ih ⊢
   rw [qp_no 59 c l hc]
   show _ = splitSemi ((c.toNat : Int) :: bi l)
   rw [splitSemi, if_neg hc', ← ih]
   rfl
/-- Where a library function reads a global. -/
def MaxOkS (w : World) : Prop := ∃ m, w.cell? ⟨0, 0, none⟩ = some (iv m)
theorem MaxOkS.gr {w w' : World} (h : MaxOkS w) (hg : Gr w w') : MaxOkS w' := by
 obtain ⟨m, hm⟩ := h
 exact ⟨m, hg.cellAt hm⟩
theorem MaxOkS.of {w : World} (h : w.ShapedOpen Tryz.prog) : MaxOkS w := Tryz.laysM146.s1_3 w h
theorem strOf_bi (q : List UInt8) : strOf (bi q) = ⟨q.toArray⟩ := strOf_bytes q
theorem bi_of (l : List Int) (hl : ∀ c ∈ l, 0 ≤ c ∧ c < 256) : ∃ t : List UInt8, l = bi t := by
 refine ⟨l.map fun c => UInt8.ofNat c.toNat, ?_⟩
 unfold bi
 rw [List.map_map]
 conv => lhs; rw [← List.map_id l]
 refine List.map_congr_left fun c hc => ?_
 have := hl c hc
 simp only [id, Function.comp, UInt8.toNat_ofNat']
 omega
/-- A text's fields, in new memory. -/
theorem split_semi (l : List Int) (w : World) (hl : ∀ c ∈ l, 0 ≤ c ∧ c < 256) (hn : l.length ≤ 1000000) (hm : MaxOkS w) : Tr Tryz.prog 28 #[.string (strOf l), .string ⟨#[59]⟩] w []
  (fun v Q => ∃ g, v = sv g 0 (splitSemi l).length (splitSemi l).length ∧ Q = [pt g ((splitSemi l).map fun q => Value.string (strOf q)).toArray 9]) := fun fp hfp => by
 have h0 : fp = [] := hfp
 subst h0
 obtain ⟨t, rfl⟩ := bi_of l hl
 obtain ⟨m, hm⟩ := hm
 have hsz : (strOf (bi t)).size = t.length := by rw [strOf_sz]; unfold bi; simp
 refine (Tryz.strings_Split (strOf (bi t)) ⟨#[59]⟩ m w (by rw [hsz]; unfold bi at hn; simp at hn; omega) hm (by decide)).mono fun e w' hx => ?_
 obtain ⟨rfl, rfl⟩ := hx
 have h1 : (Lib.splitB ⟨#[59]⟩ 0 (Lib.countB (strOf (bi t)) ⟨#[59]⟩) (strOf (bi t))).map (·.data.toList) = qps 59 t := by
  rw [Lib.splitB_data, ← split_qps, strOf_bi]
 have h2 := Lib.splitB_all ⟨#[59]⟩ (by decide) 0 _ (strOf (bi t)) rfl
 generalize Lib.splitB ⟨#[59]⟩ 0 (Lib.countB (strOf (bi t)) ⟨#[59]⟩) (strOf (bi t)) = L at h1 h2 ⊢
 have h3 : (splitSemi (bi t)).map strOf = L := by
  rw [← qps_semi, ← h1, List.map_map, List.map_map]
  conv => rhs; rw [← List.map_id L]
  refine List.map_congr_left fun q _ => ?_
  show strOf (bi q.data.toList) = q
  rw [strOf_bi]
 have h4 : (splitSemi (bi t)).length = L.length := by rw [← h3, List.length_map]
 refine ⟨_, _, [w.heap.size], rfl, ⟨w.heap.size, ?_, rfl⟩, HSt.mk1 ⟨rfl, ?_⟩, ((Gr.refl w).alloc _).updU, by simp⟩
 ·rw [h4, ← h2]
 ·rw [show ((splitSemi (bi t)).map fun q => Value.string (strOf q)) = L.map Value.string by rw [← h3, List.map_map]; rfl]
  exact heap_alloc_new w _
theorem split_byte {l : List Int} (hl : ∀ c ∈ l, 0 ≤ c ∧ c < 256) : ∀ q ∈ splitSemi l, (∀ c ∈ q, 0 ≤ c ∧ c < 256) ∧ q.length ≤ l.length := by
 induction l with
 | nil => intro q hq; simp [splitSemi] at hq; subst hq; simp
 | cons c l ih =>
  have ih' := ih fun x hx => hl x (List.mem_cons_of_mem _ hx)
  intro q hq
  unfold splitSemi at hq
  split at hq
  ·rcases List.mem_cons.1 hq with rfl | hq
   ·simp
   ·have := ih' q hq; exact ⟨this.1, by simp; omega⟩
  ·split at hq
   ·rename_i he; exact absurd he (splitSemi_ne l)
   ·rename_i p r he
    rw [he] at ih'
    rcases List.mem_cons.1 hq with rfl | hq
    ·have := ih' p (by simp)
     refine ⟨fun x hx => ?_, by simp; omega⟩
     rcases List.mem_cons.1 hx with rfl | hx
     ·exact hl _ (by simp)
     ·exact this.1 x hx
    ·have := ih' q (by simp [hq]); exact ⟨this.1, by simp; omega⟩
set_option maxRecDepth 100000 in
set_option maxHeartbeats 4000000 in
theorem next_num (p g k n cp : Nat) (C : Array Value) (f : List Int) (bad : Bool) (w : World) (hf : ∀ c ∈ f, 0 ≤ c ∧ c < 256) (hfn : f.length ≤ 100000) (hC : C[k]? = some (.string (strOf f))) (hn : 1 ≤ n ∧ n ≤ cp ∧ 1 < cp) :
  Tr Tryz.prog 29 #[pv p 0, .func (.func 30) #[] #[]] w [pt p #[sv g k n cp, .bool bad] 78, pt g C 9] (fun v Q => v = iv (numV f) ∧ Q = [pt p #[sv g (k + 1) (n - 1) (cp - 1), .bool (bad || !(numK f))] 78, pt g C 9]) := by
 refine Tr.of fun U hs0 => ?_
 refine calls_sx (n := 38) (args := [pv p 0, .func (.func 30) #[] #[]]) Tryz.func29 rfl rfl rfl ?_
 refine CW.seq ?_
 refine CW.region ?_
 refine SL.v (iv 0) ?_
 refine SL.nil ?_
 refine CW.seq ?_
 refine CW.region ?_
 refine SL.v (.func (.func 30) #[] #[]) ?_
 refine SL.v (pv p 0) ?_
 refine SL.v (pv p 0) ?_
 refine SL.v (pv p 0) ?_
 refine SL.load (g := p) (off := 0) (v := sv g k n cp) rfl rfl rfl (by kernel_rfl) (hs0.pt_at (i := 0) rfl) (by kernel_rfl) ?_
 refine SL.val (v := pv g k) (w' := w) rfl rfl ((run_ix (len := n) (cap := cp) (q := .i64) (I := 0) (g := g) (off := k) (i := 0) (size := 1) rfl (by kernel_rfl) (by kernel_rfl) rfl (by kernel_rfl) (by kernel_rfl) (by omega)).trans (by rw [show k + 0 * 1 = k from by omega])) ?_
 refine SL.load (g := g) (off := k) (v := .string (strOf f)) rfl rfl rfl (by kernel_rfl) (hs0.pt_at (i := 1) rfl) (ldV_one (by kernel_rfl) (by kernel_rfl) hC) ?_
 refine SL.call (f := 30) (args := #[.string (strOf f)]) (w1 := w) rfl rfl (by kernel_rfl) (fnum_any f w hf hfn) ?_
 rintro x w_1 ⟨rfl, hc_2⟩
 refine ⟨_, rfl, ?_⟩
 have hs_3 := hs0.grow hc_2
 refine SL.v (.tuple #[iv (numV f), .bool (numK f)]) ?_
 refine SL.v (iv (numV f)) ?_
 refine SL.v (.bool (numK f)) ?_
 refine SL.v (iv (numV f)) ?_
 refine SL.v (.bool (numK f)) ?_
 refine SL.nil ?_
 refine CW.seq ?_
 rcases Bool.eq_false_or_eq_true (bad) with hb_4 | hb_4
 ·try rw [hb_4]
  rw [hb_4] at hs_3
  obtain ⟨fj_5, hpj_6, hfr_7⟩ := hs_3.frame (Pre := [pt p #[sv g k n cp, .bool true] 78]) (Rest := [pt g C 9]) [0] rfl
  have HGR : GrL [fun v _ => v = pv p 0, fun v _ => v = pv p 0, fun v _ => v = pv p 0, fun v _ => v = pv p 0, fun v _ => v = pv p 0, fun v _ => v = sv g k n cp, fun v _ => v = sv g (k + 1) (n - 1) (cp - 1), fun v _ => v = pv p 0, fun v _ => v = pv p 0, fun v _ => v = pv p 1, fun v _ => v = .bool true, fun v _ => v = .bool true, fun _ _ => True, fun _ _ => True, fun v _ => v = .bool true, fun v _ => v = pv p 0, fun v _ => v = pv p 0, fun _ _ => True] := ⟨fun _ _ _ _ h => h, ⟨fun _ _ _ _ h => h, ⟨fun _ _ _ _ h => h, ⟨fun _ _ _ _ h => h, ⟨fun _ _ _ _ h => h, ⟨fun _ _ _ _ h => h, ⟨fun _ _ _ _ h => h, ⟨fun _ _ _ _ h => h, ⟨fun _ _ _ _ h => h, ⟨fun _ _ _ _ h => h, ⟨fun _ _ _ _ h => h, ⟨fun _ _ _ _ h => h, ⟨fun _ _ _ _ h => h, ⟨fun _ _ _ _ h => h, ⟨fun _ _ _ _ h => h, ⟨fun _ _ _ _ h => h, ⟨fun _ _ _ _ h => h, ⟨fun _ _ _ _ h => h, trivial⟩⟩⟩⟩⟩⟩⟩⟩⟩⟩⟩⟩⟩⟩⟩⟩⟩⟩
  have HPU : PureL [fun v _ => v = pv p 0, fun v _ => v = pv p 0, fun v _ => v = pv p 0, fun v _ => v = pv p 0, fun v _ => v = pv p 0, fun v _ => v = sv g k n cp, fun v _ => v = sv g (k + 1) (n - 1) (cp - 1), fun v _ => v = pv p 0, fun v _ => v = pv p 0, fun v _ => v = pv p 1, fun v _ => v = .bool true, fun v _ => v = .bool true, fun _ _ => True, fun _ _ => True, fun v _ => v = .bool true, fun v _ => v = pv p 0, fun v _ => v = pv p 0, fun _ _ => True] := ⟨fun _ _ _ h => h, ⟨fun _ _ _ h => h, ⟨fun _ _ _ h => h, ⟨fun _ _ _ h => h, ⟨fun _ _ _ h => h, ⟨fun _ _ _ h => h, ⟨fun _ _ _ h => h, ⟨fun _ _ _ h => h, ⟨fun _ _ _ h => h, ⟨fun _ _ _ h => h, ⟨fun _ _ _ h => h, ⟨fun _ _ _ h => h, ⟨fun _ _ _ h => h, ⟨fun _ _ _ h => h, ⟨fun _ _ _ h => h, ⟨fun _ _ _ h => h, ⟨fun _ _ _ h => h, ⟨fun _ _ _ h => h, trivial⟩⟩⟩⟩⟩⟩⟩⟩⟩⟩⟩⟩⟩⟩⟩⟩⟩⟩
  refine CW.drawG 18 (FW [fun v _ => v = pv p 0, fun v _ => v = pv p 0, fun v _ => v = pv p 0, fun v _ => v = pv p 0, fun v _ => v = pv p 0, fun v _ => v = sv g k n cp, fun v _ => v = sv g (k + 1) (n - 1) (cp - 1), fun v _ => v = pv p 0, fun v _ => v = pv p 0, fun v _ => v = pv p 1, fun v _ => v = .bool true, fun v _ => v = .bool true, fun _ _ => True, fun _ _ => True, fun v _ => v = .bool true, fun v _ => v = pv p 0, fun v _ => v = pv p 0, fun _ _ => True]) (BaseS [17] fj_5 w_1 [[pt p #[sv g k n cp, .bool true] 78], [pt p #[sv g (k + 1) (n - 1) (cp - 1), .bool true] 78]]) (by kernel_rfl) (by kernel_rfl) (by kernel_rfl) (by kernel_rfl) (by kernel_rfl) (BaseS.init hpj_6) ?_ ?_
  ·refine ⟨?_, ⟨?_, ⟨?_, ⟨?_, ⟨?_, ⟨?_, ⟨?_, ⟨?_, ⟨?_, ⟨?_, ⟨?_, ⟨?_, ⟨?_, ⟨?_, ⟨?_, ⟨?_, ⟨?_, ⟨?_, trivial⟩⟩⟩⟩⟩⟩⟩⟩⟩⟩⟩⟩⟩⟩⟩⟩⟩⟩
   ·intro L ys W hC hn hB hF hP K hK
    show OpE _ _ _ W K
    exact OpE.val (pv p 0) W (by kernel_rfl) (hK _ W (hB.step (by decide) (Gr.refl W)) rfl (fun _ _ h => h))
   ·intro L ys W hC hn hB hF hP K hK
    show OpE _ _ _ W K
    exact OpE.val (pv p 0) W (by kernel_rfl) (hK _ W (hB.step (by decide) (Gr.refl W)) rfl (fun _ _ h => h))
   ·intro L ys W hC hn hB hF hP K hK
    show OpE _ _ _ W K
    exact OpE.val (pv p 0) W (by kernel_rfl) (hK _ W (hB.step (by decide) (Gr.refl W)) rfl (fun _ _ h => h))
   ·intro L ys W hC hn hB hF hP K hK
    show OpE _ _ _ W K
    exact OpE.known (j := 2) (v := pv p 0) (hF 2 (hP.1 rfl)) (OpE.val (pv p 0) W (by kernel_rfl) (hK _ W (hB.step (by decide) (Gr.refl W)) rfl (fun _ _ h => h)))
   ·intro L ys W hC hn hB hF hP K hK
    show OpE _ _ _ W K
    exact OpE.known (j := 3) (v := pv p 0) (hF 3 (hP.1 rfl)) (OpE.val (pv p 0) W (by kernel_rfl) (hK _ W (hB.step (by decide) (Gr.refl W)) rfl (fun _ _ h => h)))
   ·intro L ys W hC hn hB hF hP K hK
    show OpE _ _ _ W K
    exact OpE.known (j := 4) (v := pv p 0) (hF 4 (hP.1 rfl)) (OpE.load (g := p) (off := 0) (v := sv g k n cp) rfl (by kernel_rfl) ((hB.at_ (k := 0) (P := [pt p #[sv g k n cp, .bool true] 78]) rfl (by decide) rfl prev_0 (next_at 17 rfl (fun hl => hn (hC _ hl 5 (by decide))))).pt_at (i := 0) rfl) (by kernel_rfl) (hK _ W (hB.step (by decide) (Gr.refl W)) rfl (fun _ _ h => h)))
   ·intro L ys W hC hn hB hF hP K hK
    show OpE _ _ _ W K
    exact OpE.known (j := 5) (v := sv g k n cp) (hF 5 (hP.1 rfl)) (OpE.val (sv g (k + 1) (n - 1) (cp - 1)) W ((run_fromN (q := .i64) (I := 1) (g := g) (off := k) (len := n) (cap := cp) (i := 1) (size := 1) rfl (by kernel_rfl) (by kernel_rfl) rfl (by kernel_rfl) (by kernel_rfl) (by omega) (by omega) (by omega)).trans (by rw [show k + 1 * 1 = k + 1 from by omega])) (hK _ W (hB.step (by decide) (Gr.refl W)) rfl (fun _ _ h => h)))
   ·intro L ys W hC hn hB hF hP K hK
    show OpE _ _ _ W K
    exact OpE.val (pv p 0) W (by kernel_rfl) (hK _ W (hB.step (by decide) (Gr.refl W)) rfl (fun _ _ h => h))
   ·intro L ys W hC hn hB hF hP K hK
    show OpE _ _ _ W K
    exact OpE.known (j := 7) (v := pv p 0) (hF 7 (hP.1 rfl)) (OpE.val (pv p 0) W (by kernel_rfl) (hK _ W (hB.step (by decide) (Gr.refl W)) rfl (fun _ _ h => h)))
   ·intro L ys W hC hn hB hF hP K hK
    show OpE _ _ _ W K
    exact OpE.known (j := 8) (v := pv p 0) (hF 8 (hP.1 rfl)) (OpE.val (pv p 1) W (by kernel_rfl) (hK _ W (hB.step (by decide) (Gr.refl W)) rfl (fun _ _ h => h)))
   ·intro L ys W hC hn hB hF hP K hK
    show OpE _ _ _ W K
    exact OpE.known (j := 9) (v := pv p 1) (hF 9 (hP.1 rfl)) (OpE.load (g := p) (off := 1) (v := .bool true) rfl (by kernel_rfl) ((hB.at_ (k := 0) (P := [pt p #[sv g k n cp, .bool true] 78]) rfl (by decide) rfl prev_0 (next_at 17 rfl (fun hl => hn (hC _ hl 10 (by decide))))).pt_at (i := 0) rfl) (by kernel_rfl) (hK _ W (hB.step (by decide) (Gr.refl W)) rfl (fun _ _ h => h)))
   ·intro L ys W hC hn hB hF hP K hK
    show OpE _ _ _ W K
    exact OpE.known (j := 10) (v := .bool true) (hF 10 (hP.1 rfl)) (OpE.val (.bool true) W (by kernel_rfl) (hK _ W (hB.step (by decide) (Gr.refl W)) rfl (fun _ _ h => h)))
   ·intro L ys W hC hn hB hF hP K hK
    refine ⟨29, true, rfl, (show fillE _ 0 ys _ 29 = _ from (hF 11 (hP.1 rfl))), .inr ⟨rfl, ?_⟩⟩
    exact hK _ W (hB.step (by decide) (Gr.refl W)) trivial (fun _ _ h => h)
   ·intro L ys W hC hn hB hF hP K hK
    refine ⟨29, true, rfl, (show fillE _ 0 ys _ 29 = _ from (hF 11 (hP.2.1 rfl))), .inr ⟨rfl, ?_⟩⟩
    exact hK _ W (hB.step (by decide) (Gr.refl W)) trivial (fun _ _ h => h)
   ·intro L ys W hC hn hB hF hP K hK
    show OpE _ _ _ W K
    exact OpE.known (j := 11) (v := .bool true) (hF 11 (hP.1 rfl)) (OpE.val (.bool true) W (by kernel_rfl) (hK _ W (hB.step (by decide) (Gr.refl W)) rfl (fun _ _ h => h)))
   ·intro L ys W hC hn hB hF hP K hK
    show OpE _ _ _ W K
    exact OpE.known (j := 0) (v := pv p 0) (hF 0 (hP.2.1 rfl)) (OpE.val (pv p 0) W (by kernel_rfl) (hK _ W (hB.step (by decide) (Gr.refl W)) rfl (fun _ _ h => h)))
   ·intro L ys W hC hn hB hF hP K hK
    show OpE _ _ _ W K
    exact OpE.known (j := 15) (v := pv p 0) (hF 15 (hP.1 rfl)) (OpE.val (pv p 0) W (by kernel_rfl) (hK _ W (hB.step (by decide) (Gr.refl W)) rfl (fun _ _ h => h)))
   ·intro L ys W hC hn hB hF hP K hK
    show OpE _ _ _ W K
    have hst := hB.at_ (k := 0) (P := [pt p #[sv g k n cp, .bool true] 78]) rfl (by decide) rfl prev_0 (next_at 17 rfl hn)
    obtain ⟨hq_, hu_⟩ := hst.setCells (i := 0) (g := p) (C := #[sv g k n cp, .bool true]) (T := 78) rfl 0 ((sv g (k + 1) (n - 1) (cp - 1) : Value).cells.toList)
    exact OpE.known (j := 16) (v := pv p 0) (hF 16 (hP.1 rfl)) (OpE.known (j := 6) (v := sv g (k + 1) (n - 1) (cp - 1)) (hF 6 (hP.2.2.2.2.2.2.2.2.2.1 rfl)) (OpE.store (g := p) (off := 0) (C := #[sv g k n cp, .bool true]) (T := 78) (v := sv g (k + 1) (n - 1) (cp - 1)) rfl (by kernel_rfl) (by kernel_rfl) (hst.pt_at (i := 0) rfl) (by kernel_rfl) (by kernel_rfl) (by kernel_rfl) (hK _ _ (hB.done (k := 0) (P := [pt p #[sv g k n cp, .bool true] 78]) (P' := [pt p #[sv g (k + 1) (n - 1) (cp - 1), .bool true] 78]) rfl (by decide) rfl rfl rfl prev_0 hn hu_ hq_) trivial (fun _ _ h => FW.pureL HPU h))))
  ·intro ys_12 w_8 hb_9 hF_11
   have hst_ := hb_9.at_ (k := 1) (P := [pt p #[sv g (k + 1) (n - 1) (cp - 1), .bool true] 78]) rfl (by decide) rfl (prev_at (k := 0) 17 rfl (by decide)) (next_end rfl)
   have hs_10 : SH U w w_8 [pt p #[sv g (k + 1) (n - 1) (cp - 1), .bool true] 78, pt g C 9] := hfr_7 w_8 _ fj_5 hb_9.upd hst_ (fun g hg => .inl hg)
   refine SL.knownY (j := 1) (v := pv p 0) (show ys_12 1 = pv p 0 from hF_11 1 (by decide)) (SL.knownY (j := 14) (v := .bool true) (show ys_12 14 = .bool true from hF_11 14 (by decide)) (?_))
   clear hF_11 HGR HPU hst_ hb_9 hfr_7 hpj_6
   refine SL.v (pv p 0) ?_
   refine SL.v (pv p 1) ?_
   refine SL.storeH (i := 0) (g := p) (off := 1) (v := .bool true) (L' := [pt p #[sv g (k + 1) (n - 1) (cp - 1), .bool true] 78, pt g C 9]) hs_10 rfl rfl rfl (by kernel_rfl) (by kernel_rfl) rfl (by kernel_rfl) (by kernel_rfl) rfl (by kernel_rfl) rfl (fun w_13 hs_14 => ?_)
   refine SL.nil ?_
   refine CW.seq ?_
   refine CW.region ?_
   refine SL.v (iv (numV f)) ?_
   refine SL.v (iv (numV f)) ?_
   refine SL.nil ?_
   refine CW.ret ?_
   repeat with_reducible first | refine PThen.ret ?_ | refine PBlock.ret ?_
   refine PRet.tmp (t := 4) (v := iv (numV f)) rfl rfl (by kernel_rfl) ?_
   exact ⟨_, _, rfl, ⟨rfl, rfl⟩, hs_14.pick [0, 0] rfl⟩
 ·try rw [hb_4]
  rw [hb_4] at hs_3
  obtain ⟨fj_15, hpj_16, hfr_17⟩ := hs_3.frame (Pre := [pt p #[sv g k n cp, .bool false] 78]) (Rest := [pt g C 9]) [0] rfl
  have HGR : GrL [fun v _ => v = pv p 0, fun v _ => v = pv p 0, fun v _ => v = pv p 0, fun v _ => v = pv p 0, fun v _ => v = pv p 0, fun v _ => v = sv g k n cp, fun v _ => v = sv g (k + 1) (n - 1) (cp - 1), fun v _ => v = pv p 0, fun v _ => v = pv p 0, fun v _ => v = pv p 1, fun v _ => v = .bool false, fun v _ => v = .bool false, fun v _ => v = .bool (numK f), fun v _ => v = .bool (!(numK f)), fun v _ => v = .bool (!(numK f)), fun v _ => v = pv p 0, fun v _ => v = pv p 0, fun _ _ => True] := ⟨fun _ _ _ _ h => h, ⟨fun _ _ _ _ h => h, ⟨fun _ _ _ _ h => h, ⟨fun _ _ _ _ h => h, ⟨fun _ _ _ _ h => h, ⟨fun _ _ _ _ h => h, ⟨fun _ _ _ _ h => h, ⟨fun _ _ _ _ h => h, ⟨fun _ _ _ _ h => h, ⟨fun _ _ _ _ h => h, ⟨fun _ _ _ _ h => h, ⟨fun _ _ _ _ h => h, ⟨fun _ _ _ _ h => h, ⟨fun _ _ _ _ h => h, ⟨fun _ _ _ _ h => h, ⟨fun _ _ _ _ h => h, ⟨fun _ _ _ _ h => h, ⟨fun _ _ _ _ h => h, trivial⟩⟩⟩⟩⟩⟩⟩⟩⟩⟩⟩⟩⟩⟩⟩⟩⟩⟩
  have HPU : PureL [fun v _ => v = pv p 0, fun v _ => v = pv p 0, fun v _ => v = pv p 0, fun v _ => v = pv p 0, fun v _ => v = pv p 0, fun v _ => v = sv g k n cp, fun v _ => v = sv g (k + 1) (n - 1) (cp - 1), fun v _ => v = pv p 0, fun v _ => v = pv p 0, fun v _ => v = pv p 1, fun v _ => v = .bool false, fun v _ => v = .bool false, fun v _ => v = .bool (numK f), fun v _ => v = .bool (!(numK f)), fun v _ => v = .bool (!(numK f)), fun v _ => v = pv p 0, fun v _ => v = pv p 0, fun _ _ => True] := ⟨fun _ _ _ h => h, ⟨fun _ _ _ h => h, ⟨fun _ _ _ h => h, ⟨fun _ _ _ h => h, ⟨fun _ _ _ h => h, ⟨fun _ _ _ h => h, ⟨fun _ _ _ h => h, ⟨fun _ _ _ h => h, ⟨fun _ _ _ h => h, ⟨fun _ _ _ h => h, ⟨fun _ _ _ h => h, ⟨fun _ _ _ h => h, ⟨fun _ _ _ h => h, ⟨fun _ _ _ h => h, ⟨fun _ _ _ h => h, ⟨fun _ _ _ h => h, ⟨fun _ _ _ h => h, ⟨fun _ _ _ h => h, trivial⟩⟩⟩⟩⟩⟩⟩⟩⟩⟩⟩⟩⟩⟩⟩⟩⟩⟩
  refine CW.drawG 18 (FW [fun v _ => v = pv p 0, fun v _ => v = pv p 0, fun v _ => v = pv p 0, fun v _ => v = pv p 0, fun v _ => v = pv p 0, fun v _ => v = sv g k n cp, fun v _ => v = sv g (k + 1) (n - 1) (cp - 1), fun v _ => v = pv p 0, fun v _ => v = pv p 0, fun v _ => v = pv p 1, fun v _ => v = .bool false, fun v _ => v = .bool false, fun v _ => v = .bool (numK f), fun v _ => v = .bool (!(numK f)), fun v _ => v = .bool (!(numK f)), fun v _ => v = pv p 0, fun v _ => v = pv p 0, fun _ _ => True]) (BaseS [17] fj_15 w_1 [[pt p #[sv g k n cp, .bool false] 78], [pt p #[sv g (k + 1) (n - 1) (cp - 1), .bool false] 78]]) (by kernel_rfl) (by kernel_rfl) (by kernel_rfl) (by kernel_rfl) (by kernel_rfl) (BaseS.init hpj_16) ?_ ?_
  ·refine ⟨?_, ⟨?_, ⟨?_, ⟨?_, ⟨?_, ⟨?_, ⟨?_, ⟨?_, ⟨?_, ⟨?_, ⟨?_, ⟨?_, ⟨?_, ⟨?_, ⟨?_, ⟨?_, ⟨?_, ⟨?_, trivial⟩⟩⟩⟩⟩⟩⟩⟩⟩⟩⟩⟩⟩⟩⟩⟩⟩⟩
   ·intro L ys W hC hn hB hF hP K hK
    show OpE _ _ _ W K
    exact OpE.val (pv p 0) W (by kernel_rfl) (hK _ W (hB.step (by decide) (Gr.refl W)) rfl (fun _ _ h => h))
   ·intro L ys W hC hn hB hF hP K hK
    show OpE _ _ _ W K
    exact OpE.val (pv p 0) W (by kernel_rfl) (hK _ W (hB.step (by decide) (Gr.refl W)) rfl (fun _ _ h => h))
   ·intro L ys W hC hn hB hF hP K hK
    show OpE _ _ _ W K
    exact OpE.val (pv p 0) W (by kernel_rfl) (hK _ W (hB.step (by decide) (Gr.refl W)) rfl (fun _ _ h => h))
   ·intro L ys W hC hn hB hF hP K hK
    show OpE _ _ _ W K
    exact OpE.known (j := 2) (v := pv p 0) (hF 2 (hP.1 rfl)) (OpE.val (pv p 0) W (by kernel_rfl) (hK _ W (hB.step (by decide) (Gr.refl W)) rfl (fun _ _ h => h)))
   ·intro L ys W hC hn hB hF hP K hK
    show OpE _ _ _ W K
    exact OpE.known (j := 3) (v := pv p 0) (hF 3 (hP.1 rfl)) (OpE.val (pv p 0) W (by kernel_rfl) (hK _ W (hB.step (by decide) (Gr.refl W)) rfl (fun _ _ h => h)))
   ·intro L ys W hC hn hB hF hP K hK
    show OpE _ _ _ W K
    exact OpE.known (j := 4) (v := pv p 0) (hF 4 (hP.1 rfl)) (OpE.load (g := p) (off := 0) (v := sv g k n cp) rfl (by kernel_rfl) ((hB.at_ (k := 0) (P := [pt p #[sv g k n cp, .bool false] 78]) rfl (by decide) rfl prev_0 (next_at 17 rfl (fun hl => hn (hC _ hl 5 (by decide))))).pt_at (i := 0) rfl) (by kernel_rfl) (hK _ W (hB.step (by decide) (Gr.refl W)) rfl (fun _ _ h => h)))
   ·intro L ys W hC hn hB hF hP K hK
    show OpE _ _ _ W K
    exact OpE.known (j := 5) (v := sv g k n cp) (hF 5 (hP.1 rfl)) (OpE.val (sv g (k + 1) (n - 1) (cp - 1)) W ((run_fromN (q := .i64) (I := 1) (g := g) (off := k) (len := n) (cap := cp) (i := 1) (size := 1) rfl (by kernel_rfl) (by kernel_rfl) rfl (by kernel_rfl) (by kernel_rfl) (by omega) (by omega) (by omega)).trans (by rw [show k + 1 * 1 = k + 1 from by omega])) (hK _ W (hB.step (by decide) (Gr.refl W)) rfl (fun _ _ h => h)))
   ·intro L ys W hC hn hB hF hP K hK
    show OpE _ _ _ W K
    exact OpE.val (pv p 0) W (by kernel_rfl) (hK _ W (hB.step (by decide) (Gr.refl W)) rfl (fun _ _ h => h))
   ·intro L ys W hC hn hB hF hP K hK
    show OpE _ _ _ W K
    exact OpE.known (j := 7) (v := pv p 0) (hF 7 (hP.1 rfl)) (OpE.val (pv p 0) W (by kernel_rfl) (hK _ W (hB.step (by decide) (Gr.refl W)) rfl (fun _ _ h => h)))
   ·intro L ys W hC hn hB hF hP K hK
    show OpE _ _ _ W K
    exact OpE.known (j := 8) (v := pv p 0) (hF 8 (hP.1 rfl)) (OpE.val (pv p 1) W (by kernel_rfl) (hK _ W (hB.step (by decide) (Gr.refl W)) rfl (fun _ _ h => h)))
   ·intro L ys W hC hn hB hF hP K hK
    show OpE _ _ _ W K
    exact OpE.known (j := 9) (v := pv p 1) (hF 9 (hP.1 rfl)) (OpE.load (g := p) (off := 1) (v := .bool false) rfl (by kernel_rfl) ((hB.at_ (k := 0) (P := [pt p #[sv g k n cp, .bool false] 78]) rfl (by decide) rfl prev_0 (next_at 17 rfl (fun hl => hn (hC _ hl 10 (by decide))))).pt_at (i := 0) rfl) (by kernel_rfl) (hK _ W (hB.step (by decide) (Gr.refl W)) rfl (fun _ _ h => h)))
   ·intro L ys W hC hn hB hF hP K hK
    show OpE _ _ _ W K
    exact OpE.known (j := 10) (v := .bool false) (hF 10 (hP.1 rfl)) (OpE.val (.bool false) W (by kernel_rfl) (hK _ W (hB.step (by decide) (Gr.refl W)) rfl (fun _ _ h => h)))
   ·intro L ys W hC hn hB hF hP K hK
    refine ⟨29, false, rfl, (show fillE _ 0 ys _ 29 = _ from (hF 11 (hP.1 rfl))), .inl ⟨rfl, ?_⟩⟩
    exact OpE.val (.bool (numK f)) W (by kernel_rfl) (hK _ W (hB.step (by decide) (Gr.refl W)) rfl (fun _ _ h => h))
   ·intro L ys W hC hn hB hF hP K hK
    refine ⟨29, false, rfl, (show fillE _ 0 ys _ 29 = _ from (hF 11 (hP.2.1 rfl))), .inl ⟨rfl, ?_⟩⟩
    exact OpE.known (j := 12) (v := .bool (numK f)) (hF 12 (hP.1 rfl)) (OpE.val (.bool (!(numK f))) W (by kernel_rfl) (hK _ W (hB.step (by decide) (Gr.refl W)) rfl (fun _ _ h => h)))
   ·intro L ys W hC hn hB hF hP K hK
    show OpE _ _ _ W K
    exact OpE.known (j := 11) (v := .bool false) (hF 11 (hP.1 rfl)) (OpE.known (j := 13) (v := .bool (!(numK f))) (hF 13 (hP.2.1 rfl)) (OpE.val (.bool (!(numK f))) W (by kernel_rfl) (hK _ W (hB.step (by decide) (Gr.refl W)) rfl (fun _ _ h => h))))
   ·intro L ys W hC hn hB hF hP K hK
    show OpE _ _ _ W K
    exact OpE.known (j := 0) (v := pv p 0) (hF 0 (hP.2.1 rfl)) (OpE.val (pv p 0) W (by kernel_rfl) (hK _ W (hB.step (by decide) (Gr.refl W)) rfl (fun _ _ h => h)))
   ·intro L ys W hC hn hB hF hP K hK
    show OpE _ _ _ W K
    exact OpE.known (j := 15) (v := pv p 0) (hF 15 (hP.1 rfl)) (OpE.val (pv p 0) W (by kernel_rfl) (hK _ W (hB.step (by decide) (Gr.refl W)) rfl (fun _ _ h => h)))
   ·intro L ys W hC hn hB hF hP K hK
    show OpE _ _ _ W K
    have hst := hB.at_ (k := 0) (P := [pt p #[sv g k n cp, .bool false] 78]) rfl (by decide) rfl prev_0 (next_at 17 rfl hn)
    obtain ⟨hq_, hu_⟩ := hst.setCells (i := 0) (g := p) (C := #[sv g k n cp, .bool false]) (T := 78) rfl 0 ((sv g (k + 1) (n - 1) (cp - 1) : Value).cells.toList)
    exact OpE.known (j := 16) (v := pv p 0) (hF 16 (hP.1 rfl)) (OpE.known (j := 6) (v := sv g (k + 1) (n - 1) (cp - 1)) (hF 6 (hP.2.2.2.2.2.2.2.2.2.1 rfl)) (OpE.store (g := p) (off := 0) (C := #[sv g k n cp, .bool false]) (T := 78) (v := sv g (k + 1) (n - 1) (cp - 1)) rfl (by kernel_rfl) (by kernel_rfl) (hst.pt_at (i := 0) rfl) (by kernel_rfl) (by kernel_rfl) (by kernel_rfl) (hK _ _ (hB.done (k := 0) (P := [pt p #[sv g k n cp, .bool false] 78]) (P' := [pt p #[sv g (k + 1) (n - 1) (cp - 1), .bool false] 78]) rfl (by decide) rfl rfl rfl prev_0 hn hu_ hq_) trivial (fun _ _ h => FW.pureL HPU h))))
  ·intro ys_22 w_18 hb_19 hF_21
   have hst_ := hb_19.at_ (k := 1) (P := [pt p #[sv g (k + 1) (n - 1) (cp - 1), .bool false] 78]) rfl (by decide) rfl (prev_at (k := 0) 17 rfl (by decide)) (next_end rfl)
   have hs_20 : SH U w w_18 [pt p #[sv g (k + 1) (n - 1) (cp - 1), .bool false] 78, pt g C 9] := hfr_17 w_18 _ fj_15 hb_19.upd hst_ (fun g hg => .inl hg)
   refine SL.knownY (j := 1) (v := pv p 0) (show ys_22 1 = pv p 0 from hF_21 1 (by decide)) (SL.knownY (j := 14) (v := .bool (!(numK f))) (show ys_22 14 = .bool (!(numK f)) from hF_21 14 (by decide)) (?_))
   clear hF_21 HGR HPU hst_ hb_19 hfr_17 hpj_16
   refine SL.v (pv p 0) ?_
   refine SL.v (pv p 1) ?_
   refine SL.storeH (i := 0) (g := p) (off := 1) (v := .bool (!(numK f))) (L' := [pt p #[sv g (k + 1) (n - 1) (cp - 1), .bool (!(numK f))] 78, pt g C 9]) hs_20 rfl rfl rfl (by kernel_rfl) (by kernel_rfl) rfl (by kernel_rfl) (by kernel_rfl) rfl (by kernel_rfl) rfl (fun w_23 hs_24 => ?_)
   refine SL.nil ?_
   refine CW.seq ?_
   refine CW.region ?_
   refine SL.v (iv (numV f)) ?_
   refine SL.v (iv (numV f)) ?_
   refine SL.nil ?_
   refine CW.ret ?_
   repeat with_reducible first | refine PThen.ret ?_ | refine PBlock.ret ?_
   refine PRet.tmp (t := 4) (v := iv (numV f)) rfl rfl (by kernel_rfl) ?_
   exact ⟨_, _, rfl, ⟨rfl, rfl⟩, hs_24.pick [0, 0] rfl⟩
set_option maxRecDepth 100000 in
set_option maxHeartbeats 4000000 in
theorem next_bit (p g k n cp : Nat) (C : Array Value) (f : List Int) (bad : Bool) (w : World) (hf : ∀ c ∈ f, 0 ≤ c ∧ c < 256) (hfn : f.length ≤ 100000) (hC : C[k]? = some (.string (strOf f))) (hn : 1 ≤ n ∧ n ≤ cp ∧ 1 < cp) (m : Int) (hm : 0 ≤ m ∧ m ≤ 100) :
  Tr Tryz.prog 29 #[pv p 0, .func (.func 31) #[iv m] #[]] w [pt p #[sv g k n cp, .bool bad] 78, pt g C 9] (fun v Q => v = iv (bitV f m) ∧ Q = [pt p #[sv g (k + 1) (n - 1) (cp - 1), .bool (bad || !(bitK f m))] 78, pt g C 9]) := by
 refine Tr.of fun U hs0 => ?_
 refine calls_sx (n := 38) (args := [pv p 0, .func (.func 31) #[iv m] #[]]) Tryz.func29 rfl rfl rfl ?_
 refine CW.seq ?_
 refine CW.region ?_
 refine SL.v (iv 0) ?_
 refine SL.nil ?_
 refine CW.seq ?_
 refine CW.region ?_
 refine SL.v (.func (.func 31) #[iv m] #[]) ?_
 refine SL.v (pv p 0) ?_
 refine SL.v (pv p 0) ?_
 refine SL.v (pv p 0) ?_
 refine SL.load (g := p) (off := 0) (v := sv g k n cp) rfl rfl rfl (by kernel_rfl) (hs0.pt_at (i := 0) rfl) (by kernel_rfl) ?_
 refine SL.val (v := pv g k) (w' := w) rfl rfl ((run_ix (len := n) (cap := cp) (q := .i64) (I := 0) (g := g) (off := k) (i := 0) (size := 1) rfl (by kernel_rfl) (by kernel_rfl) rfl (by kernel_rfl) (by kernel_rfl) (by omega)).trans (by rw [show k + 0 * 1 = k from by omega])) ?_
 refine SL.load (g := g) (off := k) (v := .string (strOf f)) rfl rfl rfl (by kernel_rfl) (hs0.pt_at (i := 1) rfl) (ldV_one (by kernel_rfl) (by kernel_rfl) hC) ?_
 refine SL.call (f := 31) (args := #[iv m, .string (strOf f)]) (w1 := w) rfl rfl (by kernel_rfl) (upto_any f m w hf hm hfn) ?_
 rintro x w_1 ⟨rfl, hc_2⟩
 refine ⟨_, rfl, ?_⟩
 have hs_3 := hs0.grow hc_2
 refine SL.v (.tuple #[iv (bitV f m), .bool (bitK f m)]) ?_
 refine SL.v (iv (bitV f m)) ?_
 refine SL.v (.bool (bitK f m)) ?_
 refine SL.v (iv (bitV f m)) ?_
 refine SL.v (.bool (bitK f m)) ?_
 refine SL.nil ?_
 refine CW.seq ?_
 rcases Bool.eq_false_or_eq_true (bad) with hb_4 | hb_4
 ·try rw [hb_4]
  rw [hb_4] at hs_3
  obtain ⟨fj_5, hpj_6, hfr_7⟩ := hs_3.frame (Pre := [pt p #[sv g k n cp, .bool true] 78]) (Rest := [pt g C 9]) [0] rfl
  have HGR : GrL [fun v _ => v = pv p 0, fun v _ => v = pv p 0, fun v _ => v = pv p 0, fun v _ => v = pv p 0, fun v _ => v = pv p 0, fun v _ => v = sv g k n cp, fun v _ => v = sv g (k + 1) (n - 1) (cp - 1), fun v _ => v = pv p 0, fun v _ => v = pv p 0, fun v _ => v = pv p 1, fun v _ => v = .bool true, fun v _ => v = .bool true, fun _ _ => True, fun _ _ => True, fun v _ => v = .bool true, fun v _ => v = pv p 0, fun v _ => v = pv p 0, fun _ _ => True] := ⟨fun _ _ _ _ h => h, ⟨fun _ _ _ _ h => h, ⟨fun _ _ _ _ h => h, ⟨fun _ _ _ _ h => h, ⟨fun _ _ _ _ h => h, ⟨fun _ _ _ _ h => h, ⟨fun _ _ _ _ h => h, ⟨fun _ _ _ _ h => h, ⟨fun _ _ _ _ h => h, ⟨fun _ _ _ _ h => h, ⟨fun _ _ _ _ h => h, ⟨fun _ _ _ _ h => h, ⟨fun _ _ _ _ h => h, ⟨fun _ _ _ _ h => h, ⟨fun _ _ _ _ h => h, ⟨fun _ _ _ _ h => h, ⟨fun _ _ _ _ h => h, ⟨fun _ _ _ _ h => h, trivial⟩⟩⟩⟩⟩⟩⟩⟩⟩⟩⟩⟩⟩⟩⟩⟩⟩⟩
  have HPU : PureL [fun v _ => v = pv p 0, fun v _ => v = pv p 0, fun v _ => v = pv p 0, fun v _ => v = pv p 0, fun v _ => v = pv p 0, fun v _ => v = sv g k n cp, fun v _ => v = sv g (k + 1) (n - 1) (cp - 1), fun v _ => v = pv p 0, fun v _ => v = pv p 0, fun v _ => v = pv p 1, fun v _ => v = .bool true, fun v _ => v = .bool true, fun _ _ => True, fun _ _ => True, fun v _ => v = .bool true, fun v _ => v = pv p 0, fun v _ => v = pv p 0, fun _ _ => True] := ⟨fun _ _ _ h => h, ⟨fun _ _ _ h => h, ⟨fun _ _ _ h => h, ⟨fun _ _ _ h => h, ⟨fun _ _ _ h => h, ⟨fun _ _ _ h => h, ⟨fun _ _ _ h => h, ⟨fun _ _ _ h => h, ⟨fun _ _ _ h => h, ⟨fun _ _ _ h => h, ⟨fun _ _ _ h => h, ⟨fun _ _ _ h => h, ⟨fun _ _ _ h => h, ⟨fun _ _ _ h => h, ⟨fun _ _ _ h => h, ⟨fun _ _ _ h => h, ⟨fun _ _ _ h => h, ⟨fun _ _ _ h => h, trivial⟩⟩⟩⟩⟩⟩⟩⟩⟩⟩⟩⟩⟩⟩⟩⟩⟩⟩
  refine CW.drawG 18 (FW [fun v _ => v = pv p 0, fun v _ => v = pv p 0, fun v _ => v = pv p 0, fun v _ => v = pv p 0, fun v _ => v = pv p 0, fun v _ => v = sv g k n cp, fun v _ => v = sv g (k + 1) (n - 1) (cp - 1), fun v _ => v = pv p 0, fun v _ => v = pv p 0, fun v _ => v = pv p 1, fun v _ => v = .bool true, fun v _ => v = .bool true, fun _ _ => True, fun _ _ => True, fun v _ => v = .bool true, fun v _ => v = pv p 0, fun v _ => v = pv p 0, fun _ _ => True]) (BaseS [17] fj_5 w_1 [[pt p #[sv g k n cp, .bool true] 78], [pt p #[sv g (k + 1) (n - 1) (cp - 1), .bool true] 78]]) (by kernel_rfl) (by kernel_rfl) (by kernel_rfl) (by kernel_rfl) (by kernel_rfl) (BaseS.init hpj_6) ?_ ?_
  ·refine ⟨?_, ⟨?_, ⟨?_, ⟨?_, ⟨?_, ⟨?_, ⟨?_, ⟨?_, ⟨?_, ⟨?_, ⟨?_, ⟨?_, ⟨?_, ⟨?_, ⟨?_, ⟨?_, ⟨?_, ⟨?_, trivial⟩⟩⟩⟩⟩⟩⟩⟩⟩⟩⟩⟩⟩⟩⟩⟩⟩⟩
   ·intro L ys W hC hn hB hF hP K hK
    show OpE _ _ _ W K
    exact OpE.val (pv p 0) W (by kernel_rfl) (hK _ W (hB.step (by decide) (Gr.refl W)) rfl (fun _ _ h => h))
   ·intro L ys W hC hn hB hF hP K hK
    show OpE _ _ _ W K
    exact OpE.val (pv p 0) W (by kernel_rfl) (hK _ W (hB.step (by decide) (Gr.refl W)) rfl (fun _ _ h => h))
   ·intro L ys W hC hn hB hF hP K hK
    show OpE _ _ _ W K
    exact OpE.val (pv p 0) W (by kernel_rfl) (hK _ W (hB.step (by decide) (Gr.refl W)) rfl (fun _ _ h => h))
   ·intro L ys W hC hn hB hF hP K hK
    show OpE _ _ _ W K
    exact OpE.known (j := 2) (v := pv p 0) (hF 2 (hP.1 rfl)) (OpE.val (pv p 0) W (by kernel_rfl) (hK _ W (hB.step (by decide) (Gr.refl W)) rfl (fun _ _ h => h)))
   ·intro L ys W hC hn hB hF hP K hK
    show OpE _ _ _ W K
    exact OpE.known (j := 3) (v := pv p 0) (hF 3 (hP.1 rfl)) (OpE.val (pv p 0) W (by kernel_rfl) (hK _ W (hB.step (by decide) (Gr.refl W)) rfl (fun _ _ h => h)))
   ·intro L ys W hC hn hB hF hP K hK
    show OpE _ _ _ W K
    exact OpE.known (j := 4) (v := pv p 0) (hF 4 (hP.1 rfl)) (OpE.load (g := p) (off := 0) (v := sv g k n cp) rfl (by kernel_rfl) ((hB.at_ (k := 0) (P := [pt p #[sv g k n cp, .bool true] 78]) rfl (by decide) rfl prev_0 (next_at 17 rfl (fun hl => hn (hC _ hl 5 (by decide))))).pt_at (i := 0) rfl) (by kernel_rfl) (hK _ W (hB.step (by decide) (Gr.refl W)) rfl (fun _ _ h => h)))
   ·intro L ys W hC hn hB hF hP K hK
    show OpE _ _ _ W K
    exact OpE.known (j := 5) (v := sv g k n cp) (hF 5 (hP.1 rfl)) (OpE.val (sv g (k + 1) (n - 1) (cp - 1)) W ((run_fromN (q := .i64) (I := 1) (g := g) (off := k) (len := n) (cap := cp) (i := 1) (size := 1) rfl (by kernel_rfl) (by kernel_rfl) rfl (by kernel_rfl) (by kernel_rfl) (by omega) (by omega) (by omega)).trans (by rw [show k + 1 * 1 = k + 1 from by omega])) (hK _ W (hB.step (by decide) (Gr.refl W)) rfl (fun _ _ h => h)))
   ·intro L ys W hC hn hB hF hP K hK
    show OpE _ _ _ W K
    exact OpE.val (pv p 0) W (by kernel_rfl) (hK _ W (hB.step (by decide) (Gr.refl W)) rfl (fun _ _ h => h))
   ·intro L ys W hC hn hB hF hP K hK
    show OpE _ _ _ W K
    exact OpE.known (j := 7) (v := pv p 0) (hF 7 (hP.1 rfl)) (OpE.val (pv p 0) W (by kernel_rfl) (hK _ W (hB.step (by decide) (Gr.refl W)) rfl (fun _ _ h => h)))
   ·intro L ys W hC hn hB hF hP K hK
    show OpE _ _ _ W K
    exact OpE.known (j := 8) (v := pv p 0) (hF 8 (hP.1 rfl)) (OpE.val (pv p 1) W (by kernel_rfl) (hK _ W (hB.step (by decide) (Gr.refl W)) rfl (fun _ _ h => h)))
   ·intro L ys W hC hn hB hF hP K hK
    show OpE _ _ _ W K
    exact OpE.known (j := 9) (v := pv p 1) (hF 9 (hP.1 rfl)) (OpE.load (g := p) (off := 1) (v := .bool true) rfl (by kernel_rfl) ((hB.at_ (k := 0) (P := [pt p #[sv g k n cp, .bool true] 78]) rfl (by decide) rfl prev_0 (next_at 17 rfl (fun hl => hn (hC _ hl 10 (by decide))))).pt_at (i := 0) rfl) (by kernel_rfl) (hK _ W (hB.step (by decide) (Gr.refl W)) rfl (fun _ _ h => h)))
   ·intro L ys W hC hn hB hF hP K hK
    show OpE _ _ _ W K
    exact OpE.known (j := 10) (v := .bool true) (hF 10 (hP.1 rfl)) (OpE.val (.bool true) W (by kernel_rfl) (hK _ W (hB.step (by decide) (Gr.refl W)) rfl (fun _ _ h => h)))
   ·intro L ys W hC hn hB hF hP K hK
    refine ⟨29, true, rfl, (show fillE _ 0 ys _ 29 = _ from (hF 11 (hP.1 rfl))), .inr ⟨rfl, ?_⟩⟩
    exact hK _ W (hB.step (by decide) (Gr.refl W)) trivial (fun _ _ h => h)
   ·intro L ys W hC hn hB hF hP K hK
    refine ⟨29, true, rfl, (show fillE _ 0 ys _ 29 = _ from (hF 11 (hP.2.1 rfl))), .inr ⟨rfl, ?_⟩⟩
    exact hK _ W (hB.step (by decide) (Gr.refl W)) trivial (fun _ _ h => h)
   ·intro L ys W hC hn hB hF hP K hK
    show OpE _ _ _ W K
    exact OpE.known (j := 11) (v := .bool true) (hF 11 (hP.1 rfl)) (OpE.val (.bool true) W (by kernel_rfl) (hK _ W (hB.step (by decide) (Gr.refl W)) rfl (fun _ _ h => h)))
   ·intro L ys W hC hn hB hF hP K hK
    show OpE _ _ _ W K
    exact OpE.known (j := 0) (v := pv p 0) (hF 0 (hP.2.1 rfl)) (OpE.val (pv p 0) W (by kernel_rfl) (hK _ W (hB.step (by decide) (Gr.refl W)) rfl (fun _ _ h => h)))
   ·intro L ys W hC hn hB hF hP K hK
    show OpE _ _ _ W K
    exact OpE.known (j := 15) (v := pv p 0) (hF 15 (hP.1 rfl)) (OpE.val (pv p 0) W (by kernel_rfl) (hK _ W (hB.step (by decide) (Gr.refl W)) rfl (fun _ _ h => h)))
   ·intro L ys W hC hn hB hF hP K hK
    show OpE _ _ _ W K
    have hst := hB.at_ (k := 0) (P := [pt p #[sv g k n cp, .bool true] 78]) rfl (by decide) rfl prev_0 (next_at 17 rfl hn)
    obtain ⟨hq_, hu_⟩ := hst.setCells (i := 0) (g := p) (C := #[sv g k n cp, .bool true]) (T := 78) rfl 0 ((sv g (k + 1) (n - 1) (cp - 1) : Value).cells.toList)
    exact OpE.known (j := 16) (v := pv p 0) (hF 16 (hP.1 rfl)) (OpE.known (j := 6) (v := sv g (k + 1) (n - 1) (cp - 1)) (hF 6 (hP.2.2.2.2.2.2.2.2.2.1 rfl)) (OpE.store (g := p) (off := 0) (C := #[sv g k n cp, .bool true]) (T := 78) (v := sv g (k + 1) (n - 1) (cp - 1)) rfl (by kernel_rfl) (by kernel_rfl) (hst.pt_at (i := 0) rfl) (by kernel_rfl) (by kernel_rfl) (by kernel_rfl) (hK _ _ (hB.done (k := 0) (P := [pt p #[sv g k n cp, .bool true] 78]) (P' := [pt p #[sv g (k + 1) (n - 1) (cp - 1), .bool true] 78]) rfl (by decide) rfl rfl rfl prev_0 hn hu_ hq_) trivial (fun _ _ h => FW.pureL HPU h))))
  ·intro ys_12 w_8 hb_9 hF_11
   have hst_ := hb_9.at_ (k := 1) (P := [pt p #[sv g (k + 1) (n - 1) (cp - 1), .bool true] 78]) rfl (by decide) rfl (prev_at (k := 0) 17 rfl (by decide)) (next_end rfl)
   have hs_10 : SH U w w_8 [pt p #[sv g (k + 1) (n - 1) (cp - 1), .bool true] 78, pt g C 9] := hfr_7 w_8 _ fj_5 hb_9.upd hst_ (fun g hg => .inl hg)
   refine SL.knownY (j := 1) (v := pv p 0) (show ys_12 1 = pv p 0 from hF_11 1 (by decide)) (SL.knownY (j := 14) (v := .bool true) (show ys_12 14 = .bool true from hF_11 14 (by decide)) (?_))
   clear hF_11 HGR HPU hst_ hb_9 hfr_7 hpj_6
   refine SL.v (pv p 0) ?_
   refine SL.v (pv p 1) ?_
   refine SL.storeH (i := 0) (g := p) (off := 1) (v := .bool true) (L' := [pt p #[sv g (k + 1) (n - 1) (cp - 1), .bool true] 78, pt g C 9]) hs_10 rfl rfl rfl (by kernel_rfl) (by kernel_rfl) rfl (by kernel_rfl) (by kernel_rfl) rfl (by kernel_rfl) rfl (fun w_13 hs_14 => ?_)
   refine SL.nil ?_
   refine CW.seq ?_
   refine CW.region ?_
   refine SL.v (iv (bitV f m)) ?_
   refine SL.v (iv (bitV f m)) ?_
   refine SL.nil ?_
   refine CW.ret ?_
   repeat with_reducible first | refine PThen.ret ?_ | refine PBlock.ret ?_
   refine PRet.tmp (t := 4) (v := iv (bitV f m)) rfl rfl (by kernel_rfl) ?_
   exact ⟨_, _, rfl, ⟨rfl, rfl⟩, hs_14.pick [0, 0] rfl⟩
 ·try rw [hb_4]
  rw [hb_4] at hs_3
  obtain ⟨fj_15, hpj_16, hfr_17⟩ := hs_3.frame (Pre := [pt p #[sv g k n cp, .bool false] 78]) (Rest := [pt g C 9]) [0] rfl
  have HGR : GrL [fun v _ => v = pv p 0, fun v _ => v = pv p 0, fun v _ => v = pv p 0, fun v _ => v = pv p 0, fun v _ => v = pv p 0, fun v _ => v = sv g k n cp, fun v _ => v = sv g (k + 1) (n - 1) (cp - 1), fun v _ => v = pv p 0, fun v _ => v = pv p 0, fun v _ => v = pv p 1, fun v _ => v = .bool false, fun v _ => v = .bool false, fun v _ => v = .bool (bitK f m), fun v _ => v = .bool (!(bitK f m)), fun v _ => v = .bool (!(bitK f m)), fun v _ => v = pv p 0, fun v _ => v = pv p 0, fun _ _ => True] := ⟨fun _ _ _ _ h => h, ⟨fun _ _ _ _ h => h, ⟨fun _ _ _ _ h => h, ⟨fun _ _ _ _ h => h, ⟨fun _ _ _ _ h => h, ⟨fun _ _ _ _ h => h, ⟨fun _ _ _ _ h => h, ⟨fun _ _ _ _ h => h, ⟨fun _ _ _ _ h => h, ⟨fun _ _ _ _ h => h, ⟨fun _ _ _ _ h => h, ⟨fun _ _ _ _ h => h, ⟨fun _ _ _ _ h => h, ⟨fun _ _ _ _ h => h, ⟨fun _ _ _ _ h => h, ⟨fun _ _ _ _ h => h, ⟨fun _ _ _ _ h => h, ⟨fun _ _ _ _ h => h, trivial⟩⟩⟩⟩⟩⟩⟩⟩⟩⟩⟩⟩⟩⟩⟩⟩⟩⟩
  have HPU : PureL [fun v _ => v = pv p 0, fun v _ => v = pv p 0, fun v _ => v = pv p 0, fun v _ => v = pv p 0, fun v _ => v = pv p 0, fun v _ => v = sv g k n cp, fun v _ => v = sv g (k + 1) (n - 1) (cp - 1), fun v _ => v = pv p 0, fun v _ => v = pv p 0, fun v _ => v = pv p 1, fun v _ => v = .bool false, fun v _ => v = .bool false, fun v _ => v = .bool (bitK f m), fun v _ => v = .bool (!(bitK f m)), fun v _ => v = .bool (!(bitK f m)), fun v _ => v = pv p 0, fun v _ => v = pv p 0, fun _ _ => True] := ⟨fun _ _ _ h => h, ⟨fun _ _ _ h => h, ⟨fun _ _ _ h => h, ⟨fun _ _ _ h => h, ⟨fun _ _ _ h => h, ⟨fun _ _ _ h => h, ⟨fun _ _ _ h => h, ⟨fun _ _ _ h => h, ⟨fun _ _ _ h => h, ⟨fun _ _ _ h => h, ⟨fun _ _ _ h => h, ⟨fun _ _ _ h => h, ⟨fun _ _ _ h => h, ⟨fun _ _ _ h => h, ⟨fun _ _ _ h => h, ⟨fun _ _ _ h => h, ⟨fun _ _ _ h => h, ⟨fun _ _ _ h => h, trivial⟩⟩⟩⟩⟩⟩⟩⟩⟩⟩⟩⟩⟩⟩⟩⟩⟩⟩
  refine CW.drawG 18 (FW [fun v _ => v = pv p 0, fun v _ => v = pv p 0, fun v _ => v = pv p 0, fun v _ => v = pv p 0, fun v _ => v = pv p 0, fun v _ => v = sv g k n cp, fun v _ => v = sv g (k + 1) (n - 1) (cp - 1), fun v _ => v = pv p 0, fun v _ => v = pv p 0, fun v _ => v = pv p 1, fun v _ => v = .bool false, fun v _ => v = .bool false, fun v _ => v = .bool (bitK f m), fun v _ => v = .bool (!(bitK f m)), fun v _ => v = .bool (!(bitK f m)), fun v _ => v = pv p 0, fun v _ => v = pv p 0, fun _ _ => True]) (BaseS [17] fj_15 w_1 [[pt p #[sv g k n cp, .bool false] 78], [pt p #[sv g (k + 1) (n - 1) (cp - 1), .bool false] 78]]) (by kernel_rfl) (by kernel_rfl) (by kernel_rfl) (by kernel_rfl) (by kernel_rfl) (BaseS.init hpj_16) ?_ ?_
  ·refine ⟨?_, ⟨?_, ⟨?_, ⟨?_, ⟨?_, ⟨?_, ⟨?_, ⟨?_, ⟨?_, ⟨?_, ⟨?_, ⟨?_, ⟨?_, ⟨?_, ⟨?_, ⟨?_, ⟨?_, ⟨?_, trivial⟩⟩⟩⟩⟩⟩⟩⟩⟩⟩⟩⟩⟩⟩⟩⟩⟩⟩
   ·intro L ys W hC hn hB hF hP K hK
    show OpE _ _ _ W K
    exact OpE.val (pv p 0) W (by kernel_rfl) (hK _ W (hB.step (by decide) (Gr.refl W)) rfl (fun _ _ h => h))
   ·intro L ys W hC hn hB hF hP K hK
    show OpE _ _ _ W K
    exact OpE.val (pv p 0) W (by kernel_rfl) (hK _ W (hB.step (by decide) (Gr.refl W)) rfl (fun _ _ h => h))
   ·intro L ys W hC hn hB hF hP K hK
    show OpE _ _ _ W K
    exact OpE.val (pv p 0) W (by kernel_rfl) (hK _ W (hB.step (by decide) (Gr.refl W)) rfl (fun _ _ h => h))
   ·intro L ys W hC hn hB hF hP K hK
    show OpE _ _ _ W K
    exact OpE.known (j := 2) (v := pv p 0) (hF 2 (hP.1 rfl)) (OpE.val (pv p 0) W (by kernel_rfl) (hK _ W (hB.step (by decide) (Gr.refl W)) rfl (fun _ _ h => h)))
   ·intro L ys W hC hn hB hF hP K hK
    show OpE _ _ _ W K
    exact OpE.known (j := 3) (v := pv p 0) (hF 3 (hP.1 rfl)) (OpE.val (pv p 0) W (by kernel_rfl) (hK _ W (hB.step (by decide) (Gr.refl W)) rfl (fun _ _ h => h)))
   ·intro L ys W hC hn hB hF hP K hK
    show OpE _ _ _ W K
    exact OpE.known (j := 4) (v := pv p 0) (hF 4 (hP.1 rfl)) (OpE.load (g := p) (off := 0) (v := sv g k n cp) rfl (by kernel_rfl) ((hB.at_ (k := 0) (P := [pt p #[sv g k n cp, .bool false] 78]) rfl (by decide) rfl prev_0 (next_at 17 rfl (fun hl => hn (hC _ hl 5 (by decide))))).pt_at (i := 0) rfl) (by kernel_rfl) (hK _ W (hB.step (by decide) (Gr.refl W)) rfl (fun _ _ h => h)))
   ·intro L ys W hC hn hB hF hP K hK
    show OpE _ _ _ W K
    exact OpE.known (j := 5) (v := sv g k n cp) (hF 5 (hP.1 rfl)) (OpE.val (sv g (k + 1) (n - 1) (cp - 1)) W ((run_fromN (q := .i64) (I := 1) (g := g) (off := k) (len := n) (cap := cp) (i := 1) (size := 1) rfl (by kernel_rfl) (by kernel_rfl) rfl (by kernel_rfl) (by kernel_rfl) (by omega) (by omega) (by omega)).trans (by rw [show k + 1 * 1 = k + 1 from by omega])) (hK _ W (hB.step (by decide) (Gr.refl W)) rfl (fun _ _ h => h)))
   ·intro L ys W hC hn hB hF hP K hK
    show OpE _ _ _ W K
    exact OpE.val (pv p 0) W (by kernel_rfl) (hK _ W (hB.step (by decide) (Gr.refl W)) rfl (fun _ _ h => h))
   ·intro L ys W hC hn hB hF hP K hK
    show OpE _ _ _ W K
    exact OpE.known (j := 7) (v := pv p 0) (hF 7 (hP.1 rfl)) (OpE.val (pv p 0) W (by kernel_rfl) (hK _ W (hB.step (by decide) (Gr.refl W)) rfl (fun _ _ h => h)))
   ·intro L ys W hC hn hB hF hP K hK
    show OpE _ _ _ W K
    exact OpE.known (j := 8) (v := pv p 0) (hF 8 (hP.1 rfl)) (OpE.val (pv p 1) W (by kernel_rfl) (hK _ W (hB.step (by decide) (Gr.refl W)) rfl (fun _ _ h => h)))
   ·intro L ys W hC hn hB hF hP K hK
    show OpE _ _ _ W K
    exact OpE.known (j := 9) (v := pv p 1) (hF 9 (hP.1 rfl)) (OpE.load (g := p) (off := 1) (v := .bool false) rfl (by kernel_rfl) ((hB.at_ (k := 0) (P := [pt p #[sv g k n cp, .bool false] 78]) rfl (by decide) rfl prev_0 (next_at 17 rfl (fun hl => hn (hC _ hl 10 (by decide))))).pt_at (i := 0) rfl) (by kernel_rfl) (hK _ W (hB.step (by decide) (Gr.refl W)) rfl (fun _ _ h => h)))
   ·intro L ys W hC hn hB hF hP K hK
    show OpE _ _ _ W K
    exact OpE.known (j := 10) (v := .bool false) (hF 10 (hP.1 rfl)) (OpE.val (.bool false) W (by kernel_rfl) (hK _ W (hB.step (by decide) (Gr.refl W)) rfl (fun _ _ h => h)))
   ·intro L ys W hC hn hB hF hP K hK
    refine ⟨29, false, rfl, (show fillE _ 0 ys _ 29 = _ from (hF 11 (hP.1 rfl))), .inl ⟨rfl, ?_⟩⟩
    exact OpE.val (.bool (bitK f m)) W (by kernel_rfl) (hK _ W (hB.step (by decide) (Gr.refl W)) rfl (fun _ _ h => h))
   ·intro L ys W hC hn hB hF hP K hK
    refine ⟨29, false, rfl, (show fillE _ 0 ys _ 29 = _ from (hF 11 (hP.2.1 rfl))), .inl ⟨rfl, ?_⟩⟩
    exact OpE.known (j := 12) (v := .bool (bitK f m)) (hF 12 (hP.1 rfl)) (OpE.val (.bool (!(bitK f m))) W (by kernel_rfl) (hK _ W (hB.step (by decide) (Gr.refl W)) rfl (fun _ _ h => h)))
   ·intro L ys W hC hn hB hF hP K hK
    show OpE _ _ _ W K
    exact OpE.known (j := 11) (v := .bool false) (hF 11 (hP.1 rfl)) (OpE.known (j := 13) (v := .bool (!(bitK f m))) (hF 13 (hP.2.1 rfl)) (OpE.val (.bool (!(bitK f m))) W (by kernel_rfl) (hK _ W (hB.step (by decide) (Gr.refl W)) rfl (fun _ _ h => h))))
   ·intro L ys W hC hn hB hF hP K hK
    show OpE _ _ _ W K
    exact OpE.known (j := 0) (v := pv p 0) (hF 0 (hP.2.1 rfl)) (OpE.val (pv p 0) W (by kernel_rfl) (hK _ W (hB.step (by decide) (Gr.refl W)) rfl (fun _ _ h => h)))
   ·intro L ys W hC hn hB hF hP K hK
    show OpE _ _ _ W K
    exact OpE.known (j := 15) (v := pv p 0) (hF 15 (hP.1 rfl)) (OpE.val (pv p 0) W (by kernel_rfl) (hK _ W (hB.step (by decide) (Gr.refl W)) rfl (fun _ _ h => h)))
   ·intro L ys W hC hn hB hF hP K hK
    show OpE _ _ _ W K
    have hst := hB.at_ (k := 0) (P := [pt p #[sv g k n cp, .bool false] 78]) rfl (by decide) rfl prev_0 (next_at 17 rfl hn)
    obtain ⟨hq_, hu_⟩ := hst.setCells (i := 0) (g := p) (C := #[sv g k n cp, .bool false]) (T := 78) rfl 0 ((sv g (k + 1) (n - 1) (cp - 1) : Value).cells.toList)
    exact OpE.known (j := 16) (v := pv p 0) (hF 16 (hP.1 rfl)) (OpE.known (j := 6) (v := sv g (k + 1) (n - 1) (cp - 1)) (hF 6 (hP.2.2.2.2.2.2.2.2.2.1 rfl)) (OpE.store (g := p) (off := 0) (C := #[sv g k n cp, .bool false]) (T := 78) (v := sv g (k + 1) (n - 1) (cp - 1)) rfl (by kernel_rfl) (by kernel_rfl) (hst.pt_at (i := 0) rfl) (by kernel_rfl) (by kernel_rfl) (by kernel_rfl) (hK _ _ (hB.done (k := 0) (P := [pt p #[sv g k n cp, .bool false] 78]) (P' := [pt p #[sv g (k + 1) (n - 1) (cp - 1), .bool false] 78]) rfl (by decide) rfl rfl rfl prev_0 hn hu_ hq_) trivial (fun _ _ h => FW.pureL HPU h))))
  ·intro ys_22 w_18 hb_19 hF_21
   have hst_ := hb_19.at_ (k := 1) (P := [pt p #[sv g (k + 1) (n - 1) (cp - 1), .bool false] 78]) rfl (by decide) rfl (prev_at (k := 0) 17 rfl (by decide)) (next_end rfl)
   have hs_20 : SH U w w_18 [pt p #[sv g (k + 1) (n - 1) (cp - 1), .bool false] 78, pt g C 9] := hfr_17 w_18 _ fj_15 hb_19.upd hst_ (fun g hg => .inl hg)
   refine SL.knownY (j := 1) (v := pv p 0) (show ys_22 1 = pv p 0 from hF_21 1 (by decide)) (SL.knownY (j := 14) (v := .bool (!(bitK f m))) (show ys_22 14 = .bool (!(bitK f m)) from hF_21 14 (by decide)) (?_))
   clear hF_21 HGR HPU hst_ hb_19 hfr_17 hpj_16
   refine SL.v (pv p 0) ?_
   refine SL.v (pv p 1) ?_
   refine SL.storeH (i := 0) (g := p) (off := 1) (v := .bool (!(bitK f m))) (L' := [pt p #[sv g (k + 1) (n - 1) (cp - 1), .bool (!(bitK f m))] 78, pt g C 9]) hs_20 rfl rfl rfl (by kernel_rfl) (by kernel_rfl) rfl (by kernel_rfl) (by kernel_rfl) rfl (by kernel_rfl) rfl (fun w_23 hs_24 => ?_)
   refine SL.nil ?_
   refine CW.seq ?_
   refine CW.region ?_
   refine SL.v (iv (bitV f m)) ?_
   refine SL.v (iv (bitV f m)) ?_
   refine SL.nil ?_
   refine CW.ret ?_
   repeat with_reducible first | refine PThen.ret ?_ | refine PBlock.ret ?_
   refine PRet.tmp (t := 4) (v := iv (bitV f m)) rfl rfl (by kernel_rfl) ?_
   exact ⟨_, _, rfl, ⟨rfl, rfl⟩, hs_24.pick [0, 0] rfl⟩
end Go.Proofs.YtfkecgkfcldffaaGreatDoor
