/-
 The law StateCursors (gen_sts.py).
-/
import Derived.Test.YtfkecgkfcldffaaGreatDoorZStM
import Derived.Test.YtfkecgkfcldffaaGreatDoorZStZ
import Derived.Test.YtfkecgkfcldffaaGreatDoorZStT
namespace Go.Proofs.YtfkecgkfcldffaaGreatDoor
set_option linter.unusedSimpArgs false
set_option linter.unusedVariables false
open Go.ChangeShapes Go.WideShapes Go.RowKit
set_option linter.unusedVariables false

/-- What a text brings back of a cursor: the state, and whether it did. -/
def curP (c : Cor) (l : List Int) : Cor × Bool :=
 match splitSemi l with
 | [f0, f1, f2, f3, f4, f5, f6, f7, f8, f9] => bif okCur c f0 f1 f2 f3 f4 f5 f6 f7 f8 f9 then ((ccur c f0 f1 f2 f3 f4 f5 f6 f7 f8 f9 (curS7 c f0 f1 f2 f3 f4 f5 f6 f7 f8 f9).1 (sgl (bitV f5 15))).clean, true) else (c.clean, false)
 | _ => (c.clean, false)
def curC (c : Cor) (l : List Int) : Cor := (curP c l).1
def curOk (c : Cor) (l : List Int) : Bool := (curP c l).2
theorem is10 {l : List (List Int)} (h : l.length = 10) : ∃ f0 f1 f2 f3 f4 f5 f6 f7 f8 f9, l = [f0, f1, f2, f3, f4, f5, f6, f7, f8, f9] := by
 match l, h with
 | [f0, f1, f2, f3, f4, f5, f6, f7, f8, f9], _ => exact ⟨f0, f1, f2, f3, f4, f5, f6, f7, f8, f9, rfl⟩
theorem cur_no {c : Cor} {l : List Int} (hx : (splitSemi l).length ≠ 10) : curC c l = c.clean ∧ curOk c l = false := by
 unfold curC curOk curP
 split
 ·rename_i he; rw [he] at hx; exact absurd rfl hx
 ·exact ⟨rfl, rfl⟩
theorem cur_10 {c : Cor} {l : List Int} (f0 f1 f2 f3 f4 f5 f6 f7 f8 f9 : List Int) (hx : splitSemi l = [f0, f1, f2, f3, f4, f5, f6, f7, f8, f9]) : curC c l = (bif okCur c f0 f1 f2 f3 f4 f5 f6 f7 f8 f9 then (ccur c f0 f1 f2 f3 f4 f5 f6 f7 f8 f9 (curS7 c f0 f1 f2 f3 f4 f5 f6 f7 f8 f9).1 (sgl (bitV f5 15))).clean else c.clean) ∧ curOk c l = okCur c f0 f1 f2 f3 f4 f5 f6 f7 f8 f9 := by
 unfold curC curOk curP
 rw [hx]
 simp only
 cases okCur c f0 f1 f2 f3 f4 f5 f6 f7 f8 f9 <;> exact ⟨rfl, rfl⟩
theorem ten_b {l : List Int} (hl : ∀ c ∈ l, 0 ≤ c ∧ c < 256) {f0 f1 f2 f3 f4 f5 f6 f7 f8 f9 : List Int} (hx : splitSemi l = [f0, f1, f2, f3, f4, f5, f6, f7, f8, f9]) : ((∀ c ∈ f0, 0 ≤ c ∧ c < 256) ∧ f0.length ≤ l.length) ∧ ((∀ c ∈ f1, 0 ≤ c ∧ c < 256) ∧ f1.length ≤ l.length) ∧ ((∀ c ∈ f2, 0 ≤ c ∧ c < 256) ∧ f2.length ≤ l.length) ∧ ((∀ c ∈ f3, 0 ≤ c ∧ c < 256) ∧ f3.length ≤ l.length) ∧ ((∀ c ∈ f4, 0 ≤ c ∧ c < 256) ∧ f4.length ≤ l.length) ∧ ((∀ c ∈ f5, 0 ≤ c ∧ c < 256) ∧ f5.length ≤ l.length) ∧ ((∀ c ∈ f6, 0 ≤ c ∧ c < 256) ∧ f6.length ≤ l.length) ∧ ((∀ c ∈ f7, 0 ≤ c ∧ c < 256) ∧ f7.length ≤ l.length) ∧ ((∀ c ∈ f8, 0 ≤ c ∧ c < 256) ∧ f8.length ≤ l.length) ∧ ((∀ c ∈ f9, 0 ≤ c ∧ c < 256) ∧ f9.length ≤ l.length) := by
 have h := split_byte hl
 rw [hx] at h
 simp only [List.forall_mem_cons, List.not_mem_nil, false_implies, implies_true, and_true] at h
 exact h
theorem psc_any (c : Cor) (l : List Int) (w : World) (hok : c.Ok) (hM : MaxOkS w) (hl : ∀ c ∈ l, 0 ≤ c ∧ c < 256) (hn : l.length ≤ 300) : Calls Tryz.prog 10 #[.agg (cvA c), .string (strOf l)] w fun e w' => e = .returned (.tuple #[.agg (cvA (curC c l)), iv (errK (curOk c l))]) ∧ Gr w w' := by
 by_cases hx : (splitSemi l).length = 10
 ·obtain ⟨f0, f1, f2, f3, f4, f5, f6, f7, f8, f9, hx⟩ := is10 hx
  obtain ⟨⟨hf0, nf0⟩, ⟨hf1, nf1⟩, ⟨hf2, nf2⟩, ⟨hf3, nf3⟩, ⟨hf4, nf4⟩, ⟨hf5, nf5⟩, ⟨hf6, nf6⟩, ⟨hf7, nf7⟩, ⟨hf8, nf8⟩, ⟨hf9, nf9⟩⟩ := ten_b hl hx
  obtain ⟨e1, e2⟩ := cur_10 (c := c) f0 f1 f2 f3 f4 f5 f6 f7 f8 f9 hx
  rw [e1, e2]
  have h := setc_10 c l f0 f1 f2 f3 f4 f5 f6 f7 f8 f9 w hok hM hl (by omega) hx hf0 hf1 hf2 hf3 hf4 hf5 hf6 hf7 hf8 hf9 (by omega) (by omega) (by omega) (by omega) (by omega) (by omega) (by omega) (by omega) (by omega) (by omega)
  cases hk : okCur c f0 f1 f2 f3 f4 f5 f6 f7 f8 f9 with
  | true => rw [hk] at h; exact h
  | false => rw [hk] at h; exact h
 ·obtain ⟨e1, e2⟩ := cur_no (c := c) hx
  rw [e1, e2]
  exact setc_no c l w hok hM hl (by omega) hx
theorem dsc_any (c : Cor) (l : List Int) (w : World) (hok : c.Ok) (hl : ∀ c ∈ l, 0 ≤ c ∧ c < 256) (hn : l.length ≤ 300) : Calls Tryz.prog 11 #[.agg (cdA c), .string (strOf l)] w fun e w' => e = .returned (.tuple #[.agg (cdA (curC c l)), .bool (curOk c l)]) ∧ Gr w w' := by
 by_cases hx : (splitSemi l).length = 10
 ·obtain ⟨f0, f1, f2, f3, f4, f5, f6, f7, f8, f9, hx⟩ := is10 hx
  obtain ⟨⟨hf0, nf0⟩, ⟨hf1, nf1⟩, ⟨hf2, nf2⟩, ⟨hf3, nf3⟩, ⟨hf4, nf4⟩, ⟨hf5, nf5⟩, ⟨hf6, nf6⟩, ⟨hf7, nf7⟩, ⟨hf8, nf8⟩, ⟨hf9, nf9⟩⟩ := ten_b hl hx
  obtain ⟨e1, e2⟩ := cur_10 (c := c) f0 f1 f2 f3 f4 f5 f6 f7 f8 f9 hx
  rw [e1, e2]
  cases hb : curK f0 f1 f2 f3 f4 f5 f6 f7 f8 f9 with
  | false =>
   have hq : okCur c f0 f1 f2 f3 f4 f5 f6 f7 f8 f9 = false := by unfold okCur; rw [hb]; rfl
   rw [hq]
   exact dsc_bad c l f0 f1 f2 f3 f4 f5 f6 f7 f8 f9 w hok hl hn hx hf0 hf1 hf2 hf3 hf4 hf5 hf6 hf7 hf8 hf9 (by omega) (by omega) (by omega) (by omega) (by omega) (by omega) (by omega) (by omega) (by omega) (by omega) hb
  | true =>
   unfold curK at hb
   simp only [Bool.and_eq_true] at hb
   obtain ⟨⟨⟨⟨⟨⟨⟨⟨k0, k1⟩, k2⟩, k3⟩, k4⟩, k5⟩, k6⟩, k7⟩, k8⟩ := hb
   have h := dsc_y c l f0 f1 f2 f3 f4 f5 f6 f7 f8 f9 _ rfl w hok hl hn hx hf0 hf1 hf2 hf3 hf4 hf5 hf6 hf7 hf8 hf9 (by omega) (by omega) (by omega) (by omega) (by omega) (by omega) (by omega) (by omega) (by omega) (by omega) k0 k1 k2 k3 k4 k5 k6 k7 k8
   cases hk : okCur c f0 f1 f2 f3 f4 f5 f6 f7 f8 f9 with
   | true => rw [hk] at h; exact h
   | false => rw [hk] at h; exact h
 ·obtain ⟨e1, e2⟩ := cur_no (c := c) hx
  rw [e1, e2]
  exact dsc_no c l w hok hl hn hx
theorem sgl_in (h : Int) (h0 : 0 ≤ h ∧ h ≤ 15) : I6 (sgl h) := by
 unfold sgl I6
 cases decide (0 < h / 2 % 4)
 ·rw [cond_false]; omega
 ·rw [cond_true]; omega
theorem curC_ok {c : Cor} (h : c.Ok) (l : List Int) : (curC c l).Ok := by
 by_cases hx : (splitSemi l).length = 10
 ·obtain ⟨f0, f1, f2, f3, f4, f5, f6, f7, f8, f9, hx⟩ := is10 hx
  rw [(cur_10 (c := c) f0 f1 f2 f3 f4 f5 f6 f7 f8 f9 hx).1]
  cases okCur c f0 f1 f2 f3 f4 f5 f6 f7 f8 f9 with
  | true => exact (ccur_ok h f0 f1 f2 f3 f4 f5 f6 f7 f8 f9 (rstR_in (s7_in h)) (sgl_in _ (bitV_in f5 (m := 15) (by decide)))).clean
  | false => exact h.clean
 ·rw [(cur_no (c := c) hx).1]; exact h.clean
/-- The cursor of a state, as a list of bytes. -/
def curL (c : Cor) : List Int := (curS c).data.toList.map fun b => (b.toNat : Int)
theorem curL_s (c : Cor) : curS c = strOf (curL c) := by unfold curL; rw [strOf_bytes]
theorem curL_b (c : Cor) : ∀ x ∈ curL c, 0 ≤ x ∧ x < 256 := by
 intro x hx
 obtain ⟨b, _, rfl⟩ := List.mem_map.1 hx
 have := b.toNat_lt; omega
theorem curL_l (c : Cor) : (curL c).length ≤ 300 := by
 unfold curL curS joinB
 rw [List.length_map]
 show (Lib.join _ [59]).length ≤ 300
 refine Nat.le_trans (join_le 18 _ ?_) (Nat.le_of_ble_eq_true rfl)
 simp only [List.forall_mem_cons, List.not_mem_nil, false_implies, implies_true, and_true]
 refine ⟨fmt_sz _ 3 (Nat.le_refl _), ?_, ?_, ?_, Nat.le_trans (fmt_sz _ 2 (Nat.le_refl _)) (by decide), ?_, Nat.le_trans (ids_sz _) (by decide)⟩ <;> exact Nat.le_trans (Nat.le_of_eq (strOf_sz _)) (Nat.le_of_ble_eq_true rfl)
set_option maxRecDepth 100000 in
set_option maxHeartbeats 8000000 in
theorem curs_no1 (c d : Cor) (l : List Int) (w : World) (hT : tabT w) (hM : MaxOkS w) (hl : ∀ c ∈ l, 0 ≤ c ∧ c < 256) (hbig : l.length ≤ 9223372036854775807) (hsc : smallZ c = false) : Calls Tryz.prog 3 #[.agg (cdA c), .agg (cdA d), .string (strOf l)] w fun e w' => e = .returned (.bool true) ∧ Gr w w' := by
 refine calls_sx (n := 76) (args := [.agg (cdA c), .agg (cdA d), .string (strOf l)]) Tryz.func3 rfl rfl rfl ?_
 have hs0 := SH.none w
 refine CW.seq ?_
 refine CW.region ?_
 refine SL.newH (mk := fun g => pv g 0) (C := (cdA c)) (T := 33) hs0 rfl rfl (by kernel_rfl) (fun g_1 w_2 hs_3 => ?_)
 have hs_3 : SH [] w w_2 [pt g_1 (cdA c) 33] := hs_3
 refine SL.newH (mk := fun g => pv g 0) (C := (cdA d)) (T := 33) hs_3 rfl rfl (by kernel_rfl) (fun g_4 w_5 hs_6 => ?_)
 have hs_6 : SH [] w w_5 [pt g_1 (cdA c) 33, pt g_4 (cdA d) 33] := hs_6
 refine SL.v (.bool false) ?_
 refine SL.nil ?_
 refine CW.seq ?_
 refine CW.seq ?_
 refine CW.region ?_
 refine SL.call (f := 5) (args := #[]) (w1 := w_5) rfl rfl (by kernel_rfl) (awake_19 w_5 (hT.gr hs_6.gr)) ?_
 rintro x w_7 ⟨rfl, hc_8⟩
 refine ⟨_, rfl, ?_⟩
 have hs_9 := hs_6.grow hc_8
 refine SL.v (.bool false) ?_
 refine SL.nil ?_
 refine CW.cond_false (by kernel_rfl) ?_
 refine CW.skip ?_
 refine CW.seq ?_
 refine CW.seq ?_
 refine CW.region ?_
 refine SL.load (g := g_1) (off := 0) (v := .agg (cdA c)) rfl rfl rfl (by kernel_rfl) (hs_9.pt_at (i := 0) rfl) (by kernel_rfl) ?_
 refine SL.call (f := 6) (args := #[.agg (cdA c)]) (w1 := w_7) rfl rfl (by kernel_rfl) (hsc ▸ small_any c w_7) ?_
 rintro x w_10 ⟨rfl, hc_11⟩
 refine ⟨_, rfl, ?_⟩
 have hs_12 := hs_9.grow hc_11
 refine SL.v (.bool true) ?_
 refine SL.v (.bool true) ?_
 refine SL.no true ?_
 refine SL.no true ?_
 refine SL.no true ?_
 refine SL.v (.bool true) ?_
 refine SL.nil ?_
 refine CW.cond_true (by kernel_rfl) ?_
 refine CW.seq ?_
 refine CW.region ?_
 refine SL.v (.bool true) ?_
 refine SL.nil ?_
 refine CW.ret ?_
 repeat with_reducible first | refine PThen.ret ?_ | refine PBlock.ret ?_
 refine PRet.tmp (t := 6) (v := .bool true) rfl rfl (by kernel_rfl) ?_
 exact ⟨rfl, hs_12.gr⟩
set_option maxRecDepth 100000 in
set_option maxHeartbeats 8000000 in
theorem curs_no2 (c d : Cor) (l : List Int) (w : World) (hT : tabT w) (hM : MaxOkS w) (hl : ∀ c ∈ l, 0 ≤ c ∧ c < 256) (hbig : l.length ≤ 9223372036854775807) (hsc : smallZ c = true) (hsd : smallZ d = false) : Calls Tryz.prog 3 #[.agg (cdA c), .agg (cdA d), .string (strOf l)] w fun e w' => e = .returned (.bool true) ∧ Gr w w' := by
 refine calls_sx (n := 76) (args := [.agg (cdA c), .agg (cdA d), .string (strOf l)]) Tryz.func3 rfl rfl rfl ?_
 have hs0 := SH.none w
 refine CW.seq ?_
 refine CW.region ?_
 refine SL.newH (mk := fun g => pv g 0) (C := (cdA c)) (T := 33) hs0 rfl rfl (by kernel_rfl) (fun g_1 w_2 hs_3 => ?_)
 have hs_3 : SH [] w w_2 [pt g_1 (cdA c) 33] := hs_3
 refine SL.newH (mk := fun g => pv g 0) (C := (cdA d)) (T := 33) hs_3 rfl rfl (by kernel_rfl) (fun g_4 w_5 hs_6 => ?_)
 have hs_6 : SH [] w w_5 [pt g_1 (cdA c) 33, pt g_4 (cdA d) 33] := hs_6
 refine SL.v (.bool false) ?_
 refine SL.nil ?_
 refine CW.seq ?_
 refine CW.seq ?_
 refine CW.region ?_
 refine SL.call (f := 5) (args := #[]) (w1 := w_5) rfl rfl (by kernel_rfl) (awake_19 w_5 (hT.gr hs_6.gr)) ?_
 rintro x w_7 ⟨rfl, hc_8⟩
 refine ⟨_, rfl, ?_⟩
 have hs_9 := hs_6.grow hc_8
 refine SL.v (.bool false) ?_
 refine SL.nil ?_
 refine CW.cond_false (by kernel_rfl) ?_
 refine CW.skip ?_
 refine CW.seq ?_
 refine CW.seq ?_
 refine CW.region ?_
 refine SL.load (g := g_1) (off := 0) (v := .agg (cdA c)) rfl rfl rfl (by kernel_rfl) (hs_9.pt_at (i := 0) rfl) (by kernel_rfl) ?_
 refine SL.call (f := 6) (args := #[.agg (cdA c)]) (w1 := w_7) rfl rfl (by kernel_rfl) (hsc ▸ small_any c w_7) ?_
 rintro x w_10 ⟨rfl, hc_11⟩
 refine ⟨_, rfl, ?_⟩
 have hs_12 := hs_9.grow hc_11
 refine SL.v (.bool false) ?_
 refine SL.v (.bool false) ?_
 refine SL.go ?_
 refine SL.load (g := g_4) (off := 0) (v := .agg (cdA d)) rfl rfl rfl (by kernel_rfl) (hs_12.pt_at (i := 1) rfl) (by kernel_rfl) ?_
 refine SL.go ?_
 refine SL.call (f := 6) (args := #[.agg (cdA d)]) (w1 := w_10) rfl rfl (by kernel_rfl) (hsd ▸ small_any d w_10) ?_
 rintro x w_13 ⟨rfl, hc_14⟩
 refine ⟨_, rfl, ?_⟩
 have hs_15 := hs_12.grow hc_14
 refine SL.go ?_
 refine SL.v (.bool true) ?_
 refine SL.v (.bool true) ?_
 refine SL.nil ?_
 refine CW.cond_true (by kernel_rfl) ?_
 refine CW.seq ?_
 refine CW.region ?_
 refine SL.v (.bool true) ?_
 refine SL.nil ?_
 refine CW.ret ?_
 repeat with_reducible first | refine PThen.ret ?_ | refine PBlock.ret ?_
 refine PRet.tmp (t := 6) (v := .bool true) rfl rfl (by kernel_rfl) ?_
 exact ⟨rfl, hs_15.gr⟩
set_option maxRecDepth 100000 in
set_option maxHeartbeats 8000000 in
theorem curs_yes (c d : Cor) (l : List Int) (w : World) (hT : tabT w) (hM : MaxOkS w) (hl : ∀ c ∈ l, 0 ≤ c ∧ c < 256) (hbig : l.length ≤ 9223372036854775807) (hokc : c.Ok) (hokd : d.Ok) (hsc : smallZ c = true) (hsd : smallZ d = true) : Calls Tryz.prog 3 #[.agg (cdA c), .agg (cdA d), .string (strOf l)] w fun e w' => e = .returned (.bool true) ∧ Gr w w' := by
 have hmc := hokc.modes
 have hmd := hokd.modes
 refine calls_sx (n := 76) (args := [.agg (cdA c), .agg (cdA d), .string (strOf l)]) Tryz.func3 rfl rfl rfl ?_
 have hs0 := SH.none w
 refine CW.seq ?_
 refine CW.region ?_
 refine SL.newH (mk := fun g => pv g 0) (C := (cdA c)) (T := 33) hs0 rfl rfl (by kernel_rfl) (fun g_1 w_2 hs_3 => ?_)
 have hs_3 : SH [] w w_2 [pt g_1 (cdA c) 33] := hs_3
 refine SL.newH (mk := fun g => pv g 0) (C := (cdA d)) (T := 33) hs_3 rfl rfl (by kernel_rfl) (fun g_4 w_5 hs_6 => ?_)
 have hs_6 : SH [] w w_5 [pt g_1 (cdA c) 33, pt g_4 (cdA d) 33] := hs_6
 refine SL.v (.bool false) ?_
 refine SL.nil ?_
 refine CW.seq ?_
 refine CW.seq ?_
 refine CW.region ?_
 refine SL.call (f := 5) (args := #[]) (w1 := w_5) rfl rfl (by kernel_rfl) (awake_19 w_5 (hT.gr hs_6.gr)) ?_
 rintro x w_7 ⟨rfl, hc_8⟩
 refine ⟨_, rfl, ?_⟩
 have hs_9 := hs_6.grow hc_8
 refine SL.v (.bool false) ?_
 refine SL.nil ?_
 refine CW.cond_false (by kernel_rfl) ?_
 refine CW.skip ?_
 refine CW.seq ?_
 refine CW.seq ?_
 refine CW.region ?_
 refine SL.load (g := g_1) (off := 0) (v := .agg (cdA c)) rfl rfl rfl (by kernel_rfl) (hs_9.pt_at (i := 0) rfl) (by kernel_rfl) ?_
 refine SL.call (f := 6) (args := #[.agg (cdA c)]) (w1 := w_7) rfl rfl (by kernel_rfl) (hsc ▸ small_any c w_7) ?_
 rintro x w_10 ⟨rfl, hc_11⟩
 refine ⟨_, rfl, ?_⟩
 have hs_12 := hs_9.grow hc_11
 refine SL.v (.bool false) ?_
 refine SL.v (.bool false) ?_
 refine SL.go ?_
 refine SL.load (g := g_4) (off := 0) (v := .agg (cdA d)) rfl rfl rfl (by kernel_rfl) (hs_12.pt_at (i := 1) rfl) (by kernel_rfl) ?_
 refine SL.go ?_
 refine SL.call (f := 6) (args := #[.agg (cdA d)]) (w1 := w_10) rfl rfl (by kernel_rfl) (hsd ▸ small_any d w_10) ?_
 rintro x w_13 ⟨rfl, hc_14⟩
 refine ⟨_, rfl, ?_⟩
 have hs_15 := hs_12.grow hc_14
 refine SL.go ?_
 refine SL.v (.bool false) ?_
 refine SL.v (.bool false) ?_
 refine SL.nil ?_
 refine CW.cond_false (by kernel_rfl) ?_
 refine CW.skip ?_
 refine CW.seq ?_
 refine CW.seq ?_
 refine CW.region ?_
 refine SL.v (.string (strOf l)) ?_
 refine SL.val (v := iv ((l.length : Nat) : Int)) (w' := w_13) rfl rfl (run_slen rfl (by kernel_rfl) (by kernel_rfl) (strOf_sz _)) ?_
 refine SL.v (.bool (decide (300 < ((l.length : Nat) : Int)))) ?_
 refine SL.nil ?_
 refine CW.mid (fun e9 w9 => SH [] w w9 [pt g_1 (cdA c) 33, pt g_4 (cdA d) 33] ∧ e9 2 = .string (strOf (bif (decide (300 < ((l.length : Nat) : Int))) then l.take 300 else l)) ∧ e9 3 = pv g_1 0 ∧ e9 4 = pv g_4 0 ∧ e9 6 = .bool false) ?_ ?_
 ·skip
  rcases Bool.eq_false_or_eq_true (decide (300 < ((l.length : Nat) : Int))) with hb_17 | hb_17
  ·try rw [hb_17]
   have hqhb_17 := of_decide_eq_true hb_17
   refine CW.cond_true (by kernel_rfl) ?_
   refine CW.region ?_
   refine SL.v (.string (strOf l)) ?_
   refine SL.val (v := .string (strOf (l.take 300))) (w' := w_13) rfl rfl (run_sto (q := .i64) (I := 300) (l := l) (i := 300) rfl (by kernel_rfl) (by kernel_rfl) rfl (by kernel_rfl) (by omega)) ?_
   refine SL.v (.string (strOf (l.take 300))) ?_
   refine SL.nil ?_
   exact ⟨hs_15, (by kernel_rfl), (by kernel_rfl), (by kernel_rfl), (by kernel_rfl)⟩
  ·try rw [hb_17]
   have hqhb_17 := of_decide_eq_false hb_17
   refine CW.cond_false (by kernel_rfl) ?_
   refine CW.skip ?_
   exact ⟨hs_15, (by kernel_rfl), (by kernel_rfl), (by kernel_rfl), (by kernel_rfl)⟩
 ·rintro e_18 w_19 ⟨hs_20, hv_22, hv_23, hv_24, hv_25⟩
  obtain ⟨e_21, rfl⟩ : ∃ e_21, e_18 = put1 (put1 (put1 (put1 e_21 2 (.string (strOf (cutL l)))) 3 (pv g_1 0)) 4 (pv g_4 0)) 6 (.bool false) := ⟨e_18, (put_self hv_25).trans (congrArg (fun z => put1 z 6 (.bool false)) ((put_self hv_24).trans (congrArg (fun z => put1 z 4 (pv g_4 0)) ((put_self hv_23).trans (congrArg (fun z => put1 z 3 (pv g_1 0)) (put_self hv_22))))))⟩
  clear hv_22 hv_23 hv_24 hv_25
  refine CW.seq ?_
  refine CW.region ?_
  refine SL.load (g := g_1) (off := 0) (v := .agg (cdA c)) rfl rfl rfl (by kernel_rfl) (hs_20.pt_at (i := 0) rfl) (by kernel_rfl) ?_
  refine SL.call (f := 7) (args := #[.agg (cdA c)]) (w1 := w_19) rfl rfl (by kernel_rfl) (own19 c w_19 hmc) ?_
  rintro x w_26 ⟨rfl, hc_27⟩
  refine ⟨_, rfl, ?_⟩
  have hs_28 := hs_20.grow hc_27
  refine SL.call (f := 8) (args := #[.agg (cvA c)]) (w1 := w_26) rfl rfl (by kernel_rfl) (curL_s c ▸ cur_any c w_26 hokc (hT.gr hs_28.gr)) ?_
  rintro x w_29 ⟨rfl, hc_30⟩
  refine ⟨_, rfl, ?_⟩
  have hs_31 := hs_28.grow hc_30
  refine SL.v (.string (strOf (curL c))) ?_
  refine SL.nil ?_
  refine CW.seq ?_
  refine CW.seq ?_
  refine CW.region ?_
  refine SL.v (.string (strOf (curL c))) ?_
  refine SL.load (g := g_1) (off := 0) (v := .agg (cdA c)) rfl rfl rfl (by kernel_rfl) (hs_31.pt_at (i := 0) rfl) (by kernel_rfl) ?_
  refine SL.call (f := 9) (args := #[.agg (cdA c)]) (w1 := w_29) rfl rfl (by kernel_rfl) (curL_s c ▸ dtold_any c w_29 hokc (hT.gr hs_31.gr)) ?_
  rintro x w_32 ⟨rfl, hc_33⟩
  refine ⟨_, rfl, ?_⟩
  have hs_34 := hs_31.grow hc_33
  refine SL.val (v := .bool false) (w' := w_32) rfl rfl (run_strneB (a := strOf (curL c)) (b := strOf (curL c)) (c := true) rfl (by kernel_rfl) (by kernel_rfl) (seqB_self _)) ?_
  refine SL.nil ?_
  refine CW.cond_false (by kernel_rfl) ?_
  refine CW.skip ?_
  refine CW.seq ?_
  refine CW.seq ?_
  refine CW.region ?_
  refine SL.v (.string (strOf (curL c))) ?_
  refine SL.v (.string (strOf (cutL l))) ?_
  refine SL.newH (mk := fun g => sv g 0 2 2) (C := #[.string (strOf (curL c)), .string (strOf (cutL l))]) (T := 9) hs_34 rfl rfl (by kernel_rfl) (fun g_35 w_36 hs_37 => ?_)
  have hs_37 : SH [] w w_36 [pt g_1 (cdA c) 33, pt g_4 (cdA d) 33, pt g_35 #[.string (strOf (curL c)), .string (strOf (cutL l))] 9] := hs_37
  refine SL.val (v := iv 2) (w' := w_36) rfl rfl (by kernel_rfl) ?_
  refine SL.v (iv 0) ?_
  refine SL.nil ?_
  refine CW.block ?_
  refine CW.loopN 3 ?_
  refine CR.more ?_
  refine CW.seq ?_
  refine CW.region ?_
  refine SL.v (.bool true) ?_
  refine SL.nil ?_
  refine CW.seq ?_
  refine CW.cond_true (by kernel_rfl) ?_
  refine CW.skip ?_
  refine CW.seq ?_
  refine CW.block ?_
  refine CW.seq ?_
  refine CW.region ?_
  refine SL.v (pv g_35 0) ?_
  refine SL.load (g := g_35) (off := 0) (v := .string (strOf (curL c))) rfl rfl rfl (by kernel_rfl) (hs_37.pt_at (i := 2) rfl) (by kernel_rfl) ?_
  refine SL.v (.string (strOf (curL c))) ?_
  refine SL.nil ?_
  refine CW.seq ?_
  refine CW.region ?_
  refine SL.load (g := g_4) (off := 0) (v := .agg (cdA d)) rfl rfl rfl (by kernel_rfl) (hs_37.pt_at (i := 1) rfl) (by kernel_rfl) ?_
  refine SL.call (f := 7) (args := #[.agg (cdA d)]) (w1 := w_36) rfl rfl (by kernel_rfl) (own19 d w_36 hmd) ?_
  rintro x w_38 ⟨rfl, hc_39⟩
  refine ⟨_, rfl, ?_⟩
  have hs_40 := hs_37.grow hc_39
  refine SL.v (.string (strOf (curL c))) ?_
  refine SL.call (f := 10) (args := #[.agg (cvA d), .string (strOf (curL c))]) (w1 := w_38) rfl rfl (by kernel_rfl) (psc_any d (curL c) w_38 hokd (hM.gr hs_40.gr) (curL_b c) (curL_l c)) ?_
  rintro x w_41 ⟨rfl, hc_42⟩
  refine ⟨_, rfl, ?_⟩
  have hs_43 := hs_40.grow hc_42
  refine SL.v (.tuple #[.agg (cvA (curC d (curL c))), iv (errK (curOk d (curL c)))]) ?_
  refine SL.v (.agg (cvA (curC d (curL c)))) ?_
  refine SL.v (iv (errK (curOk d (curL c)))) ?_
  refine SL.newH (mk := fun g => pv g 0) (C := czA) (T := 45) hs_43 rfl rfl (by kernel_rfl) (fun g_44 w_45 hs_46 => ?_)
  have hs_46 : SH [] w w_45 [pt g_1 (cdA c) 33, pt g_4 (cdA d) 33, pt g_35 #[.string (strOf (curL c)), .string (strOf (cutL l))] 9, pt g_44 czA 45] := hs_46
  refine SL.storeH (i := 3) (g := g_44) (off := 0) (v := .agg (cvA (curC d (curL c)))) (L' := [pt g_1 (cdA c) 33, pt g_4 (cdA d) 33, pt g_35 #[.string (strOf (curL c)), .string (strOf (cutL l))] 9, pt g_44 (cvA (curC d (curL c))) 45]) hs_46 rfl rfl rfl (by kernel_rfl) (by kernel_rfl) rfl (by kernel_rfl) (by kernel_rfl) rfl (by kernel_rfl) rfl (fun w_47 hs_48 => ?_)
  refine SL.v (iv (errK (curOk d (curL c)))) ?_
  refine SL.nil ?_
  refine CW.seq ?_
  refine CW.region ?_
  refine SL.load (g := g_4) (off := 0) (v := .agg (cdA d)) rfl rfl rfl (by kernel_rfl) (hs_48.pt_at (i := 1) rfl) (by kernel_rfl) ?_
  refine SL.v (.string (strOf (curL c))) ?_
  refine SL.call (f := 11) (args := #[.agg (cdA d), .string (strOf (curL c))]) (w1 := w_47) rfl rfl (by kernel_rfl) (dsc_any d (curL c) w_47 hokd (curL_b c) (curL_l c)) ?_
  rintro x w_49 ⟨rfl, hc_50⟩
  refine ⟨_, rfl, ?_⟩
  have hs_51 := hs_48.grow hc_50
  refine SL.v (.tuple #[.agg (cdA (curC d (curL c))), .bool (curOk d (curL c))]) ?_
  refine SL.v (.agg (cdA (curC d (curL c)))) ?_
  refine SL.v (.bool (curOk d (curL c))) ?_
  refine SL.newH (mk := fun g => pv g 0) (C := czD) (T := 33) hs_51 rfl rfl (by kernel_rfl) (fun g_52 w_53 hs_54 => ?_)
  have hs_54 : SH [] w w_53 [pt g_1 (cdA c) 33, pt g_4 (cdA d) 33, pt g_35 #[.string (strOf (curL c)), .string (strOf (cutL l))] 9, pt g_44 (cvA (curC d (curL c))) 45, pt g_52 czD 33] := hs_54
  refine SL.storeH (i := 4) (g := g_52) (off := 0) (v := .agg (cdA (curC d (curL c)))) (L' := [pt g_1 (cdA c) 33, pt g_4 (cdA d) 33, pt g_35 #[.string (strOf (curL c)), .string (strOf (cutL l))] 9, pt g_44 (cvA (curC d (curL c))) 45, pt g_52 (cdA (curC d (curL c))) 33]) hs_54 rfl rfl rfl (by kernel_rfl) (by kernel_rfl) rfl (by kernel_rfl) (by kernel_rfl) rfl (by kernel_rfl) rfl (fun w_55 hs_56 => ?_)
  refine SL.v (.bool (curOk d (curL c))) ?_
  refine SL.nil ?_
  refine CW.seq ?_
  have HGR : GrL [fun v _ => v = .agg (cvA (curC d (curL c))), fun v _ => v = .agg (cdA (curC d (curL c))), fun v _ => v = .agg (cdA (curC d (curL c))), fun v _ => v = .bool false, fun v _ => v = .bool false, fun v _ => v = iv (errK (curOk d (curL c))), fun v _ => v = .bool (curOk d (curL c)), fun v _ => v = .bool (curOk d (curL c))] := ⟨fun _ _ _ _ h => h, ⟨fun _ _ _ _ h => h, ⟨fun _ _ _ _ h => h, ⟨fun _ _ _ _ h => h, ⟨fun _ _ _ _ h => h, ⟨fun _ _ _ _ h => h, ⟨fun _ _ _ _ h => h, ⟨fun _ _ _ _ h => h, trivial⟩⟩⟩⟩⟩⟩⟩⟩
  refine CW.draw 8 (FW [fun v _ => v = .agg (cvA (curC d (curL c))), fun v _ => v = .agg (cdA (curC d (curL c))), fun v _ => v = .agg (cdA (curC d (curL c))), fun v _ => v = .bool false, fun v _ => v = .bool false, fun v _ => v = iv (errK (curOk d (curL c))), fun v _ => v = .bool (curOk d (curL c)), fun v _ => v = .bool (curOk d (curL c))]) (fun W => Gr w_55 W) (by kernel_rfl) (by kernel_rfl) (by kernel_rfl) (by kernel_rfl) (by kernel_rfl) (Gr.refl _).drew ?_ ?_
  ·refine ⟨?_, ⟨?_, ⟨?_, ⟨?_, ⟨?_, ⟨?_, ⟨?_, ⟨?_, trivial⟩⟩⟩⟩⟩⟩⟩⟩
   ·intro L ys W hB hF hP K hK
    show OpE _ _ _ W K
    exact OpE.load (g := g_44) (off := 0) (v := .agg (cvA (curC d (curL c)))) rfl (by kernel_rfl) ((hs_56.grow hB).pt_at (i := 3) rfl) (by kernel_rfl) (hK _ W hB rfl (fun _ _ h => h))
   ·intro L ys W hB hF hP K hK
    show OpE _ _ _ W K
    exact OpE.known (j := 0) (v := .agg (cvA (curC d (curL c)))) (hF 0 (hP.1 rfl)) (OpE.call 12 #[.agg (cvA (curC d (curL c)))] W _ (by kernel_rfl) (told19 (curC d (curL c)) W (curC_ok hokd _).modes) (fun x w' hx => by obtain ⟨rfl, hg⟩ := hx; exact ⟨_, rfl, hK _ w' (hB.trans hg) rfl (fun _ _ h => FW.gr HGR hg h)⟩))
   ·intro L ys W hB hF hP K hK
    show OpE _ _ _ W K
    exact OpE.load (g := g_52) (off := 0) (v := .agg (cdA (curC d (curL c)))) rfl (by kernel_rfl) ((hs_56.grow hB).pt_at (i := 4) rfl) (by kernel_rfl) (hK _ W hB rfl (fun _ _ h => h))
   ·intro L ys W hB hF hP K hK
    show OpE _ _ _ W K
    exact OpE.known (j := 1) (v := .agg (cdA (curC d (curL c)))) (hF 1 (hP.1 rfl)) (OpE.known (j := 2) (v := .agg (cdA (curC d (curL c)))) (hF 2 (hP.2.1 rfl)) (OpE.val (.bool false) W (run_neq_op (xs := (cdA (curC d (curL c)))) (ys := (cdA (curC d (curL c)))) (b := true) rfl (by kernel_rfl) (by kernel_rfl) (by kernel_rfl) (run_eql_flat (x := .agg (cdA (curC d (curL c)))) (y := .agg (cdA (curC d (curL c)))) (b := true) (m := 6) (lx := (litsC (curC d (curL c)))) (ly := (litsC (curC d (curL c)))) (by kernel_rfl) (by kernel_rfl) (by kernel_rfl) (by kernel_rfl) (by kernel_rfl) (by kernel_rfl) (Cor.Ok.lits (curC_ok hokd _)) (Cor.Ok.lits (curC_ok hokd _)) ⟨fun _ => rfl, fun _ => rfl⟩)) (hK _ W hB rfl (fun _ _ h => h))))
   ·intro L ys W hB hF hP K hK
    show OpE _ _ _ W K
    exact OpE.known (j := 3) (v := .bool false) (hF 3 (hP.1 rfl)) (OpE.val (.bool false) W (by kernel_rfl) (hK _ W hB rfl (fun _ _ h => h)))
   ·intro L ys W hB hF hP K hK
    refine ⟨61, false, rfl, (show fillE _ 0 ys _ 61 = _ from (hF 4 (hP.1 rfl))), .inl ⟨rfl, ?_⟩⟩
    exact OpE.val (iv (errK (curOk d (curL c)))) W (by kernel_rfl) (hK _ W hB rfl (fun _ _ h => h))
   ·intro L ys W hB hF hP K hK
    refine ⟨61, false, rfl, (show fillE _ 0 ys _ 61 = _ from (hF 4 (hP.2.1 rfl))), .inl ⟨rfl, ?_⟩⟩
    exact OpE.known (j := 5) (v := iv (errK (curOk d (curL c)))) (hF 5 (hP.1 rfl)) (OpE.val (.bool (curOk d (curL c))) W (run_eqv (by kernel_rfl) (congrArg Value.bool (show ((errK (curOk d (curL c))) == 0) = (curOk d (curL c)) from err_0 _))) (hK _ W hB rfl (fun _ _ h => h)))
   ·intro L ys W hB hF hP K hK
    refine ⟨61, false, rfl, (show fillE _ 0 ys _ 61 = _ from (hF 4 (hP.1 rfl))), .inl ⟨rfl, ?_⟩⟩
    exact OpE.val (.bool (curOk d (curL c))) W (by kernel_rfl) (hK _ W hB rfl (fun _ _ h => h))
  ·intro ys_60 w_57 hs_58 hF_59
   have hg_61 := hs_58
   have hs_58 : SH [] w w_57 [pt g_1 (cdA c) 33, pt g_4 (cdA d) 33, pt g_35 #[.string (strOf (curL c)), .string (strOf (cutL l))] 9, pt g_44 (cvA (curC d (curL c))) 45, pt g_52 (cdA (curC d (curL c))) 33] := hs_56.grow hg_61
   refine SL.knownY (j := 4) (v := .bool false) (show ys_60 4 = .bool false from hF_59 4 (by decide)) (SL.knownY (j := 5) (v := iv (errK (curOk d (curL c)))) (show ys_60 5 = iv (errK (curOk d (curL c))) from hF_59 5 (by decide)) (SL.knownY (j := 6) (v := .bool (curOk d (curL c))) (show ys_60 6 = .bool (curOk d (curL c)) from hF_59 6 (by decide)) (SL.knownY (j := 7) (v := .bool (curOk d (curL c))) (show ys_60 7 = .bool (curOk d (curL c)) from hF_59 7 (by decide)) (?_))))
   clear hF_59 HGR
   refine SL.go ?_
   refine SL.val (v := .bool false) (w' := w_57) rfl rfl (run_boolne (a := curOk d (curL c)) (b := curOk d (curL c)) (c := false) rfl (by kernel_rfl) (by kernel_rfl) (by kernel_rfl) (by cases (curOk d (curL c)) <;> rfl)) ?_
   refine SL.v (.bool false) ?_
   refine SL.v (.bool false) ?_
   refine SL.go ?_
   refine SL.v (.bool (curOk d (curL c))) ?_
   refine SL.go ?_
   refine SL.v (.bool (!(curOk d (curL c)))) ?_
   refine SL.go ?_
   refine SL.v (.bool (!(curOk d (curL c)))) ?_
   rcases Bool.eq_false_or_eq_true (curOk d (curL c)) with hb_62 | hb_62
   ·try rw [hb_62]
    refine SL.no false ?_
    refine SL.no false ?_
    refine SL.go ?_
    refine SL.v (.bool false) ?_
    refine SL.v (.bool false) ?_
    refine SL.nil ?_
    refine CW.cond_false (by kernel_rfl) ?_
    refine CW.skip ?_
    refine CW.region ?_
    refine SL.v (iv 1) ?_
    refine SL.v (iv 1) ?_
    refine SL.nil ?_
    have hs_63 : SH [] w w_57 [pt g_4 (cdA d) 33, pt g_35 #[.string (strOf (curL c)), .string (strOf (cutL l))] 9] := hs_58.pick [1, 1] rfl
    refine CR.fresh (fun e9 => e9 4 = pv g_4 0 ∧ e9 6 = .bool false ∧ e9 38 = sv g_35 0 2 2 ∧ e9 39 = iv 2 ∧ e9 40 = iv 1) ⟨(by kernel_rfl), (by kernel_rfl), (by kernel_rfl), (by kernel_rfl), (by kernel_rfl)⟩ ?_
    rintro e_64 ⟨hv_66, hv_67, hv_68, hv_69, hv_70⟩
    obtain ⟨e_65, rfl⟩ : ∃ e_65, e_64 = put1 (put1 (put1 (put1 (put1 e_65 4 (pv g_4 0)) 6 (.bool false)) 38 (sv g_35 0 2 2)) 39 (iv 2)) 40 (iv 1) := ⟨e_64, (put_self hv_70).trans (congrArg (fun z => put1 z 40 (iv 1)) ((put_self hv_69).trans (congrArg (fun z => put1 z 39 (iv 2)) ((put_self hv_68).trans (congrArg (fun z => put1 z 38 (sv g_35 0 2 2)) ((put_self hv_67).trans (congrArg (fun z => put1 z 6 (.bool false)) (put_self hv_66))))))))⟩
    clear hv_66 hv_67 hv_68 hv_69 hv_70
    refine CR.more ?_
    refine CW.seq ?_
    refine CW.region ?_
    refine SL.v (.bool true) ?_
    refine SL.nil ?_
    refine CW.seq ?_
    refine CW.cond_true (by kernel_rfl) ?_
    refine CW.skip ?_
    refine CW.seq ?_
    refine CW.block ?_
    refine CW.seq ?_
    refine CW.region ?_
    refine SL.v (pv g_35 1) ?_
    refine SL.load (g := g_35) (off := 1) (v := .string (strOf (cutL l))) rfl rfl rfl (by kernel_rfl) (hs_63.pt_at (i := 1) rfl) (by kernel_rfl) ?_
    refine SL.v (.string (strOf (cutL l))) ?_
    refine SL.nil ?_
    refine CW.seq ?_
    refine CW.region ?_
    refine SL.load (g := g_4) (off := 0) (v := .agg (cdA d)) rfl rfl rfl (by kernel_rfl) (hs_63.pt_at (i := 0) rfl) (by kernel_rfl) ?_
    refine SL.call (f := 7) (args := #[.agg (cdA d)]) (w1 := w_57) rfl rfl (by kernel_rfl) (own19 d w_57 hmd) ?_
    rintro x w_71 ⟨rfl, hc_72⟩
    refine ⟨_, rfl, ?_⟩
    have hs_73 := hs_63.grow hc_72
    refine SL.v (.string (strOf (cutL l))) ?_
    refine SL.call (f := 10) (args := #[.agg (cvA d), .string (strOf (cutL l))]) (w1 := w_71) rfl rfl (by kernel_rfl) (psc_any d (cutL l) w_71 hokd (hM.gr hs_73.gr) (cut_b hl) (cut_l l)) ?_
    rintro x w_74 ⟨rfl, hc_75⟩
    refine ⟨_, rfl, ?_⟩
    have hs_76 := hs_73.grow hc_75
    refine SL.v (.tuple #[.agg (cvA (curC d (cutL l))), iv (errK (curOk d (cutL l)))]) ?_
    refine SL.v (.agg (cvA (curC d (cutL l)))) ?_
    refine SL.v (iv (errK (curOk d (cutL l)))) ?_
    refine SL.newH (mk := fun g => pv g 0) (C := czA) (T := 45) hs_76 rfl rfl (by kernel_rfl) (fun g_77 w_78 hs_79 => ?_)
    have hs_79 : SH [] w w_78 [pt g_4 (cdA d) 33, pt g_35 #[.string (strOf (curL c)), .string (strOf (cutL l))] 9, pt g_77 czA 45] := hs_79
    refine SL.storeH (i := 2) (g := g_77) (off := 0) (v := .agg (cvA (curC d (cutL l)))) (L' := [pt g_4 (cdA d) 33, pt g_35 #[.string (strOf (curL c)), .string (strOf (cutL l))] 9, pt g_77 (cvA (curC d (cutL l))) 45]) hs_79 rfl rfl rfl (by kernel_rfl) (by kernel_rfl) rfl (by kernel_rfl) (by kernel_rfl) rfl (by kernel_rfl) rfl (fun w_80 hs_81 => ?_)
    refine SL.v (iv (errK (curOk d (cutL l)))) ?_
    refine SL.nil ?_
    refine CW.seq ?_
    refine CW.region ?_
    refine SL.load (g := g_4) (off := 0) (v := .agg (cdA d)) rfl rfl rfl (by kernel_rfl) (hs_81.pt_at (i := 0) rfl) (by kernel_rfl) ?_
    refine SL.v (.string (strOf (cutL l))) ?_
    refine SL.call (f := 11) (args := #[.agg (cdA d), .string (strOf (cutL l))]) (w1 := w_80) rfl rfl (by kernel_rfl) (dsc_any d (cutL l) w_80 hokd (cut_b hl) (cut_l l)) ?_
    rintro x w_82 ⟨rfl, hc_83⟩
    refine ⟨_, rfl, ?_⟩
    have hs_84 := hs_81.grow hc_83
    refine SL.v (.tuple #[.agg (cdA (curC d (cutL l))), .bool (curOk d (cutL l))]) ?_
    refine SL.v (.agg (cdA (curC d (cutL l)))) ?_
    refine SL.v (.bool (curOk d (cutL l))) ?_
    refine SL.newH (mk := fun g => pv g 0) (C := czD) (T := 33) hs_84 rfl rfl (by kernel_rfl) (fun g_85 w_86 hs_87 => ?_)
    have hs_87 : SH [] w w_86 [pt g_4 (cdA d) 33, pt g_35 #[.string (strOf (curL c)), .string (strOf (cutL l))] 9, pt g_77 (cvA (curC d (cutL l))) 45, pt g_85 czD 33] := hs_87
    refine SL.storeH (i := 3) (g := g_85) (off := 0) (v := .agg (cdA (curC d (cutL l)))) (L' := [pt g_4 (cdA d) 33, pt g_35 #[.string (strOf (curL c)), .string (strOf (cutL l))] 9, pt g_77 (cvA (curC d (cutL l))) 45, pt g_85 (cdA (curC d (cutL l))) 33]) hs_87 rfl rfl rfl (by kernel_rfl) (by kernel_rfl) rfl (by kernel_rfl) (by kernel_rfl) rfl (by kernel_rfl) rfl (fun w_88 hs_89 => ?_)
    refine SL.v (.bool (curOk d (cutL l))) ?_
    refine SL.nil ?_
    refine CW.seq ?_
    have HGR : GrL [fun v _ => v = .agg (cvA (curC d (cutL l))), fun v _ => v = .agg (cdA (curC d (cutL l))), fun v _ => v = .agg (cdA (curC d (cutL l))), fun v _ => v = .bool false, fun v _ => v = .bool false, fun v _ => v = iv (errK (curOk d (cutL l))), fun v _ => v = .bool (curOk d (cutL l)), fun v _ => v = .bool (curOk d (cutL l))] := ⟨fun _ _ _ _ h => h, ⟨fun _ _ _ _ h => h, ⟨fun _ _ _ _ h => h, ⟨fun _ _ _ _ h => h, ⟨fun _ _ _ _ h => h, ⟨fun _ _ _ _ h => h, ⟨fun _ _ _ _ h => h, ⟨fun _ _ _ _ h => h, trivial⟩⟩⟩⟩⟩⟩⟩⟩
    refine CW.draw 8 (FW [fun v _ => v = .agg (cvA (curC d (cutL l))), fun v _ => v = .agg (cdA (curC d (cutL l))), fun v _ => v = .agg (cdA (curC d (cutL l))), fun v _ => v = .bool false, fun v _ => v = .bool false, fun v _ => v = iv (errK (curOk d (cutL l))), fun v _ => v = .bool (curOk d (cutL l)), fun v _ => v = .bool (curOk d (cutL l))]) (fun W => Gr w_88 W) (by kernel_rfl) (by kernel_rfl) (by kernel_rfl) (by kernel_rfl) (by kernel_rfl) (Gr.refl _).drew ?_ ?_
    ·refine ⟨?_, ⟨?_, ⟨?_, ⟨?_, ⟨?_, ⟨?_, ⟨?_, ⟨?_, trivial⟩⟩⟩⟩⟩⟩⟩⟩
     ·intro L ys W hB hF hP K hK
      show OpE _ _ _ W K
      exact OpE.load (g := g_77) (off := 0) (v := .agg (cvA (curC d (cutL l)))) rfl (by kernel_rfl) ((hs_89.grow hB).pt_at (i := 2) rfl) (by kernel_rfl) (hK _ W hB rfl (fun _ _ h => h))
     ·intro L ys W hB hF hP K hK
      show OpE _ _ _ W K
      exact OpE.known (j := 0) (v := .agg (cvA (curC d (cutL l)))) (hF 0 (hP.1 rfl)) (OpE.call 12 #[.agg (cvA (curC d (cutL l)))] W _ (by kernel_rfl) (told19 (curC d (cutL l)) W (curC_ok hokd _).modes) (fun x w' hx => by obtain ⟨rfl, hg⟩ := hx; exact ⟨_, rfl, hK _ w' (hB.trans hg) rfl (fun _ _ h => FW.gr HGR hg h)⟩))
     ·intro L ys W hB hF hP K hK
      show OpE _ _ _ W K
      exact OpE.load (g := g_85) (off := 0) (v := .agg (cdA (curC d (cutL l)))) rfl (by kernel_rfl) ((hs_89.grow hB).pt_at (i := 3) rfl) (by kernel_rfl) (hK _ W hB rfl (fun _ _ h => h))
     ·intro L ys W hB hF hP K hK
      show OpE _ _ _ W K
      exact OpE.known (j := 1) (v := .agg (cdA (curC d (cutL l)))) (hF 1 (hP.1 rfl)) (OpE.known (j := 2) (v := .agg (cdA (curC d (cutL l)))) (hF 2 (hP.2.1 rfl)) (OpE.val (.bool false) W (run_neq_op (xs := (cdA (curC d (cutL l)))) (ys := (cdA (curC d (cutL l)))) (b := true) rfl (by kernel_rfl) (by kernel_rfl) (by kernel_rfl) (run_eql_flat (x := .agg (cdA (curC d (cutL l)))) (y := .agg (cdA (curC d (cutL l)))) (b := true) (m := 6) (lx := (litsC (curC d (cutL l)))) (ly := (litsC (curC d (cutL l)))) (by kernel_rfl) (by kernel_rfl) (by kernel_rfl) (by kernel_rfl) (by kernel_rfl) (by kernel_rfl) (Cor.Ok.lits (curC_ok hokd _)) (Cor.Ok.lits (curC_ok hokd _)) ⟨fun _ => rfl, fun _ => rfl⟩)) (hK _ W hB rfl (fun _ _ h => h))))
     ·intro L ys W hB hF hP K hK
      show OpE _ _ _ W K
      exact OpE.known (j := 3) (v := .bool false) (hF 3 (hP.1 rfl)) (OpE.val (.bool false) W (by kernel_rfl) (hK _ W hB rfl (fun _ _ h => h)))
     ·intro L ys W hB hF hP K hK
      refine ⟨61, false, rfl, (show fillE _ 0 ys _ 61 = _ from (hF 4 (hP.1 rfl))), .inl ⟨rfl, ?_⟩⟩
      exact OpE.val (iv (errK (curOk d (cutL l)))) W (by kernel_rfl) (hK _ W hB rfl (fun _ _ h => h))
     ·intro L ys W hB hF hP K hK
      refine ⟨61, false, rfl, (show fillE _ 0 ys _ 61 = _ from (hF 4 (hP.2.1 rfl))), .inl ⟨rfl, ?_⟩⟩
      exact OpE.known (j := 5) (v := iv (errK (curOk d (cutL l)))) (hF 5 (hP.1 rfl)) (OpE.val (.bool (curOk d (cutL l))) W (run_eqv (by kernel_rfl) (congrArg Value.bool (show ((errK (curOk d (cutL l))) == 0) = (curOk d (cutL l)) from err_0 _))) (hK _ W hB rfl (fun _ _ h => h)))
     ·intro L ys W hB hF hP K hK
      refine ⟨61, false, rfl, (show fillE _ 0 ys _ 61 = _ from (hF 4 (hP.1 rfl))), .inl ⟨rfl, ?_⟩⟩
      exact OpE.val (.bool (curOk d (cutL l))) W (by kernel_rfl) (hK _ W hB rfl (fun _ _ h => h))
    ·intro ys_93 w_90 hs_91 hF_92
     have hg_94 := hs_91
     have hs_91 : SH [] w w_90 [pt g_4 (cdA d) 33, pt g_35 #[.string (strOf (curL c)), .string (strOf (cutL l))] 9, pt g_77 (cvA (curC d (cutL l))) 45, pt g_85 (cdA (curC d (cutL l))) 33] := hs_89.grow hg_94
     refine SL.knownY (j := 4) (v := .bool false) (show ys_93 4 = .bool false from hF_92 4 (by decide)) (SL.knownY (j := 5) (v := iv (errK (curOk d (cutL l)))) (show ys_93 5 = iv (errK (curOk d (cutL l))) from hF_92 5 (by decide)) (SL.knownY (j := 6) (v := .bool (curOk d (cutL l))) (show ys_93 6 = .bool (curOk d (cutL l)) from hF_92 6 (by decide)) (SL.knownY (j := 7) (v := .bool (curOk d (cutL l))) (show ys_93 7 = .bool (curOk d (cutL l)) from hF_92 7 (by decide)) (?_))))
     clear hF_92 HGR
     refine SL.go ?_
     refine SL.val (v := .bool false) (w' := w_90) rfl rfl (run_boolne (a := curOk d (cutL l)) (b := curOk d (cutL l)) (c := false) rfl (by kernel_rfl) (by kernel_rfl) (by kernel_rfl) (by cases (curOk d (cutL l)) <;> rfl)) ?_
     refine SL.v (.bool false) ?_
     refine SL.v (.bool false) ?_
     refine SL.go ?_
     refine SL.v (.bool (curOk d (cutL l))) ?_
     refine SL.go ?_
     refine SL.v (.bool (!(curOk d (cutL l)))) ?_
     refine SL.go ?_
     refine SL.v (.bool (!(curOk d (cutL l)))) ?_
     rcases Bool.eq_false_or_eq_true (curOk d (cutL l)) with hb_95 | hb_95
     ·try rw [hb_95]
      refine SL.no false ?_
      refine SL.no false ?_
      refine SL.go ?_
      refine SL.v (.bool false) ?_
      refine SL.v (.bool false) ?_
      refine SL.nil ?_
      refine CW.cond_false (by kernel_rfl) ?_
      refine CW.skip ?_
      refine CW.region ?_
      refine SL.v (iv 2) ?_
      refine SL.v (iv 2) ?_
      refine SL.nil ?_
      have hs_96 : SH [] w w_90 [pt g_4 (cdA d) 33, pt g_35 #[.string (strOf (curL c)), .string (strOf (cutL l))] 9] := hs_91.pick [0, 0] rfl
      refine CR.fresh (fun e9 => e9 4 = pv g_4 0 ∧ e9 6 = .bool false ∧ e9 38 = sv g_35 0 2 2 ∧ e9 39 = iv 2 ∧ e9 40 = iv 2) ⟨(by kernel_rfl), (by kernel_rfl), (by kernel_rfl), (by kernel_rfl), (by kernel_rfl)⟩ ?_
      rintro e_97 ⟨hv_99, hv_100, hv_101, hv_102, hv_103⟩
      obtain ⟨e_98, rfl⟩ : ∃ e_98, e_97 = put1 (put1 (put1 (put1 (put1 e_98 4 (pv g_4 0)) 6 (.bool false)) 38 (sv g_35 0 2 2)) 39 (iv 2)) 40 (iv 2) := ⟨e_97, (put_self hv_103).trans (congrArg (fun z => put1 z 40 (iv 2)) ((put_self hv_102).trans (congrArg (fun z => put1 z 39 (iv 2)) ((put_self hv_101).trans (congrArg (fun z => put1 z 38 (sv g_35 0 2 2)) ((put_self hv_100).trans (congrArg (fun z => put1 z 6 (.bool false)) (put_self hv_99))))))))⟩
      clear hv_99 hv_100 hv_101 hv_102 hv_103
      refine CR.more ?_
      refine CW.seq ?_
      refine CW.region ?_
      refine SL.v (.bool false) ?_
      refine SL.nil ?_
      refine CW.seq ?_
      refine CW.cond_false (by kernel_rfl) ?_
      refine CW.exit ?_
      repeat with_reducible first | refine PThen.exit ?_ | refine PBlock.out rfl ?_
      with_reducible refine PBlock.here ?_
      repeat with_reducible refine PBlock.normal ?_
      refine CW.seq ?_
      refine CW.region ?_
      refine SL.v (.bool true) ?_
      refine SL.nil ?_
      refine CW.ret ?_
      repeat with_reducible first | refine PThen.ret ?_ | refine PBlock.ret ?_
      refine PRet.tmp (t := 6) (v := .bool true) rfl rfl (by kernel_rfl) ?_
      exact ⟨rfl, hs_96.gr⟩
     ·try rw [hb_95]
      refine SL.go ?_
      refine SL.v (iv (errK false)) ?_
      refine SL.go ?_
      refine SL.val (v := .bool false) (w' := w_90) rfl rfl (run_eqv (by kernel_rfl) (congrArg Value.bool (show (!((errK false) == 3)) = (false) from err_3 _))) ?_
      refine SL.go ?_
      refine SL.v (.bool false) ?_
      refine SL.v (.bool false) ?_
      refine SL.nil ?_
      refine CW.cond_false (by kernel_rfl) ?_
      refine CW.skip ?_
      refine CW.region ?_
      refine SL.v (iv 2) ?_
      refine SL.v (iv 2) ?_
      refine SL.nil ?_
      have hs_104 : SH [] w w_90 [pt g_4 (cdA d) 33, pt g_35 #[.string (strOf (curL c)), .string (strOf (cutL l))] 9] := hs_91.pick [0, 0] rfl
      refine CR.fresh (fun e9 => e9 4 = pv g_4 0 ∧ e9 6 = .bool false ∧ e9 38 = sv g_35 0 2 2 ∧ e9 39 = iv 2 ∧ e9 40 = iv 2) ⟨(by kernel_rfl), (by kernel_rfl), (by kernel_rfl), (by kernel_rfl), (by kernel_rfl)⟩ ?_
      rintro e_105 ⟨hv_107, hv_108, hv_109, hv_110, hv_111⟩
      obtain ⟨e_106, rfl⟩ : ∃ e_106, e_105 = put1 (put1 (put1 (put1 (put1 e_106 4 (pv g_4 0)) 6 (.bool false)) 38 (sv g_35 0 2 2)) 39 (iv 2)) 40 (iv 2) := ⟨e_105, (put_self hv_111).trans (congrArg (fun z => put1 z 40 (iv 2)) ((put_self hv_110).trans (congrArg (fun z => put1 z 39 (iv 2)) ((put_self hv_109).trans (congrArg (fun z => put1 z 38 (sv g_35 0 2 2)) ((put_self hv_108).trans (congrArg (fun z => put1 z 6 (.bool false)) (put_self hv_107))))))))⟩
      clear hv_107 hv_108 hv_109 hv_110 hv_111
      refine CR.more ?_
      refine CW.seq ?_
      refine CW.region ?_
      refine SL.v (.bool false) ?_
      refine SL.nil ?_
      refine CW.seq ?_
      refine CW.cond_false (by kernel_rfl) ?_
      refine CW.exit ?_
      repeat with_reducible first | refine PThen.exit ?_ | refine PBlock.out rfl ?_
      with_reducible refine PBlock.here ?_
      repeat with_reducible refine PBlock.normal ?_
      refine CW.seq ?_
      refine CW.region ?_
      refine SL.v (.bool true) ?_
      refine SL.nil ?_
      refine CW.ret ?_
      repeat with_reducible first | refine PThen.ret ?_ | refine PBlock.ret ?_
      refine PRet.tmp (t := 6) (v := .bool true) rfl rfl (by kernel_rfl) ?_
      exact ⟨rfl, hs_104.gr⟩
   ·try rw [hb_62]
    refine SL.go ?_
    refine SL.v (iv (errK false)) ?_
    refine SL.go ?_
    refine SL.val (v := .bool false) (w' := w_57) rfl rfl (run_eqv (by kernel_rfl) (congrArg Value.bool (show (!((errK false) == 3)) = (false) from err_3 _))) ?_
    refine SL.go ?_
    refine SL.v (.bool false) ?_
    refine SL.v (.bool false) ?_
    refine SL.nil ?_
    refine CW.cond_false (by kernel_rfl) ?_
    refine CW.skip ?_
    refine CW.region ?_
    refine SL.v (iv 1) ?_
    refine SL.v (iv 1) ?_
    refine SL.nil ?_
    have hs_112 : SH [] w w_57 [pt g_4 (cdA d) 33, pt g_35 #[.string (strOf (curL c)), .string (strOf (cutL l))] 9] := hs_58.pick [1, 1] rfl
    refine CR.fresh (fun e9 => e9 4 = pv g_4 0 ∧ e9 6 = .bool false ∧ e9 38 = sv g_35 0 2 2 ∧ e9 39 = iv 2 ∧ e9 40 = iv 1) ⟨(by kernel_rfl), (by kernel_rfl), (by kernel_rfl), (by kernel_rfl), (by kernel_rfl)⟩ ?_
    rintro e_113 ⟨hv_115, hv_116, hv_117, hv_118, hv_119⟩
    obtain ⟨e_114, rfl⟩ : ∃ e_114, e_113 = put1 (put1 (put1 (put1 (put1 e_114 4 (pv g_4 0)) 6 (.bool false)) 38 (sv g_35 0 2 2)) 39 (iv 2)) 40 (iv 1) := ⟨e_113, (put_self hv_119).trans (congrArg (fun z => put1 z 40 (iv 1)) ((put_self hv_118).trans (congrArg (fun z => put1 z 39 (iv 2)) ((put_self hv_117).trans (congrArg (fun z => put1 z 38 (sv g_35 0 2 2)) ((put_self hv_116).trans (congrArg (fun z => put1 z 6 (.bool false)) (put_self hv_115))))))))⟩
    clear hv_115 hv_116 hv_117 hv_118 hv_119
    refine CR.more ?_
    refine CW.seq ?_
    refine CW.region ?_
    refine SL.v (.bool true) ?_
    refine SL.nil ?_
    refine CW.seq ?_
    refine CW.cond_true (by kernel_rfl) ?_
    refine CW.skip ?_
    refine CW.seq ?_
    refine CW.block ?_
    refine CW.seq ?_
    refine CW.region ?_
    refine SL.v (pv g_35 1) ?_
    refine SL.load (g := g_35) (off := 1) (v := .string (strOf (cutL l))) rfl rfl rfl (by kernel_rfl) (hs_112.pt_at (i := 1) rfl) (by kernel_rfl) ?_
    refine SL.v (.string (strOf (cutL l))) ?_
    refine SL.nil ?_
    refine CW.seq ?_
    refine CW.region ?_
    refine SL.load (g := g_4) (off := 0) (v := .agg (cdA d)) rfl rfl rfl (by kernel_rfl) (hs_112.pt_at (i := 0) rfl) (by kernel_rfl) ?_
    refine SL.call (f := 7) (args := #[.agg (cdA d)]) (w1 := w_57) rfl rfl (by kernel_rfl) (own19 d w_57 hmd) ?_
    rintro x w_120 ⟨rfl, hc_121⟩
    refine ⟨_, rfl, ?_⟩
    have hs_122 := hs_112.grow hc_121
    refine SL.v (.string (strOf (cutL l))) ?_
    refine SL.call (f := 10) (args := #[.agg (cvA d), .string (strOf (cutL l))]) (w1 := w_120) rfl rfl (by kernel_rfl) (psc_any d (cutL l) w_120 hokd (hM.gr hs_122.gr) (cut_b hl) (cut_l l)) ?_
    rintro x w_123 ⟨rfl, hc_124⟩
    refine ⟨_, rfl, ?_⟩
    have hs_125 := hs_122.grow hc_124
    refine SL.v (.tuple #[.agg (cvA (curC d (cutL l))), iv (errK (curOk d (cutL l)))]) ?_
    refine SL.v (.agg (cvA (curC d (cutL l)))) ?_
    refine SL.v (iv (errK (curOk d (cutL l)))) ?_
    refine SL.newH (mk := fun g => pv g 0) (C := czA) (T := 45) hs_125 rfl rfl (by kernel_rfl) (fun g_126 w_127 hs_128 => ?_)
    have hs_128 : SH [] w w_127 [pt g_4 (cdA d) 33, pt g_35 #[.string (strOf (curL c)), .string (strOf (cutL l))] 9, pt g_126 czA 45] := hs_128
    refine SL.storeH (i := 2) (g := g_126) (off := 0) (v := .agg (cvA (curC d (cutL l)))) (L' := [pt g_4 (cdA d) 33, pt g_35 #[.string (strOf (curL c)), .string (strOf (cutL l))] 9, pt g_126 (cvA (curC d (cutL l))) 45]) hs_128 rfl rfl rfl (by kernel_rfl) (by kernel_rfl) rfl (by kernel_rfl) (by kernel_rfl) rfl (by kernel_rfl) rfl (fun w_129 hs_130 => ?_)
    refine SL.v (iv (errK (curOk d (cutL l)))) ?_
    refine SL.nil ?_
    refine CW.seq ?_
    refine CW.region ?_
    refine SL.load (g := g_4) (off := 0) (v := .agg (cdA d)) rfl rfl rfl (by kernel_rfl) (hs_130.pt_at (i := 0) rfl) (by kernel_rfl) ?_
    refine SL.v (.string (strOf (cutL l))) ?_
    refine SL.call (f := 11) (args := #[.agg (cdA d), .string (strOf (cutL l))]) (w1 := w_129) rfl rfl (by kernel_rfl) (dsc_any d (cutL l) w_129 hokd (cut_b hl) (cut_l l)) ?_
    rintro x w_131 ⟨rfl, hc_132⟩
    refine ⟨_, rfl, ?_⟩
    have hs_133 := hs_130.grow hc_132
    refine SL.v (.tuple #[.agg (cdA (curC d (cutL l))), .bool (curOk d (cutL l))]) ?_
    refine SL.v (.agg (cdA (curC d (cutL l)))) ?_
    refine SL.v (.bool (curOk d (cutL l))) ?_
    refine SL.newH (mk := fun g => pv g 0) (C := czD) (T := 33) hs_133 rfl rfl (by kernel_rfl) (fun g_134 w_135 hs_136 => ?_)
    have hs_136 : SH [] w w_135 [pt g_4 (cdA d) 33, pt g_35 #[.string (strOf (curL c)), .string (strOf (cutL l))] 9, pt g_126 (cvA (curC d (cutL l))) 45, pt g_134 czD 33] := hs_136
    refine SL.storeH (i := 3) (g := g_134) (off := 0) (v := .agg (cdA (curC d (cutL l)))) (L' := [pt g_4 (cdA d) 33, pt g_35 #[.string (strOf (curL c)), .string (strOf (cutL l))] 9, pt g_126 (cvA (curC d (cutL l))) 45, pt g_134 (cdA (curC d (cutL l))) 33]) hs_136 rfl rfl rfl (by kernel_rfl) (by kernel_rfl) rfl (by kernel_rfl) (by kernel_rfl) rfl (by kernel_rfl) rfl (fun w_137 hs_138 => ?_)
    refine SL.v (.bool (curOk d (cutL l))) ?_
    refine SL.nil ?_
    refine CW.seq ?_
    have HGR : GrL [fun v _ => v = .agg (cvA (curC d (cutL l))), fun v _ => v = .agg (cdA (curC d (cutL l))), fun v _ => v = .agg (cdA (curC d (cutL l))), fun v _ => v = .bool false, fun v _ => v = .bool false, fun v _ => v = iv (errK (curOk d (cutL l))), fun v _ => v = .bool (curOk d (cutL l)), fun v _ => v = .bool (curOk d (cutL l))] := ⟨fun _ _ _ _ h => h, ⟨fun _ _ _ _ h => h, ⟨fun _ _ _ _ h => h, ⟨fun _ _ _ _ h => h, ⟨fun _ _ _ _ h => h, ⟨fun _ _ _ _ h => h, ⟨fun _ _ _ _ h => h, ⟨fun _ _ _ _ h => h, trivial⟩⟩⟩⟩⟩⟩⟩⟩
    refine CW.draw 8 (FW [fun v _ => v = .agg (cvA (curC d (cutL l))), fun v _ => v = .agg (cdA (curC d (cutL l))), fun v _ => v = .agg (cdA (curC d (cutL l))), fun v _ => v = .bool false, fun v _ => v = .bool false, fun v _ => v = iv (errK (curOk d (cutL l))), fun v _ => v = .bool (curOk d (cutL l)), fun v _ => v = .bool (curOk d (cutL l))]) (fun W => Gr w_137 W) (by kernel_rfl) (by kernel_rfl) (by kernel_rfl) (by kernel_rfl) (by kernel_rfl) (Gr.refl _).drew ?_ ?_
    ·refine ⟨?_, ⟨?_, ⟨?_, ⟨?_, ⟨?_, ⟨?_, ⟨?_, ⟨?_, trivial⟩⟩⟩⟩⟩⟩⟩⟩
     ·intro L ys W hB hF hP K hK
      show OpE _ _ _ W K
      exact OpE.load (g := g_126) (off := 0) (v := .agg (cvA (curC d (cutL l)))) rfl (by kernel_rfl) ((hs_138.grow hB).pt_at (i := 2) rfl) (by kernel_rfl) (hK _ W hB rfl (fun _ _ h => h))
     ·intro L ys W hB hF hP K hK
      show OpE _ _ _ W K
      exact OpE.known (j := 0) (v := .agg (cvA (curC d (cutL l)))) (hF 0 (hP.1 rfl)) (OpE.call 12 #[.agg (cvA (curC d (cutL l)))] W _ (by kernel_rfl) (told19 (curC d (cutL l)) W (curC_ok hokd _).modes) (fun x w' hx => by obtain ⟨rfl, hg⟩ := hx; exact ⟨_, rfl, hK _ w' (hB.trans hg) rfl (fun _ _ h => FW.gr HGR hg h)⟩))
     ·intro L ys W hB hF hP K hK
      show OpE _ _ _ W K
      exact OpE.load (g := g_134) (off := 0) (v := .agg (cdA (curC d (cutL l)))) rfl (by kernel_rfl) ((hs_138.grow hB).pt_at (i := 3) rfl) (by kernel_rfl) (hK _ W hB rfl (fun _ _ h => h))
     ·intro L ys W hB hF hP K hK
      show OpE _ _ _ W K
      exact OpE.known (j := 1) (v := .agg (cdA (curC d (cutL l)))) (hF 1 (hP.1 rfl)) (OpE.known (j := 2) (v := .agg (cdA (curC d (cutL l)))) (hF 2 (hP.2.1 rfl)) (OpE.val (.bool false) W (run_neq_op (xs := (cdA (curC d (cutL l)))) (ys := (cdA (curC d (cutL l)))) (b := true) rfl (by kernel_rfl) (by kernel_rfl) (by kernel_rfl) (run_eql_flat (x := .agg (cdA (curC d (cutL l)))) (y := .agg (cdA (curC d (cutL l)))) (b := true) (m := 6) (lx := (litsC (curC d (cutL l)))) (ly := (litsC (curC d (cutL l)))) (by kernel_rfl) (by kernel_rfl) (by kernel_rfl) (by kernel_rfl) (by kernel_rfl) (by kernel_rfl) (Cor.Ok.lits (curC_ok hokd _)) (Cor.Ok.lits (curC_ok hokd _)) ⟨fun _ => rfl, fun _ => rfl⟩)) (hK _ W hB rfl (fun _ _ h => h))))
     ·intro L ys W hB hF hP K hK
      show OpE _ _ _ W K
      exact OpE.known (j := 3) (v := .bool false) (hF 3 (hP.1 rfl)) (OpE.val (.bool false) W (by kernel_rfl) (hK _ W hB rfl (fun _ _ h => h)))
     ·intro L ys W hB hF hP K hK
      refine ⟨61, false, rfl, (show fillE _ 0 ys _ 61 = _ from (hF 4 (hP.1 rfl))), .inl ⟨rfl, ?_⟩⟩
      exact OpE.val (iv (errK (curOk d (cutL l)))) W (by kernel_rfl) (hK _ W hB rfl (fun _ _ h => h))
     ·intro L ys W hB hF hP K hK
      refine ⟨61, false, rfl, (show fillE _ 0 ys _ 61 = _ from (hF 4 (hP.2.1 rfl))), .inl ⟨rfl, ?_⟩⟩
      exact OpE.known (j := 5) (v := iv (errK (curOk d (cutL l)))) (hF 5 (hP.1 rfl)) (OpE.val (.bool (curOk d (cutL l))) W (run_eqv (by kernel_rfl) (congrArg Value.bool (show ((errK (curOk d (cutL l))) == 0) = (curOk d (cutL l)) from err_0 _))) (hK _ W hB rfl (fun _ _ h => h)))
     ·intro L ys W hB hF hP K hK
      refine ⟨61, false, rfl, (show fillE _ 0 ys _ 61 = _ from (hF 4 (hP.1 rfl))), .inl ⟨rfl, ?_⟩⟩
      exact OpE.val (.bool (curOk d (cutL l))) W (by kernel_rfl) (hK _ W hB rfl (fun _ _ h => h))
    ·intro ys_142 w_139 hs_140 hF_141
     have hg_143 := hs_140
     have hs_140 : SH [] w w_139 [pt g_4 (cdA d) 33, pt g_35 #[.string (strOf (curL c)), .string (strOf (cutL l))] 9, pt g_126 (cvA (curC d (cutL l))) 45, pt g_134 (cdA (curC d (cutL l))) 33] := hs_138.grow hg_143
     refine SL.knownY (j := 4) (v := .bool false) (show ys_142 4 = .bool false from hF_141 4 (by decide)) (SL.knownY (j := 5) (v := iv (errK (curOk d (cutL l)))) (show ys_142 5 = iv (errK (curOk d (cutL l))) from hF_141 5 (by decide)) (SL.knownY (j := 6) (v := .bool (curOk d (cutL l))) (show ys_142 6 = .bool (curOk d (cutL l)) from hF_141 6 (by decide)) (SL.knownY (j := 7) (v := .bool (curOk d (cutL l))) (show ys_142 7 = .bool (curOk d (cutL l)) from hF_141 7 (by decide)) (?_))))
     clear hF_141 HGR
     refine SL.go ?_
     refine SL.val (v := .bool false) (w' := w_139) rfl rfl (run_boolne (a := curOk d (cutL l)) (b := curOk d (cutL l)) (c := false) rfl (by kernel_rfl) (by kernel_rfl) (by kernel_rfl) (by cases (curOk d (cutL l)) <;> rfl)) ?_
     refine SL.v (.bool false) ?_
     refine SL.v (.bool false) ?_
     refine SL.go ?_
     refine SL.v (.bool (curOk d (cutL l))) ?_
     refine SL.go ?_
     refine SL.v (.bool (!(curOk d (cutL l)))) ?_
     refine SL.go ?_
     refine SL.v (.bool (!(curOk d (cutL l)))) ?_
     rcases Bool.eq_false_or_eq_true (curOk d (cutL l)) with hb_144 | hb_144
     ·try rw [hb_144]
      refine SL.no false ?_
      refine SL.no false ?_
      refine SL.go ?_
      refine SL.v (.bool false) ?_
      refine SL.v (.bool false) ?_
      refine SL.nil ?_
      refine CW.cond_false (by kernel_rfl) ?_
      refine CW.skip ?_
      refine CW.region ?_
      refine SL.v (iv 2) ?_
      refine SL.v (iv 2) ?_
      refine SL.nil ?_
      have hs_145 : SH [] w w_139 [pt g_4 (cdA d) 33, pt g_35 #[.string (strOf (curL c)), .string (strOf (cutL l))] 9] := hs_140.pick [0, 0] rfl
      refine CR.fresh (fun e9 => e9 4 = pv g_4 0 ∧ e9 6 = .bool false ∧ e9 38 = sv g_35 0 2 2 ∧ e9 39 = iv 2 ∧ e9 40 = iv 2) ⟨(by kernel_rfl), (by kernel_rfl), (by kernel_rfl), (by kernel_rfl), (by kernel_rfl)⟩ ?_
      rintro e_146 ⟨hv_148, hv_149, hv_150, hv_151, hv_152⟩
      obtain ⟨e_147, rfl⟩ : ∃ e_147, e_146 = put1 (put1 (put1 (put1 (put1 e_147 4 (pv g_4 0)) 6 (.bool false)) 38 (sv g_35 0 2 2)) 39 (iv 2)) 40 (iv 2) := ⟨e_146, (put_self hv_152).trans (congrArg (fun z => put1 z 40 (iv 2)) ((put_self hv_151).trans (congrArg (fun z => put1 z 39 (iv 2)) ((put_self hv_150).trans (congrArg (fun z => put1 z 38 (sv g_35 0 2 2)) ((put_self hv_149).trans (congrArg (fun z => put1 z 6 (.bool false)) (put_self hv_148))))))))⟩
      clear hv_148 hv_149 hv_150 hv_151 hv_152
      refine CR.more ?_
      refine CW.seq ?_
      refine CW.region ?_
      refine SL.v (.bool false) ?_
      refine SL.nil ?_
      refine CW.seq ?_
      refine CW.cond_false (by kernel_rfl) ?_
      refine CW.exit ?_
      repeat with_reducible first | refine PThen.exit ?_ | refine PBlock.out rfl ?_
      with_reducible refine PBlock.here ?_
      repeat with_reducible refine PBlock.normal ?_
      refine CW.seq ?_
      refine CW.region ?_
      refine SL.v (.bool true) ?_
      refine SL.nil ?_
      refine CW.ret ?_
      repeat with_reducible first | refine PThen.ret ?_ | refine PBlock.ret ?_
      refine PRet.tmp (t := 6) (v := .bool true) rfl rfl (by kernel_rfl) ?_
      exact ⟨rfl, hs_145.gr⟩
     ·try rw [hb_144]
      refine SL.go ?_
      refine SL.v (iv (errK false)) ?_
      refine SL.go ?_
      refine SL.val (v := .bool false) (w' := w_139) rfl rfl (run_eqv (by kernel_rfl) (congrArg Value.bool (show (!((errK false) == 3)) = (false) from err_3 _))) ?_
      refine SL.go ?_
      refine SL.v (.bool false) ?_
      refine SL.v (.bool false) ?_
      refine SL.nil ?_
      refine CW.cond_false (by kernel_rfl) ?_
      refine CW.skip ?_
      refine CW.region ?_
      refine SL.v (iv 2) ?_
      refine SL.v (iv 2) ?_
      refine SL.nil ?_
      have hs_153 : SH [] w w_139 [pt g_4 (cdA d) 33, pt g_35 #[.string (strOf (curL c)), .string (strOf (cutL l))] 9] := hs_140.pick [0, 0] rfl
      refine CR.fresh (fun e9 => e9 4 = pv g_4 0 ∧ e9 6 = .bool false ∧ e9 38 = sv g_35 0 2 2 ∧ e9 39 = iv 2 ∧ e9 40 = iv 2) ⟨(by kernel_rfl), (by kernel_rfl), (by kernel_rfl), (by kernel_rfl), (by kernel_rfl)⟩ ?_
      rintro e_154 ⟨hv_156, hv_157, hv_158, hv_159, hv_160⟩
      obtain ⟨e_155, rfl⟩ : ∃ e_155, e_154 = put1 (put1 (put1 (put1 (put1 e_155 4 (pv g_4 0)) 6 (.bool false)) 38 (sv g_35 0 2 2)) 39 (iv 2)) 40 (iv 2) := ⟨e_154, (put_self hv_160).trans (congrArg (fun z => put1 z 40 (iv 2)) ((put_self hv_159).trans (congrArg (fun z => put1 z 39 (iv 2)) ((put_self hv_158).trans (congrArg (fun z => put1 z 38 (sv g_35 0 2 2)) ((put_self hv_157).trans (congrArg (fun z => put1 z 6 (.bool false)) (put_self hv_156))))))))⟩
      clear hv_156 hv_157 hv_158 hv_159 hv_160
      refine CR.more ?_
      refine CW.seq ?_
      refine CW.region ?_
      refine SL.v (.bool false) ?_
      refine SL.nil ?_
      refine CW.seq ?_
      refine CW.cond_false (by kernel_rfl) ?_
      refine CW.exit ?_
      repeat with_reducible first | refine PThen.exit ?_ | refine PBlock.out rfl ?_
      with_reducible refine PBlock.here ?_
      repeat with_reducible refine PBlock.normal ?_
      refine CW.seq ?_
      refine CW.region ?_
      refine SL.v (.bool true) ?_
      refine SL.nil ?_
      refine CW.ret ?_
      repeat with_reducible first | refine PThen.ret ?_ | refine PBlock.ret ?_
      refine PRet.tmp (t := 6) (v := .bool true) rfl rfl (by kernel_rfl) ?_
      exact ⟨rfl, hs_153.gr⟩
theorem tab_Cursors {w : World} (h : laidMetH Tryz.prog Rows.stateCursorsRow.laid w) : tabT w := by
 unfold Rows.stateCursorsRow at h
 rw [MakeChecks.laidMetH_plain _ _ _ (by kernel_rfl)] at h
 exact tabT_met19 (laidMet_tail2 (laidMet_tail2 h))
theorem strL (s : ByteArray) : ∃ l : List Int, s = strOf l ∧ (∀ c ∈ l, 0 ≤ c ∧ c < 256) ∧ l.length = s.size := by
 refine ⟨s.data.toList.map fun b => (b.toNat : Int), ?_, ?_, ?_⟩
 ·rw [strOf_bytes]
 ·intro c hc
  obtain ⟨b, _, rfl⟩ := List.mem_map.1 hc
  have := b.toNat_lt; omega
 ·rw [List.length_map, Array.length_toList]; rfl
theorem curs_law (c d : Cor) (s : ByteArray) (w : World) (h0 : c.In) (h1 : d.In) (h2 : s.size ≤ maxLen) (hlaid : laidMetH Tryz.prog Rows.stateCursorsRow.laid w) (hsh : w.ShapedOpen Tryz.prog) :
  Calls Tryz.prog 3 #[c.d, d.d, .string s] w fun e w' => e = .returned (.bool true) ∧ Gr w w' := by
 have hT := tab_Cursors hlaid
 have hM := MaxOkS.of hsh
 obtain ⟨l, rfl, hl, hls⟩ := strL s
 have hbig : l.length ≤ 9223372036854775807 := by rw [hls]; simp only [maxLen] at h2; omega
 cases hsc : smallZ c with
 | false => exact curs_no1 c d l w hT hM hl hbig hsc
 | true =>
  cases hsd : smallZ d with
  | false => exact curs_no2 c d l w hT hM hl hbig hsc hsd
  | true =>
   exact curs_yes c d l w hT hM hl hbig (h0.toOk hsc) (h1.toOk hsd) hsc hsd
end Go.Proofs.YtfkecgkfcldffaaGreatDoor
