/-
  A state that is brought back by the document, walked (gen_sto.py).
-/
import Derived.Test.YtfkecgkfcldffaaDoorZStO
namespace Go.Proofs.YtfkecgkfcldffaaDoor
set_option linter.unusedSimpArgs false
set_option linter.unusedVariables false
open Go.RowKit
set_option linter.unusedVariables false

theorem rparse_12 (l : List Int) (x0 x1 x2 x3 x4 x5 x6 x7 x8 x9 x10 x11 : Int) (w : World) (hl : ∀ c ∈ l, 0 ≤ c ∧ c < 256) (hn : l.length ≤ 300) (ha : l.all isAcc = true) (hx : numsR l = [x0, x1, x2, x3, x4, x5, x6, x7, x8, x9, x10, x11]) :
    Tr Tryd.prog 56 #[.string (strOf l)] w [] (fun v Q => ∃ g c pad, v = .tuple #[.slice (some ⟨g, 0, none⟩) 12 c, .int .i64 0] ∧ Q = [pt g ⟨[.int .i64 x0, .int .i64 x1, .int .i64 x2, .int .i64 x3, .int .i64 x4, .int .i64 x5, .int .i64 x6, .int .i64 x7, .int .i64 x8, .int .i64 x9, .int .i64 x10, .int .i64 x11] ++ pad⟩ 3]) := fun fp hfp => by
  have h0 : fp = [] := hfp
  subst h0
  refine (nums_call hl (by omega) ha w).mono fun e w' hR => ?_
  obtain ⟨v, rfl, hown, hg⟩ := hR
  rw [hx] at hown
  obtain ⟨h1, ⟨_, h2⟩ | ⟨g, cap, cur, rfl, h3, h4, h5, h6, h7, h8⟩⟩ := hown
  · cases h2
  · have hcur : cur = ⟨icells [x0, x1, x2, x3, x4, x5, x6, x7, x8, x9, x10, x11] ++ cur.toList.drop 12⟩ := by
      apply Array.ext'
      show cur.toList = icells [x0, x1, x2, x3, x4, x5, x6, x7, x8, x9, x10, x11] ++ cur.toList.drop 12
      conv => rhs; rw [← h8]
      exact (List.take_append_drop _ _).symm
    rw [hcur] at h4
    exact ⟨_, _, [g], rfl, ⟨g, cap, cur.toList.drop 12, rfl, rfl⟩, HSt.mk1 ⟨rfl, h4⟩, hg.updU, fun k hk => .inr (by simp at hk; omega)⟩
theorem rparse_no (l : List Int) (w : World) (hl : ∀ c ∈ l, 0 ≤ c ∧ c < 256) (hn : l.length ≤ 300) (ha : l.all isAcc = false) :
    Tr Tryd.prog 56 #[.string (strOf l)] w [] (fun v Q => v = .tuple #[.slice none 0 0, .int .i64 3] ∧ Q = []) := fun fp hfp => by
  have h0 : fp = [] := hfp
  subst h0
  refine (nums_bad hl (by omega) ha w).mono fun e w' hR => ?_
  obtain ⟨rfl, rfl⟩ := hR
  exact ⟨_, _, [], rfl, ⟨rfl, rfl⟩, rfl, Upd.refl _ _, by simp⟩
theorem rparse_len (l : List Int) (w : World) (hl : ∀ c ∈ l, 0 ≤ c ∧ c < 256) (hn : l.length ≤ 300) (ha : l.all isAcc = true) :
    Tr Tryd.prog 56 #[.string (strOf l)] w [] (fun v Q => ∃ a c, v = .tuple #[.slice a (numsR l).length c, .int .i64 0] ∧ Q = [rowH 3 1 a (numsR l).length c (icells (numsR l))]) := fun fp hfp => by
  have h0 : fp = [] := hfp
  subst h0
  refine (nums_call hl (by omega) ha w).mono fun e w' hR => ?_
  obtain ⟨v, rfl, hown, hg⟩ := hR
  obtain ⟨a, c, rfl, hst, hB⟩ := own_new hown
  exact ⟨_, _, _, rfl, ⟨a, c, rfl, rfl⟩, hst, hg.updU, fun g hm => .inr (hB g hm)⟩
/-- The numbers that the document takes for a state. -/
def okL (pb pr : Int) (x0 x1 x2 x3 x4 x5 x6 x7 x8 x9 x10 x11 : Int) : Bool := decide (x1 < 2) && decide (x4 < 2) && decide (x6 < 2) && decide (x11 < 2) && decide (1 ≤ x0) && decide (x0 ≤ 5) && decide (x2 ≤ 31) && decide (x3 ≤ 4095) && decide (x5 ≤ 2) && decide (x7 < x9) && decide (x8 < x10) && decide (x9 ≤ pb) && decide (x10 ≤ pr)
/-- A state with other numbers, as the document has it. -/
def dcor (c : Cor) (x0 x1 x2 x3 x4 x5 x6 x7 x8 x9 x10 x11 : Int) : Cor := { c.clean with level := x0, eight := x1 == 1, modes := 4096 * x2 + x3, stream := x4 == 1, status := x5, below := x6 == 1, mt := x7, ml := x8, mb := x9, mr := x10, origin := x11 == 1 }
set_option maxRecDepth 100000 in
set_option maxHeartbeats 4000000 in
theorem drs_bad (c : Cor) (l : List Int) (w : World) (hok : c.Ok) (hl : ∀ c ∈ l, 0 ≤ c ∧ c < 256) (hn : l.length ≤ 300) (ha : l.all isAcc = false) : Calls Tryd.prog 19 #[.agg (cdA c), .string (strOf l)] w fun e w' => e = .returned (.tuple #[.agg (cdA c.clean), .bool false]) ∧ Gr w w' := by
  have hcm := hok.clean.modes
  refine calls_sx (n := 170) (args := [.agg (cdA c), .string (strOf l)]) Tryd.func19 rfl rfl rfl ?_
  have hs0 := SH.none w
  refine CW.seq ?_
  refine CW.region ?_
  refine SL.newH (mk := fun g => .pointer (some ⟨g, 0, none⟩)) (C := (cdA c)) (T := 33) hs0 rfl rfl (by kernel_rfl) (fun g_1 w_2 hs_3 => ?_)
  have hs_3 : SH [] w w_2 [pt g_1 (cdA c) 33] := hs_3
  refine SL.newH (mk := fun g => .pointer (some ⟨g, 0, none⟩)) (C := czD) (T := 33) hs_3 rfl rfl (by kernel_rfl) (fun g_4 w_5 hs_6 => ?_)
  have hs_6 : SH [] w w_5 [pt g_1 (cdA c) 33, pt g_4 czD 33] := hs_6
  refine SL.v (.bool false) ?_
  refine SL.nil ?_
  refine CW.seq ?_
  refine CW.region ?_
  refine SL.load (g := g_1) (off := 0) (v := .agg (cdA c)) rfl rfl rfl (by kernel_rfl) (hs_6.pt_at (i := 0) rfl) (by kernel_rfl) ?_
  refine SL.call (f := 11) (args := #[.agg (cdA c)]) (w1 := w_5) rfl rfl (by kernel_rfl) (rclean_any c w_5 hok) ?_
  rintro x w_7 ⟨rfl, hc_8⟩
  refine ⟨.agg (cdA c.clean), rfl, ?_⟩
  have hs_9 := hs_6.grow hc_8
  refine SL.storeH (i := 0) (g := g_1) (off := 0) (v := .agg (cdA c.clean)) (L' := [pt g_1 (cdA c.clean) 33, pt g_4 czD 33]) hs_9 rfl rfl rfl (by kernel_rfl) (by kernel_rfl) rfl (by kernel_rfl) (by kernel_rfl) rfl (by kernel_rfl) rfl (fun w_10 hs_11 => ?_)
  refine SL.nil ?_
  refine CW.seq ?_
  refine CW.region ?_
  refine SL.v (.string (strOf l)) ?_
  refine SL.callH (f := 56) (args := #[.string (strOf l)]) (Pre := []) (Rest := [pt g_1 (cdA c.clean) 33, pt g_4 czD 33]) [] hs_11 rfl rfl (by kernel_rfl) rfl (rparse_no l w_10 hl hn ha) ?_
  rintro v_ Q_ w_12 ⟨rfl, rfl⟩ hs_14
  have hs_14 : SH [] w w_12 [pt g_1 (cdA c.clean) 33, pt g_4 czD 33] := hs_14
  refine SL.v (.tuple #[.slice none 0 0, .int .i64 3]) ?_
  refine SL.v (.slice none 0 0) ?_
  refine SL.v (.int .i64 3) ?_
  refine SL.v (.slice none 0 0) ?_
  refine SL.v (.int .i64 3) ?_
  refine SL.nil ?_
  refine CW.seq ?_
  refine CW.seq ?_
  refine CW.region ?_
  refine SL.v (.int .i64 3) ?_
  refine SL.v (.bool true) ?_
  refine SL.v (.bool true) ?_
  refine SL.no true ?_
  refine SL.no true ?_
  refine SL.no true ?_
  refine SL.v (.bool true) ?_
  refine SL.nil ?_
  refine CW.cond_true (by kernel_rfl) ?_
  refine CW.seq ?_
  refine CW.region ?_
  refine SL.load (g := g_1) (off := 0) (v := .agg (cdA c.clean)) rfl rfl rfl (by kernel_rfl) (hs_14.pt_at (i := 0) rfl) (by kernel_rfl) ?_
  refine SL.storeH (i := 1) (g := g_4) (off := 0) (v := .agg (cdA c.clean)) (L' := [pt g_1 (cdA c.clean) 33, pt g_4 (cdA c.clean) 33]) hs_14 rfl rfl rfl (by kernel_rfl) (by kernel_rfl) rfl (by kernel_rfl) (by kernel_rfl) rfl (by kernel_rfl) rfl (fun w_15 hs_16 => ?_)
  refine SL.v (.bool false) ?_
  refine SL.nil ?_
  refine CW.ret ?_
  repeat with_reducible first | refine PThen.ret ?_ | refine PBlock.ret ?_
  refine PRet.cellTmp (t := 4) (u := 5) (ty := 33) (g := g_4) (v := .agg (cdA c.clean)) (v' := .bool false) rfl rfl rfl (by kernel_rfl) (hs_16.pt_at (i := 1) rfl) (by kernel_rfl) (by kernel_rfl) ?_
  exact ⟨rfl, hs_16.gr⟩
set_option maxRecDepth 100000 in
set_option maxHeartbeats 4000000 in
theorem drs_len (c : Cor) (l : List Int) (w : World) (hok : c.Ok) (hl : ∀ c ∈ l, 0 ≤ c ∧ c < 256) (hn : l.length ≤ 300) (ha : l.all isAcc = true) (hx : (numsR l).length ≠ 12) : Calls Tryd.prog 19 #[.agg (cdA c), .string (strOf l)] w fun e w' => e = .returned (.tuple #[.agg (cdA c.clean), .bool false]) ∧ Gr w w' := by
  have hcm := hok.clean.modes
  refine calls_sx (n := 170) (args := [.agg (cdA c), .string (strOf l)]) Tryd.func19 rfl rfl rfl ?_
  have hs0 := SH.none w
  refine CW.seq ?_
  refine CW.region ?_
  refine SL.newH (mk := fun g => .pointer (some ⟨g, 0, none⟩)) (C := (cdA c)) (T := 33) hs0 rfl rfl (by kernel_rfl) (fun g_1 w_2 hs_3 => ?_)
  have hs_3 : SH [] w w_2 [pt g_1 (cdA c) 33] := hs_3
  refine SL.newH (mk := fun g => .pointer (some ⟨g, 0, none⟩)) (C := czD) (T := 33) hs_3 rfl rfl (by kernel_rfl) (fun g_4 w_5 hs_6 => ?_)
  have hs_6 : SH [] w w_5 [pt g_1 (cdA c) 33, pt g_4 czD 33] := hs_6
  refine SL.v (.bool false) ?_
  refine SL.nil ?_
  refine CW.seq ?_
  refine CW.region ?_
  refine SL.load (g := g_1) (off := 0) (v := .agg (cdA c)) rfl rfl rfl (by kernel_rfl) (hs_6.pt_at (i := 0) rfl) (by kernel_rfl) ?_
  refine SL.call (f := 11) (args := #[.agg (cdA c)]) (w1 := w_5) rfl rfl (by kernel_rfl) (rclean_any c w_5 hok) ?_
  rintro x w_7 ⟨rfl, hc_8⟩
  refine ⟨.agg (cdA c.clean), rfl, ?_⟩
  have hs_9 := hs_6.grow hc_8
  refine SL.storeH (i := 0) (g := g_1) (off := 0) (v := .agg (cdA c.clean)) (L' := [pt g_1 (cdA c.clean) 33, pt g_4 czD 33]) hs_9 rfl rfl rfl (by kernel_rfl) (by kernel_rfl) rfl (by kernel_rfl) (by kernel_rfl) rfl (by kernel_rfl) rfl (fun w_10 hs_11 => ?_)
  refine SL.nil ?_
  refine CW.seq ?_
  refine CW.region ?_
  refine SL.v (.string (strOf l)) ?_
  refine SL.callH (f := 56) (args := #[.string (strOf l)]) (Pre := []) (Rest := [pt g_1 (cdA c.clean) 33, pt g_4 czD 33]) [] hs_11 rfl rfl (by kernel_rfl) rfl (rparse_len l w_10 hl hn ha) ?_
  rintro v_ Q_ w_15 ⟨a_12, c_13, rfl, rfl⟩ hs_17
  have hs_17 : SH [] w w_15 [rowH 3 1 a_12 (numsR l).length c_13 (icells (numsR l)), pt g_1 (cdA c.clean) 33, pt g_4 czD 33] := hs_17
  refine SL.v (.tuple #[.slice a_12 ((numsR l).length) c_13, .int .i64 0]) ?_
  refine SL.v (.slice a_12 ((numsR l).length) c_13) ?_
  refine SL.v (.int .i64 0) ?_
  refine SL.v (.slice a_12 ((numsR l).length) c_13) ?_
  refine SL.v (.int .i64 0) ?_
  refine SL.nil ?_
  refine CW.seq ?_
  refine CW.seq ?_
  refine CW.region ?_
  refine SL.v (.int .i64 0) ?_
  refine SL.v (.bool false) ?_
  refine SL.v (.bool false) ?_
  refine SL.go ?_
  refine SL.v (.slice a_12 ((numsR l).length) c_13) ?_
  refine SL.go ?_
  refine SL.val (v := .int .i64 (((numsR l).length : Nat) : Int)) (w' := w_15) rfl rfl (by kernel_rfl) ?_
  refine SL.go ?_
  refine SL.v (.bool (!((((numsR l).length : Nat) : Int) == 12))) ?_
  refine SL.v (.bool (!((((numsR l).length : Nat) : Int) == 12))) ?_
  refine SL.nil ?_
  have hb_18 : ((((numsR l).length : Nat) : Int) == 12) = false := (by simp; omega)
  rw [hb_18]
  refine CW.cond_true (by kernel_rfl) ?_
  refine CW.seq ?_
  refine CW.region ?_
  refine SL.load (g := g_1) (off := 0) (v := .agg (cdA c.clean)) rfl rfl rfl (by kernel_rfl) (hs_17.pt_at (i := 1) rfl) (by kernel_rfl) ?_
  refine SL.storeH (i := 2) (g := g_4) (off := 0) (v := .agg (cdA c.clean)) (L' := [rowH 3 1 a_12 (numsR l).length c_13 (icells (numsR l)), pt g_1 (cdA c.clean) 33, pt g_4 (cdA c.clean) 33]) hs_17 rfl rfl rfl (by kernel_rfl) (by kernel_rfl) rfl (by kernel_rfl) (by kernel_rfl) rfl (by kernel_rfl) rfl (fun w_19 hs_20 => ?_)
  refine SL.v (.bool false) ?_
  refine SL.nil ?_
  refine CW.ret ?_
  repeat with_reducible first | refine PThen.ret ?_ | refine PBlock.ret ?_
  refine PRet.cellTmp (t := 4) (u := 5) (ty := 33) (g := g_4) (v := .agg (cdA c.clean)) (v' := .bool false) rfl rfl rfl (by kernel_rfl) (hs_20.pt_at (i := 2) rfl) (by kernel_rfl) (by kernel_rfl) ?_
  exact ⟨rfl, hs_20.gr⟩
set_option maxRecDepth 100000 in
set_option maxHeartbeats 8000000 in
theorem drs_12 (c : Cor) (l : List Int) (w : World) (hok : c.Ok) (hl : ∀ c ∈ l, 0 ≤ c ∧ c < 256) (hn : l.length ≤ 300) (x0 x1 x2 x3 x4 x5 x6 x7 x8 x9 x10 x11 : Int) (ha : l.all isAcc = true) (hx : numsR l = [x0, x1, x2, x3, x4, x5, x6, x7, x8, x9, x10, x11]) (hb : In16 x0 ∧ In16 x1 ∧ In16 x2 ∧ In16 x3 ∧ In16 x4 ∧ In16 x5 ∧ In16 x6 ∧ In16 x7 ∧ In16 x8 ∧ In16 x9 ∧ In16 x10 ∧ In16 x11) : Calls Tryd.prog 19 #[.agg (cdA c), .string (strOf l)] w fun e w' => e = .returned (.tuple #[.agg (bif okL c.clean.pb c.clean.pr x0 x1 x2 x3 x4 x5 x6 x7 x8 x9 x10 x11 then cdA (dcor c x0 x1 x2 x3 x4 x5 x6 x7 x8 x9 x10 x11) else cdA c.clean), .bool (okL c.clean.pb c.clean.pr x0 x1 x2 x3 x4 x5 x6 x7 x8 x9 x10 x11)]) ∧ Gr w w' := by
  have hcm := hok.clean.modes
  obtain ⟨h0, h1, h2, h3, h4, h5, h6, h7, h8, h9, h10, h11⟩ := hb
  unfold In16 at *
  refine calls_sx (n := 170) (args := [.agg (cdA c), .string (strOf l)]) Tryd.func19 rfl rfl rfl ?_
  have hs0 := SH.none w
  refine CW.seq ?_
  refine CW.region ?_
  refine SL.newH (mk := fun g => .pointer (some ⟨g, 0, none⟩)) (C := (cdA c)) (T := 33) hs0 rfl rfl (by kernel_rfl) (fun g_1 w_2 hs_3 => ?_)
  have hs_3 : SH [] w w_2 [pt g_1 (cdA c) 33] := hs_3
  refine SL.newH (mk := fun g => .pointer (some ⟨g, 0, none⟩)) (C := czD) (T := 33) hs_3 rfl rfl (by kernel_rfl) (fun g_4 w_5 hs_6 => ?_)
  have hs_6 : SH [] w w_5 [pt g_1 (cdA c) 33, pt g_4 czD 33] := hs_6
  refine SL.v (.bool false) ?_
  refine SL.nil ?_
  refine CW.seq ?_
  refine CW.region ?_
  refine SL.load (g := g_1) (off := 0) (v := .agg (cdA c)) rfl rfl rfl (by kernel_rfl) (hs_6.pt_at (i := 0) rfl) (by kernel_rfl) ?_
  refine SL.call (f := 11) (args := #[.agg (cdA c)]) (w1 := w_5) rfl rfl (by kernel_rfl) (rclean_any c w_5 hok) ?_
  rintro x w_7 ⟨rfl, hc_8⟩
  refine ⟨.agg (cdA c.clean), rfl, ?_⟩
  have hs_9 := hs_6.grow hc_8
  refine SL.storeH (i := 0) (g := g_1) (off := 0) (v := .agg (cdA c.clean)) (L' := [pt g_1 (cdA c.clean) 33, pt g_4 czD 33]) hs_9 rfl rfl rfl (by kernel_rfl) (by kernel_rfl) rfl (by kernel_rfl) (by kernel_rfl) rfl (by kernel_rfl) rfl (fun w_10 hs_11 => ?_)
  refine SL.nil ?_
  refine CW.seq ?_
  refine CW.region ?_
  refine SL.v (.string (strOf l)) ?_
  refine SL.callH (f := 56) (args := #[.string (strOf l)]) (Pre := []) (Rest := [pt g_1 (cdA c.clean) 33, pt g_4 czD 33]) [] hs_11 rfl rfl (by kernel_rfl) rfl (rparse_12 l x0 x1 x2 x3 x4 x5 x6 x7 x8 x9 x10 x11 w_10 hl hn ha hx) ?_
  rintro v_ Q_ w_15 ⟨g_12, c_13, pad_14, rfl, rfl⟩ hs_17
  have hs_17 : SH [] w w_15 [pt g_12 ⟨[.int .i64 x0, .int .i64 x1, .int .i64 x2, .int .i64 x3, .int .i64 x4, .int .i64 x5, .int .i64 x6, .int .i64 x7, .int .i64 x8, .int .i64 x9, .int .i64 x10, .int .i64 x11] ++ pad_14⟩ 3, pt g_1 (cdA c.clean) 33, pt g_4 czD 33] := hs_17
  refine SL.v (.tuple #[.slice (some ⟨g_12, 0, none⟩) 12 c_13, .int .i64 0]) ?_
  refine SL.v (.slice (some ⟨g_12, 0, none⟩) 12 c_13) ?_
  refine SL.v (.int .i64 0) ?_
  refine SL.v (.slice (some ⟨g_12, 0, none⟩) 12 c_13) ?_
  refine SL.v (.int .i64 0) ?_
  refine SL.nil ?_
  refine CW.seq ?_
  refine CW.seq ?_
  refine CW.region ?_
  refine SL.v (.int .i64 0) ?_
  refine SL.v (.bool false) ?_
  refine SL.v (.bool false) ?_
  refine SL.go ?_
  refine SL.v (.slice (some ⟨g_12, 0, none⟩) 12 c_13) ?_
  refine SL.go ?_
  refine SL.val (v := .int .i64 12) (w' := w_15) rfl rfl (by kernel_rfl) ?_
  refine SL.go ?_
  refine SL.v (.bool false) ?_
  refine SL.v (.bool false) ?_
  refine SL.nil ?_
  refine CW.cond_false (by kernel_rfl) ?_
  refine CW.skip ?_
  refine CW.seq ?_
  refine CW.region ?_
  refine SL.v (.slice (some ⟨g_12, 0, none⟩) 12 c_13) ?_
  refine SL.v (.pointer (some ⟨g_12, 1, none⟩)) ?_
  refine SL.load (g := g_12) (off := 1) (v := .int .i64 x1) rfl rfl rfl (by kernel_rfl) (hs_17.pt_at (i := 0) rfl) (by kernel_rfl) ?_
  refine SL.v (.bool (decide (x1 < 2))) ?_
  refine SL.v (.bool (decide (x1 < 2))) ?_
  rcases Bool.eq_false_or_eq_true (decide (x1 < 2)) with hb_18 | hb_18
  · try rw [hb_18]
    have hqhb_18 := of_decide_eq_true hb_18
    refine SL.go ?_
    refine SL.v (.slice (some ⟨g_12, 0, none⟩) 12 c_13) ?_
    refine SL.go ?_
    refine SL.v (.pointer (some ⟨g_12, 4, none⟩)) ?_
    refine SL.go ?_
    refine SL.load (g := g_12) (off := 4) (v := .int .i64 x4) rfl rfl rfl (by kernel_rfl) (hs_17.pt_at (i := 0) rfl) (by kernel_rfl) ?_
    refine SL.go ?_
    refine SL.v (.bool (decide (x4 < 2))) ?_
    refine SL.v (.bool (decide (x4 < 2))) ?_
    refine SL.v (.bool (decide (x4 < 2))) ?_
    rcases Bool.eq_false_or_eq_true (decide (x4 < 2)) with hb_19 | hb_19
    · try rw [hb_19]
      have hqhb_19 := of_decide_eq_true hb_19
      refine SL.go ?_
      refine SL.v (.slice (some ⟨g_12, 0, none⟩) 12 c_13) ?_
      refine SL.go ?_
      refine SL.v (.pointer (some ⟨g_12, 6, none⟩)) ?_
      refine SL.go ?_
      refine SL.load (g := g_12) (off := 6) (v := .int .i64 x6) rfl rfl rfl (by kernel_rfl) (hs_17.pt_at (i := 0) rfl) (by kernel_rfl) ?_
      refine SL.go ?_
      refine SL.v (.bool (decide (x6 < 2))) ?_
      refine SL.v (.bool (decide (x6 < 2))) ?_
      refine SL.v (.bool (decide (x6 < 2))) ?_
      rcases Bool.eq_false_or_eq_true (decide (x6 < 2)) with hb_20 | hb_20
      · try rw [hb_20]
        have hqhb_20 := of_decide_eq_true hb_20
        refine SL.go ?_
        refine SL.v (.slice (some ⟨g_12, 0, none⟩) 12 c_13) ?_
        refine SL.go ?_
        refine SL.v (.pointer (some ⟨g_12, 11, none⟩)) ?_
        refine SL.go ?_
        refine SL.load (g := g_12) (off := 11) (v := .int .i64 x11) rfl rfl rfl (by kernel_rfl) (hs_17.pt_at (i := 0) rfl) (by kernel_rfl) ?_
        refine SL.go ?_
        refine SL.v (.bool (decide (x11 < 2))) ?_
        refine SL.v (.bool (decide (x11 < 2))) ?_
        refine SL.v (.bool (decide (x11 < 2))) ?_
        refine SL.nil ?_
        refine CW.seq ?_
        refine CW.seq ?_
        refine CW.region ?_
        refine SL.v (.bool (decide (x11 < 2))) ?_
        refine SL.v (.bool (!(decide (x11 < 2)))) ?_
        refine SL.v (.bool (!(decide (x11 < 2)))) ?_
        rcases Bool.eq_false_or_eq_true (decide (x11 < 2)) with hb_21 | hb_21
        · try rw [hb_21]
          have hqhb_21 := of_decide_eq_true hb_21
          refine SL.go ?_
          refine SL.v (.slice (some ⟨g_12, 0, none⟩) 12 c_13) ?_
          refine SL.go ?_
          refine SL.v (.pointer (some ⟨g_12, 0, none⟩)) ?_
          refine SL.go ?_
          refine SL.load (g := g_12) (off := 0) (v := .int .i64 x0) rfl rfl rfl (by kernel_rfl) (hs_17.pt_at (i := 0) rfl) (by kernel_rfl) ?_
          refine SL.go ?_
          refine SL.v (.bool (decide (x0 < 1))) ?_
          refine SL.v (.bool (decide (x0 < 1))) ?_
          refine SL.v (.bool (decide (x0 < 1))) ?_
          rcases Bool.eq_false_or_eq_true (decide (x0 < 1)) with hb_22 | hb_22
          · try rw [hb_22]
            have hqhb_22 := of_decide_eq_true hb_22
            refine SL.no true ?_
            refine SL.no true ?_
            refine SL.no true ?_
            refine SL.no true ?_
            refine SL.v (.bool true) ?_
            refine SL.v (.bool true) ?_
            refine SL.no true ?_
            refine SL.no true ?_
            refine SL.no true ?_
            refine SL.no true ?_
            refine SL.v (.bool true) ?_
            refine SL.v (.bool true) ?_
            refine SL.no true ?_
            refine SL.no true ?_
            refine SL.no true ?_
            refine SL.no true ?_
            refine SL.v (.bool true) ?_
            refine SL.v (.bool true) ?_
            refine SL.no true ?_
            refine SL.no true ?_
            refine SL.no true ?_
            refine SL.no true ?_
            refine SL.v (.bool true) ?_
            refine SL.nil ?_
            refine CW.cond_true (by kernel_rfl) ?_
            refine CW.seq ?_
            refine CW.region ?_
            refine SL.load (g := g_1) (off := 0) (v := .agg (cdA c.clean)) rfl rfl rfl (by kernel_rfl) (hs_17.pt_at (i := 1) rfl) (by kernel_rfl) ?_
            refine SL.storeH (i := 2) (g := g_4) (off := 0) (v := .agg (cdA c.clean)) (L' := [pt g_12 ⟨[.int .i64 x0, .int .i64 x1, .int .i64 x2, .int .i64 x3, .int .i64 x4, .int .i64 x5, .int .i64 x6, .int .i64 x7, .int .i64 x8, .int .i64 x9, .int .i64 x10, .int .i64 x11] ++ pad_14⟩ 3, pt g_1 (cdA c.clean) 33, pt g_4 (cdA c.clean) 33]) hs_17 rfl rfl rfl (by kernel_rfl) (by kernel_rfl) rfl (by kernel_rfl) (by kernel_rfl) rfl (by kernel_rfl) rfl (fun w_23 hs_24 => ?_)
            refine SL.v (.bool false) ?_
            refine SL.nil ?_
            refine CW.ret ?_
            repeat with_reducible first | refine PThen.ret ?_ | refine PBlock.ret ?_
            refine PRet.cellTmp (t := 4) (u := 5) (ty := 33) (g := g_4) (v := .agg (cdA c.clean)) (v' := .bool false) rfl rfl rfl (by kernel_rfl) (hs_24.pt_at (i := 2) rfl) (by kernel_rfl) (by kernel_rfl) ?_
            have hq : okL c.clean.pb c.clean.pr x0 x1 x2 x3 x4 x5 x6 x7 x8 x9 x10 x11 = false := by unfold okL; simp; omega
            exact ⟨by rw [hq]; rfl, hs_24.gr⟩
          · try rw [hb_22]
            have hqhb_22 := of_decide_eq_false hb_22
            refine SL.go ?_
            refine SL.v (.slice (some ⟨g_12, 0, none⟩) 12 c_13) ?_
            refine SL.go ?_
            refine SL.v (.pointer (some ⟨g_12, 0, none⟩)) ?_
            refine SL.go ?_
            refine SL.load (g := g_12) (off := 0) (v := .int .i64 x0) rfl rfl rfl (by kernel_rfl) (hs_17.pt_at (i := 0) rfl) (by kernel_rfl) ?_
            refine SL.go ?_
            refine SL.v (.bool (decide (5 < x0))) ?_
            refine SL.v (.bool (decide (5 < x0))) ?_
            refine SL.v (.bool (decide (5 < x0))) ?_
            rcases Bool.eq_false_or_eq_true (decide (5 < x0)) with hb_25 | hb_25
            · try rw [hb_25]
              have hqhb_25 := of_decide_eq_true hb_25
              refine SL.no true ?_
              refine SL.no true ?_
              refine SL.no true ?_
              refine SL.no true ?_
              refine SL.v (.bool true) ?_
              refine SL.v (.bool true) ?_
              refine SL.no true ?_
              refine SL.no true ?_
              refine SL.no true ?_
              refine SL.no true ?_
              refine SL.v (.bool true) ?_
              refine SL.v (.bool true) ?_
              refine SL.no true ?_
              refine SL.no true ?_
              refine SL.no true ?_
              refine SL.no true ?_
              refine SL.v (.bool true) ?_
              refine SL.nil ?_
              refine CW.cond_true (by kernel_rfl) ?_
              refine CW.seq ?_
              refine CW.region ?_
              refine SL.load (g := g_1) (off := 0) (v := .agg (cdA c.clean)) rfl rfl rfl (by kernel_rfl) (hs_17.pt_at (i := 1) rfl) (by kernel_rfl) ?_
              refine SL.storeH (i := 2) (g := g_4) (off := 0) (v := .agg (cdA c.clean)) (L' := [pt g_12 ⟨[.int .i64 x0, .int .i64 x1, .int .i64 x2, .int .i64 x3, .int .i64 x4, .int .i64 x5, .int .i64 x6, .int .i64 x7, .int .i64 x8, .int .i64 x9, .int .i64 x10, .int .i64 x11] ++ pad_14⟩ 3, pt g_1 (cdA c.clean) 33, pt g_4 (cdA c.clean) 33]) hs_17 rfl rfl rfl (by kernel_rfl) (by kernel_rfl) rfl (by kernel_rfl) (by kernel_rfl) rfl (by kernel_rfl) rfl (fun w_26 hs_27 => ?_)
              refine SL.v (.bool false) ?_
              refine SL.nil ?_
              refine CW.ret ?_
              repeat with_reducible first | refine PThen.ret ?_ | refine PBlock.ret ?_
              refine PRet.cellTmp (t := 4) (u := 5) (ty := 33) (g := g_4) (v := .agg (cdA c.clean)) (v' := .bool false) rfl rfl rfl (by kernel_rfl) (hs_27.pt_at (i := 2) rfl) (by kernel_rfl) (by kernel_rfl) ?_
              have hq : okL c.clean.pb c.clean.pr x0 x1 x2 x3 x4 x5 x6 x7 x8 x9 x10 x11 = false := by unfold okL; simp; omega
              exact ⟨by rw [hq]; rfl, hs_27.gr⟩
            · try rw [hb_25]
              have hqhb_25 := of_decide_eq_false hb_25
              refine SL.go ?_
              refine SL.v (.slice (some ⟨g_12, 0, none⟩) 12 c_13) ?_
              refine SL.go ?_
              refine SL.v (.pointer (some ⟨g_12, 2, none⟩)) ?_
              refine SL.go ?_
              refine SL.load (g := g_12) (off := 2) (v := .int .i64 x2) rfl rfl rfl (by kernel_rfl) (hs_17.pt_at (i := 0) rfl) (by kernel_rfl) ?_
              refine SL.go ?_
              refine SL.v (.bool (decide (31 < x2))) ?_
              refine SL.v (.bool (decide (31 < x2))) ?_
              refine SL.v (.bool (decide (31 < x2))) ?_
              rcases Bool.eq_false_or_eq_true (decide (31 < x2)) with hb_28 | hb_28
              · try rw [hb_28]
                have hqhb_28 := of_decide_eq_true hb_28
                refine SL.no true ?_
                refine SL.no true ?_
                refine SL.no true ?_
                refine SL.no true ?_
                refine SL.v (.bool true) ?_
                refine SL.v (.bool true) ?_
                refine SL.no true ?_
                refine SL.no true ?_
                refine SL.no true ?_
                refine SL.no true ?_
                refine SL.v (.bool true) ?_
                refine SL.nil ?_
                refine CW.cond_true (by kernel_rfl) ?_
                refine CW.seq ?_
                refine CW.region ?_
                refine SL.load (g := g_1) (off := 0) (v := .agg (cdA c.clean)) rfl rfl rfl (by kernel_rfl) (hs_17.pt_at (i := 1) rfl) (by kernel_rfl) ?_
                refine SL.storeH (i := 2) (g := g_4) (off := 0) (v := .agg (cdA c.clean)) (L' := [pt g_12 ⟨[.int .i64 x0, .int .i64 x1, .int .i64 x2, .int .i64 x3, .int .i64 x4, .int .i64 x5, .int .i64 x6, .int .i64 x7, .int .i64 x8, .int .i64 x9, .int .i64 x10, .int .i64 x11] ++ pad_14⟩ 3, pt g_1 (cdA c.clean) 33, pt g_4 (cdA c.clean) 33]) hs_17 rfl rfl rfl (by kernel_rfl) (by kernel_rfl) rfl (by kernel_rfl) (by kernel_rfl) rfl (by kernel_rfl) rfl (fun w_29 hs_30 => ?_)
                refine SL.v (.bool false) ?_
                refine SL.nil ?_
                refine CW.ret ?_
                repeat with_reducible first | refine PThen.ret ?_ | refine PBlock.ret ?_
                refine PRet.cellTmp (t := 4) (u := 5) (ty := 33) (g := g_4) (v := .agg (cdA c.clean)) (v' := .bool false) rfl rfl rfl (by kernel_rfl) (hs_30.pt_at (i := 2) rfl) (by kernel_rfl) (by kernel_rfl) ?_
                have hq : okL c.clean.pb c.clean.pr x0 x1 x2 x3 x4 x5 x6 x7 x8 x9 x10 x11 = false := by unfold okL; simp; omega
                exact ⟨by rw [hq]; rfl, hs_30.gr⟩
              · try rw [hb_28]
                have hqhb_28 := of_decide_eq_false hb_28
                refine SL.go ?_
                refine SL.v (.slice (some ⟨g_12, 0, none⟩) 12 c_13) ?_
                refine SL.go ?_
                refine SL.v (.pointer (some ⟨g_12, 3, none⟩)) ?_
                refine SL.go ?_
                refine SL.load (g := g_12) (off := 3) (v := .int .i64 x3) rfl rfl rfl (by kernel_rfl) (hs_17.pt_at (i := 0) rfl) (by kernel_rfl) ?_
                refine SL.go ?_
                refine SL.v (.bool (decide (4095 < x3))) ?_
                refine SL.v (.bool (decide (4095 < x3))) ?_
                refine SL.v (.bool (decide (4095 < x3))) ?_
                rcases Bool.eq_false_or_eq_true (decide (4095 < x3)) with hb_31 | hb_31
                · try rw [hb_31]
                  have hqhb_31 := of_decide_eq_true hb_31
                  refine SL.no true ?_
                  refine SL.no true ?_
                  refine SL.no true ?_
                  refine SL.no true ?_
                  refine SL.v (.bool true) ?_
                  refine SL.nil ?_
                  refine CW.cond_true (by kernel_rfl) ?_
                  refine CW.seq ?_
                  refine CW.region ?_
                  refine SL.load (g := g_1) (off := 0) (v := .agg (cdA c.clean)) rfl rfl rfl (by kernel_rfl) (hs_17.pt_at (i := 1) rfl) (by kernel_rfl) ?_
                  refine SL.storeH (i := 2) (g := g_4) (off := 0) (v := .agg (cdA c.clean)) (L' := [pt g_12 ⟨[.int .i64 x0, .int .i64 x1, .int .i64 x2, .int .i64 x3, .int .i64 x4, .int .i64 x5, .int .i64 x6, .int .i64 x7, .int .i64 x8, .int .i64 x9, .int .i64 x10, .int .i64 x11] ++ pad_14⟩ 3, pt g_1 (cdA c.clean) 33, pt g_4 (cdA c.clean) 33]) hs_17 rfl rfl rfl (by kernel_rfl) (by kernel_rfl) rfl (by kernel_rfl) (by kernel_rfl) rfl (by kernel_rfl) rfl (fun w_32 hs_33 => ?_)
                  refine SL.v (.bool false) ?_
                  refine SL.nil ?_
                  refine CW.ret ?_
                  repeat with_reducible first | refine PThen.ret ?_ | refine PBlock.ret ?_
                  refine PRet.cellTmp (t := 4) (u := 5) (ty := 33) (g := g_4) (v := .agg (cdA c.clean)) (v' := .bool false) rfl rfl rfl (by kernel_rfl) (hs_33.pt_at (i := 2) rfl) (by kernel_rfl) (by kernel_rfl) ?_
                  have hq : okL c.clean.pb c.clean.pr x0 x1 x2 x3 x4 x5 x6 x7 x8 x9 x10 x11 = false := by unfold okL; simp; omega
                  exact ⟨by rw [hq]; rfl, hs_33.gr⟩
                · try rw [hb_31]
                  have hqhb_31 := of_decide_eq_false hb_31
                  refine SL.go ?_
                  refine SL.v (.slice (some ⟨g_12, 0, none⟩) 12 c_13) ?_
                  refine SL.go ?_
                  refine SL.v (.pointer (some ⟨g_12, 5, none⟩)) ?_
                  refine SL.go ?_
                  refine SL.load (g := g_12) (off := 5) (v := .int .i64 x5) rfl rfl rfl (by kernel_rfl) (hs_17.pt_at (i := 0) rfl) (by kernel_rfl) ?_
                  refine SL.go ?_
                  refine SL.v (.bool (decide (2 < x5))) ?_
                  refine SL.v (.bool (decide (2 < x5))) ?_
                  refine SL.nil ?_
                  rcases Bool.eq_false_or_eq_true (decide (2 < x5)) with hb_34 | hb_34
                  · try rw [hb_34]
                    have hqhb_34 := of_decide_eq_true hb_34
                    refine CW.cond_true (by kernel_rfl) ?_
                    refine CW.seq ?_
                    refine CW.region ?_
                    refine SL.load (g := g_1) (off := 0) (v := .agg (cdA c.clean)) rfl rfl rfl (by kernel_rfl) (hs_17.pt_at (i := 1) rfl) (by kernel_rfl) ?_
                    refine SL.storeH (i := 2) (g := g_4) (off := 0) (v := .agg (cdA c.clean)) (L' := [pt g_12 ⟨[.int .i64 x0, .int .i64 x1, .int .i64 x2, .int .i64 x3, .int .i64 x4, .int .i64 x5, .int .i64 x6, .int .i64 x7, .int .i64 x8, .int .i64 x9, .int .i64 x10, .int .i64 x11] ++ pad_14⟩ 3, pt g_1 (cdA c.clean) 33, pt g_4 (cdA c.clean) 33]) hs_17 rfl rfl rfl (by kernel_rfl) (by kernel_rfl) rfl (by kernel_rfl) (by kernel_rfl) rfl (by kernel_rfl) rfl (fun w_35 hs_36 => ?_)
                    refine SL.v (.bool false) ?_
                    refine SL.nil ?_
                    refine CW.ret ?_
                    repeat with_reducible first | refine PThen.ret ?_ | refine PBlock.ret ?_
                    refine PRet.cellTmp (t := 4) (u := 5) (ty := 33) (g := g_4) (v := .agg (cdA c.clean)) (v' := .bool false) rfl rfl rfl (by kernel_rfl) (hs_36.pt_at (i := 2) rfl) (by kernel_rfl) (by kernel_rfl) ?_
                    have hq : okL c.clean.pb c.clean.pr x0 x1 x2 x3 x4 x5 x6 x7 x8 x9 x10 x11 = false := by unfold okL; simp; omega
                    exact ⟨by rw [hq]; rfl, hs_36.gr⟩
                  · try rw [hb_34]
                    have hqhb_34 := of_decide_eq_false hb_34
                    refine CW.cond_false (by kernel_rfl) ?_
                    refine CW.skip ?_
                    refine CW.seq ?_
                    refine CW.region ?_
                    refine SL.v (.pointer (some ⟨g_1, 13, none⟩)) ?_
                    refine SL.v (.pointer (some ⟨g_1, 13, none⟩)) ?_
                    refine SL.load (g := g_1) (off := 13) (v := .agg #[.int .i64 c.clean.pt, .int .i64 c.clean.pl, .int .i64 c.clean.pb, .int .i64 c.clean.pr]) rfl rfl rfl (by kernel_rfl) (hs_17.pt_at (i := 1) rfl) (by kernel_rfl) ?_
                    refine SL.newH (mk := fun g => .pointer (some ⟨g, 0, none⟩)) (C := #[.int .i64 0, .int .i64 0, .int .i64 0, .int .i64 0]) (T := 29) hs_17 rfl rfl (by kernel_rfl) (fun g_37 w_38 hs_39 => ?_)
                    have hs_39 : SH [] w w_38 [pt g_12 ⟨[.int .i64 x0, .int .i64 x1, .int .i64 x2, .int .i64 x3, .int .i64 x4, .int .i64 x5, .int .i64 x6, .int .i64 x7, .int .i64 x8, .int .i64 x9, .int .i64 x10, .int .i64 x11] ++ pad_14⟩ 3, pt g_1 (cdA c.clean) 33, pt g_4 czD 33, pt g_37 #[.int .i64 0, .int .i64 0, .int .i64 0, .int .i64 0] 29] := hs_39
                    refine SL.storeH (i := 3) (g := g_37) (off := 0) (v := .agg #[.int .i64 c.clean.pt, .int .i64 c.clean.pl, .int .i64 c.clean.pb, .int .i64 c.clean.pr]) (L' := [pt g_12 ⟨[.int .i64 x0, .int .i64 x1, .int .i64 x2, .int .i64 x3, .int .i64 x4, .int .i64 x5, .int .i64 x6, .int .i64 x7, .int .i64 x8, .int .i64 x9, .int .i64 x10, .int .i64 x11] ++ pad_14⟩ 3, pt g_1 (cdA c.clean) 33, pt g_4 czD 33, pt g_37 #[.int .i64 c.clean.pt, .int .i64 c.clean.pl, .int .i64 c.clean.pb, .int .i64 c.clean.pr] 29]) hs_39 rfl rfl rfl (by kernel_rfl) (by kernel_rfl) rfl (by kernel_rfl) (by kernel_rfl) rfl (by kernel_rfl) rfl (fun w_40 hs_41 => ?_)
                    refine SL.nil ?_
                    refine CW.seq ?_
                    refine CW.seq ?_
                    rcases Bool.eq_false_or_eq_true (decide (x9 ≤ x7)) with hb_42 | hb_42
                    · try rw [hb_42]
                      have hqhb_42 := of_decide_eq_true hb_42
                      have HGR : GrL [fun v _ => v = .slice (some ⟨g_12, 0, none⟩) 12 c_13, fun v _ => v = .pointer (some ⟨g_12, 7, none⟩), fun v _ => v = .int .i64 x7, fun v _ => v = .slice (some ⟨g_12, 0, none⟩) 12 c_13, fun v _ => v = .pointer (some ⟨g_12, 9, none⟩), fun v _ => v = .int .i64 x9, fun v _ => v = .bool true, fun v _ => v = .bool true, fun _ _ => True, fun _ _ => True, fun _ _ => True, fun _ _ => True, fun _ _ => True, fun _ _ => True, fun _ _ => True, fun v _ => v = .bool true, fun v _ => v = .bool true, fun _ _ => True, fun _ _ => True, fun _ _ => True, fun _ _ => True, fun _ _ => True, fun _ _ => True, fun v _ => v = .bool true, fun v _ => v = .bool true, fun _ _ => True, fun _ _ => True, fun _ _ => True, fun _ _ => True, fun _ _ => True] := ⟨fun _ _ _ _ h => h, ⟨fun _ _ _ _ h => h, ⟨fun _ _ _ _ h => h, ⟨fun _ _ _ _ h => h, ⟨fun _ _ _ _ h => h, ⟨fun _ _ _ _ h => h, ⟨fun _ _ _ _ h => h, ⟨fun _ _ _ _ h => h, ⟨fun _ _ _ _ h => h, ⟨fun _ _ _ _ h => h, ⟨fun _ _ _ _ h => h, ⟨fun _ _ _ _ h => h, ⟨fun _ _ _ _ h => h, ⟨fun _ _ _ _ h => h, ⟨fun _ _ _ _ h => h, ⟨fun _ _ _ _ h => h, ⟨fun _ _ _ _ h => h, ⟨fun _ _ _ _ h => h, ⟨fun _ _ _ _ h => h, ⟨fun _ _ _ _ h => h, ⟨fun _ _ _ _ h => h, ⟨fun _ _ _ _ h => h, ⟨fun _ _ _ _ h => h, ⟨fun _ _ _ _ h => h, ⟨fun _ _ _ _ h => h, ⟨fun _ _ _ _ h => h, ⟨fun _ _ _ _ h => h, ⟨fun _ _ _ _ h => h, ⟨fun _ _ _ _ h => h, ⟨fun _ _ _ _ h => h, trivial⟩⟩⟩⟩⟩⟩⟩⟩⟩⟩⟩⟩⟩⟩⟩⟩⟩⟩⟩⟩⟩⟩⟩⟩⟩⟩⟩⟩⟩⟩
                      refine CW.draw 30 (FW [fun v _ => v = .slice (some ⟨g_12, 0, none⟩) 12 c_13, fun v _ => v = .pointer (some ⟨g_12, 7, none⟩), fun v _ => v = .int .i64 x7, fun v _ => v = .slice (some ⟨g_12, 0, none⟩) 12 c_13, fun v _ => v = .pointer (some ⟨g_12, 9, none⟩), fun v _ => v = .int .i64 x9, fun v _ => v = .bool true, fun v _ => v = .bool true, fun _ _ => True, fun _ _ => True, fun _ _ => True, fun _ _ => True, fun _ _ => True, fun _ _ => True, fun _ _ => True, fun v _ => v = .bool true, fun v _ => v = .bool true, fun _ _ => True, fun _ _ => True, fun _ _ => True, fun _ _ => True, fun _ _ => True, fun _ _ => True, fun v _ => v = .bool true, fun v _ => v = .bool true, fun _ _ => True, fun _ _ => True, fun _ _ => True, fun _ _ => True, fun _ _ => True]) (fun W => Gr w_40 W) (by kernel_rfl) (by kernel_rfl) (by kernel_rfl) (by kernel_rfl) (by kernel_rfl) (Gr.refl _).drew ?_ ?_
                      · refine ⟨?_, ⟨?_, ⟨?_, ⟨?_, ⟨?_, ⟨?_, ⟨?_, ⟨?_, ⟨?_, ⟨?_, ⟨?_, ⟨?_, ⟨?_, ⟨?_, ⟨?_, ⟨?_, ⟨?_, ⟨?_, ⟨?_, ⟨?_, ⟨?_, ⟨?_, ⟨?_, ⟨?_, ⟨?_, ⟨?_, ⟨?_, ⟨?_, ⟨?_, ⟨?_, trivial⟩⟩⟩⟩⟩⟩⟩⟩⟩⟩⟩⟩⟩⟩⟩⟩⟩⟩⟩⟩⟩⟩⟩⟩⟩⟩⟩⟩⟩⟩
                        · intro L ys W hB hF hP K hK
                          show OpE _ _ _ W K
                          exact OpE.val (.slice (some ⟨g_12, 0, none⟩) 12 c_13) W (by kernel_rfl) (hK _ W hB rfl (fun _ _ h => h))
                        · intro L ys W hB hF hP K hK
                          show OpE _ _ _ W K
                          exact OpE.known (j := 0) (v := .slice (some ⟨g_12, 0, none⟩) 12 c_13) (hF 0 (hP.1 rfl)) (OpE.val (.pointer (some ⟨g_12, 7, none⟩)) W (by kernel_rfl) (hK _ W hB rfl (fun _ _ h => h)))
                        · intro L ys W hB hF hP K hK
                          show OpE _ _ _ W K
                          exact OpE.known (j := 1) (v := .pointer (some ⟨g_12, 7, none⟩)) (hF 1 (hP.1 rfl)) (OpE.load (g := g_12) (off := 7) (v := .int .i64 x7) rfl (by kernel_rfl) ((hs_41.grow hB).pt_at (i := 0) rfl) (by kernel_rfl) (hK _ W hB rfl (fun _ _ h => h)))
                        · intro L ys W hB hF hP K hK
                          show OpE _ _ _ W K
                          exact OpE.val (.slice (some ⟨g_12, 0, none⟩) 12 c_13) W (by kernel_rfl) (hK _ W hB rfl (fun _ _ h => h))
                        · intro L ys W hB hF hP K hK
                          show OpE _ _ _ W K
                          exact OpE.known (j := 3) (v := .slice (some ⟨g_12, 0, none⟩) 12 c_13) (hF 3 (hP.1 rfl)) (OpE.val (.pointer (some ⟨g_12, 9, none⟩)) W (by kernel_rfl) (hK _ W hB rfl (fun _ _ h => h)))
                        · intro L ys W hB hF hP K hK
                          show OpE _ _ _ W K
                          exact OpE.known (j := 4) (v := .pointer (some ⟨g_12, 9, none⟩)) (hF 4 (hP.1 rfl)) (OpE.load (g := g_12) (off := 9) (v := .int .i64 x9) rfl (by kernel_rfl) ((hs_41.grow hB).pt_at (i := 0) rfl) (by kernel_rfl) (hK _ W hB rfl (fun _ _ h => h)))
                        · intro L ys W hB hF hP K hK
                          show OpE _ _ _ W K
                          exact OpE.known (j := 2) (v := .int .i64 x7) (hF 2 (hP.1 rfl)) (OpE.known (j := 5) (v := .int .i64 x9) (hF 5 (hP.2.1 rfl)) (OpE.val (.bool true) W (run_eqv (by kernel_rfl) (congrArg Value.bool hb_42)) (hK _ W hB rfl (fun _ _ h => h))))
                        · intro L ys W hB hF hP K hK
                          show OpE _ _ _ W K
                          exact OpE.known (j := 6) (v := .bool true) (hF 6 (hP.1 rfl)) (OpE.val (.bool true) W (by kernel_rfl) (hK _ W hB rfl (fun _ _ h => h)))
                        · intro L ys W hB hF hP K hK
                          refine ⟨90, true, rfl, (show fillE _ 0 ys _ 90 = _ from (hF 7 (hP.1 rfl))), .inr ⟨rfl, ?_⟩⟩
                          exact hK _ W hB trivial (fun _ _ h => h)
                        · intro L ys W hB hF hP K hK
                          refine ⟨90, true, rfl, (show fillE _ 0 ys _ 90 = _ from (hF 7 (hP.2.1 rfl))), .inr ⟨rfl, ?_⟩⟩
                          exact hK _ W hB trivial (fun _ _ h => h)
                        · intro L ys W hB hF hP K hK
                          refine ⟨90, true, rfl, (show fillE _ 0 ys _ 90 = _ from (hF 7 (hP.2.1 rfl))), .inr ⟨rfl, ?_⟩⟩
                          exact hK _ W hB trivial (fun _ _ h => h)
                        · intro L ys W hB hF hP K hK
                          refine ⟨90, true, rfl, (show fillE _ 0 ys _ 90 = _ from (hF 7 (hP.1 rfl))), .inr ⟨rfl, ?_⟩⟩
                          exact hK _ W hB trivial (fun _ _ h => h)
                        · intro L ys W hB hF hP K hK
                          refine ⟨90, true, rfl, (show fillE _ 0 ys _ 90 = _ from (hF 7 (hP.2.1 rfl))), .inr ⟨rfl, ?_⟩⟩
                          exact hK _ W hB trivial (fun _ _ h => h)
                        · intro L ys W hB hF hP K hK
                          refine ⟨90, true, rfl, (show fillE _ 0 ys _ 90 = _ from (hF 7 (hP.2.1 rfl))), .inr ⟨rfl, ?_⟩⟩
                          exact hK _ W hB trivial (fun _ _ h => h)
                        · intro L ys W hB hF hP K hK
                          refine ⟨90, true, rfl, (show fillE _ 0 ys _ 90 = _ from (hF 7 (hP.2.2.1 rfl))), .inr ⟨rfl, ?_⟩⟩
                          exact hK _ W hB trivial (fun _ _ h => h)
                        · intro L ys W hB hF hP K hK
                          show OpE _ _ _ W K
                          exact OpE.known (j := 7) (v := .bool true) (hF 7 (hP.1 rfl)) (OpE.val (.bool true) W (by kernel_rfl) (hK _ W hB rfl (fun _ _ h => h)))
                        · intro L ys W hB hF hP K hK
                          show OpE _ _ _ W K
                          exact OpE.known (j := 15) (v := .bool true) (hF 15 (hP.1 rfl)) (OpE.val (.bool true) W (by kernel_rfl) (hK _ W hB rfl (fun _ _ h => h)))
                        · intro L ys W hB hF hP K hK
                          refine ⟨99, true, rfl, (show fillE _ 0 ys _ 99 = _ from (hF 16 (hP.1 rfl))), .inr ⟨rfl, ?_⟩⟩
                          exact hK _ W hB trivial (fun _ _ h => h)
                        · intro L ys W hB hF hP K hK
                          refine ⟨99, true, rfl, (show fillE _ 0 ys _ 99 = _ from (hF 16 (hP.2.1 rfl))), .inr ⟨rfl, ?_⟩⟩
                          exact hK _ W hB trivial (fun _ _ h => h)
                        · intro L ys W hB hF hP K hK
                          refine ⟨99, true, rfl, (show fillE _ 0 ys _ 99 = _ from (hF 16 (hP.2.1 rfl))), .inr ⟨rfl, ?_⟩⟩
                          exact hK _ W hB trivial (fun _ _ h => h)
                        · intro L ys W hB hF hP K hK
                          refine ⟨99, true, rfl, (show fillE _ 0 ys _ 99 = _ from (hF 16 (hP.1 rfl))), .inr ⟨rfl, ?_⟩⟩
                          exact hK _ W hB trivial (fun _ _ h => h)
                        · intro L ys W hB hF hP K hK
                          refine ⟨99, true, rfl, (show fillE _ 0 ys _ 99 = _ from (hF 16 (hP.2.1 rfl))), .inr ⟨rfl, ?_⟩⟩
                          exact hK _ W hB trivial (fun _ _ h => h)
                        · intro L ys W hB hF hP K hK
                          refine ⟨99, true, rfl, (show fillE _ 0 ys _ 99 = _ from (hF 16 (hP.2.2.1 rfl))), .inr ⟨rfl, ?_⟩⟩
                          exact hK _ W hB trivial (fun _ _ h => h)
                        · intro L ys W hB hF hP K hK
                          show OpE _ _ _ W K
                          exact OpE.known (j := 16) (v := .bool true) (hF 16 (hP.1 rfl)) (OpE.val (.bool true) W (by kernel_rfl) (hK _ W hB rfl (fun _ _ h => h)))
                        · intro L ys W hB hF hP K hK
                          show OpE _ _ _ W K
                          exact OpE.known (j := 23) (v := .bool true) (hF 23 (hP.1 rfl)) (OpE.val (.bool true) W (by kernel_rfl) (hK _ W hB rfl (fun _ _ h => h)))
                        · intro L ys W hB hF hP K hK
                          refine ⟨107, true, rfl, (show fillE _ 0 ys _ 107 = _ from (hF 24 (hP.1 rfl))), .inr ⟨rfl, ?_⟩⟩
                          exact hK _ W hB trivial (fun _ _ h => h)
                        · intro L ys W hB hF hP K hK
                          refine ⟨107, true, rfl, (show fillE _ 0 ys _ 107 = _ from (hF 24 (hP.2.1 rfl))), .inr ⟨rfl, ?_⟩⟩
                          exact hK _ W hB trivial (fun _ _ h => h)
                        · intro L ys W hB hF hP K hK
                          refine ⟨107, true, rfl, (show fillE _ 0 ys _ 107 = _ from (hF 24 (hP.2.1 rfl))), .inr ⟨rfl, ?_⟩⟩
                          exact hK _ W hB trivial (fun _ _ h => h)
                        · intro L ys W hB hF hP K hK
                          refine ⟨107, true, rfl, (show fillE _ 0 ys _ 107 = _ from (hF 24 (hP.1 rfl))), .inr ⟨rfl, ?_⟩⟩
                          exact hK _ W hB trivial (fun _ _ h => h)
                        · intro L ys W hB hF hP K hK
                          refine ⟨107, true, rfl, (show fillE _ 0 ys _ 107 = _ from (hF 24 (hP.2.1 rfl))), .inr ⟨rfl, ?_⟩⟩
                          exact hK _ W hB trivial (fun _ _ h => h)
                      · intro ys_46 w_43 hs_44 hF_45
                        have hg_47 := hs_44
                        have hs_44 : SH [] w w_43 [pt g_12 ⟨[.int .i64 x0, .int .i64 x1, .int .i64 x2, .int .i64 x3, .int .i64 x4, .int .i64 x5, .int .i64 x6, .int .i64 x7, .int .i64 x8, .int .i64 x9, .int .i64 x10, .int .i64 x11] ++ pad_14⟩ 3, pt g_1 (cdA c.clean) 33, pt g_4 czD 33, pt g_37 #[.int .i64 c.clean.pt, .int .i64 c.clean.pl, .int .i64 c.clean.pb, .int .i64 c.clean.pr] 29] := hs_41.grow hg_47
                        refine SL.knownY (j := 24) (v := .bool true) (show ys_46 24 = .bool true from hF_45 24 (by decide)) (?_)
                        clear hF_45 HGR
                        refine SL.no true ?_
                        refine SL.v (.bool true) ?_
                        refine SL.nil ?_
                        refine CW.cond_true (by kernel_rfl) ?_
                        refine CW.seq ?_
                        refine CW.region ?_
                        refine SL.load (g := g_1) (off := 0) (v := .agg (cdA c.clean)) rfl rfl rfl (by kernel_rfl) (hs_44.pt_at (i := 1) rfl) (by kernel_rfl) ?_
                        refine SL.storeH (i := 2) (g := g_4) (off := 0) (v := .agg (cdA c.clean)) (L' := [pt g_12 ⟨[.int .i64 x0, .int .i64 x1, .int .i64 x2, .int .i64 x3, .int .i64 x4, .int .i64 x5, .int .i64 x6, .int .i64 x7, .int .i64 x8, .int .i64 x9, .int .i64 x10, .int .i64 x11] ++ pad_14⟩ 3, pt g_1 (cdA c.clean) 33, pt g_4 (cdA c.clean) 33, pt g_37 #[.int .i64 c.clean.pt, .int .i64 c.clean.pl, .int .i64 c.clean.pb, .int .i64 c.clean.pr] 29]) hs_44 rfl rfl rfl (by kernel_rfl) (by kernel_rfl) rfl (by kernel_rfl) (by kernel_rfl) rfl (by kernel_rfl) rfl (fun w_48 hs_49 => ?_)
                        refine SL.v (.bool false) ?_
                        refine SL.nil ?_
                        refine CW.ret ?_
                        repeat with_reducible first | refine PThen.ret ?_ | refine PBlock.ret ?_
                        refine PRet.cellTmp (t := 4) (u := 5) (ty := 33) (g := g_4) (v := .agg (cdA c.clean)) (v' := .bool false) rfl rfl rfl (by kernel_rfl) (hs_49.pt_at (i := 2) rfl) (by kernel_rfl) (by kernel_rfl) ?_
                        have hq : okL c.clean.pb c.clean.pr x0 x1 x2 x3 x4 x5 x6 x7 x8 x9 x10 x11 = false := by unfold okL; simp; omega
                        exact ⟨by rw [hq]; rfl, hs_49.gr⟩
                    · try rw [hb_42]
                      have hqhb_42 := of_decide_eq_false hb_42
                      rcases Bool.eq_false_or_eq_true (decide (x10 ≤ x8)) with hb_50 | hb_50
                      · try rw [hb_50]
                        have hqhb_50 := of_decide_eq_true hb_50
                        have HGR : GrL [fun v _ => v = .slice (some ⟨g_12, 0, none⟩) 12 c_13, fun v _ => v = .pointer (some ⟨g_12, 7, none⟩), fun v _ => v = .int .i64 x7, fun v _ => v = .slice (some ⟨g_12, 0, none⟩) 12 c_13, fun v _ => v = .pointer (some ⟨g_12, 9, none⟩), fun v _ => v = .int .i64 x9, fun v _ => v = .bool false, fun v _ => v = .bool false, fun v _ => v = .slice (some ⟨g_12, 0, none⟩) 12 c_13, fun v _ => v = .pointer (some ⟨g_12, 8, none⟩), fun v _ => v = .int .i64 x8, fun v _ => v = .slice (some ⟨g_12, 0, none⟩) 12 c_13, fun v _ => v = .pointer (some ⟨g_12, 10, none⟩), fun v _ => v = .int .i64 x10, fun v _ => v = .bool true, fun v _ => v = .bool true, fun v _ => v = .bool true, fun _ _ => True, fun _ _ => True, fun _ _ => True, fun _ _ => True, fun _ _ => True, fun _ _ => True, fun v _ => v = .bool true, fun v _ => v = .bool true, fun _ _ => True, fun _ _ => True, fun _ _ => True, fun _ _ => True, fun _ _ => True] := ⟨fun _ _ _ _ h => h, ⟨fun _ _ _ _ h => h, ⟨fun _ _ _ _ h => h, ⟨fun _ _ _ _ h => h, ⟨fun _ _ _ _ h => h, ⟨fun _ _ _ _ h => h, ⟨fun _ _ _ _ h => h, ⟨fun _ _ _ _ h => h, ⟨fun _ _ _ _ h => h, ⟨fun _ _ _ _ h => h, ⟨fun _ _ _ _ h => h, ⟨fun _ _ _ _ h => h, ⟨fun _ _ _ _ h => h, ⟨fun _ _ _ _ h => h, ⟨fun _ _ _ _ h => h, ⟨fun _ _ _ _ h => h, ⟨fun _ _ _ _ h => h, ⟨fun _ _ _ _ h => h, ⟨fun _ _ _ _ h => h, ⟨fun _ _ _ _ h => h, ⟨fun _ _ _ _ h => h, ⟨fun _ _ _ _ h => h, ⟨fun _ _ _ _ h => h, ⟨fun _ _ _ _ h => h, ⟨fun _ _ _ _ h => h, ⟨fun _ _ _ _ h => h, ⟨fun _ _ _ _ h => h, ⟨fun _ _ _ _ h => h, ⟨fun _ _ _ _ h => h, ⟨fun _ _ _ _ h => h, trivial⟩⟩⟩⟩⟩⟩⟩⟩⟩⟩⟩⟩⟩⟩⟩⟩⟩⟩⟩⟩⟩⟩⟩⟩⟩⟩⟩⟩⟩⟩
                        refine CW.draw 30 (FW [fun v _ => v = .slice (some ⟨g_12, 0, none⟩) 12 c_13, fun v _ => v = .pointer (some ⟨g_12, 7, none⟩), fun v _ => v = .int .i64 x7, fun v _ => v = .slice (some ⟨g_12, 0, none⟩) 12 c_13, fun v _ => v = .pointer (some ⟨g_12, 9, none⟩), fun v _ => v = .int .i64 x9, fun v _ => v = .bool false, fun v _ => v = .bool false, fun v _ => v = .slice (some ⟨g_12, 0, none⟩) 12 c_13, fun v _ => v = .pointer (some ⟨g_12, 8, none⟩), fun v _ => v = .int .i64 x8, fun v _ => v = .slice (some ⟨g_12, 0, none⟩) 12 c_13, fun v _ => v = .pointer (some ⟨g_12, 10, none⟩), fun v _ => v = .int .i64 x10, fun v _ => v = .bool true, fun v _ => v = .bool true, fun v _ => v = .bool true, fun _ _ => True, fun _ _ => True, fun _ _ => True, fun _ _ => True, fun _ _ => True, fun _ _ => True, fun v _ => v = .bool true, fun v _ => v = .bool true, fun _ _ => True, fun _ _ => True, fun _ _ => True, fun _ _ => True, fun _ _ => True]) (fun W => Gr w_40 W) (by kernel_rfl) (by kernel_rfl) (by kernel_rfl) (by kernel_rfl) (by kernel_rfl) (Gr.refl _).drew ?_ ?_
                        · refine ⟨?_, ⟨?_, ⟨?_, ⟨?_, ⟨?_, ⟨?_, ⟨?_, ⟨?_, ⟨?_, ⟨?_, ⟨?_, ⟨?_, ⟨?_, ⟨?_, ⟨?_, ⟨?_, ⟨?_, ⟨?_, ⟨?_, ⟨?_, ⟨?_, ⟨?_, ⟨?_, ⟨?_, ⟨?_, ⟨?_, ⟨?_, ⟨?_, ⟨?_, ⟨?_, trivial⟩⟩⟩⟩⟩⟩⟩⟩⟩⟩⟩⟩⟩⟩⟩⟩⟩⟩⟩⟩⟩⟩⟩⟩⟩⟩⟩⟩⟩⟩
                          · intro L ys W hB hF hP K hK
                            show OpE _ _ _ W K
                            exact OpE.val (.slice (some ⟨g_12, 0, none⟩) 12 c_13) W (by kernel_rfl) (hK _ W hB rfl (fun _ _ h => h))
                          · intro L ys W hB hF hP K hK
                            show OpE _ _ _ W K
                            exact OpE.known (j := 0) (v := .slice (some ⟨g_12, 0, none⟩) 12 c_13) (hF 0 (hP.1 rfl)) (OpE.val (.pointer (some ⟨g_12, 7, none⟩)) W (by kernel_rfl) (hK _ W hB rfl (fun _ _ h => h)))
                          · intro L ys W hB hF hP K hK
                            show OpE _ _ _ W K
                            exact OpE.known (j := 1) (v := .pointer (some ⟨g_12, 7, none⟩)) (hF 1 (hP.1 rfl)) (OpE.load (g := g_12) (off := 7) (v := .int .i64 x7) rfl (by kernel_rfl) ((hs_41.grow hB).pt_at (i := 0) rfl) (by kernel_rfl) (hK _ W hB rfl (fun _ _ h => h)))
                          · intro L ys W hB hF hP K hK
                            show OpE _ _ _ W K
                            exact OpE.val (.slice (some ⟨g_12, 0, none⟩) 12 c_13) W (by kernel_rfl) (hK _ W hB rfl (fun _ _ h => h))
                          · intro L ys W hB hF hP K hK
                            show OpE _ _ _ W K
                            exact OpE.known (j := 3) (v := .slice (some ⟨g_12, 0, none⟩) 12 c_13) (hF 3 (hP.1 rfl)) (OpE.val (.pointer (some ⟨g_12, 9, none⟩)) W (by kernel_rfl) (hK _ W hB rfl (fun _ _ h => h)))
                          · intro L ys W hB hF hP K hK
                            show OpE _ _ _ W K
                            exact OpE.known (j := 4) (v := .pointer (some ⟨g_12, 9, none⟩)) (hF 4 (hP.1 rfl)) (OpE.load (g := g_12) (off := 9) (v := .int .i64 x9) rfl (by kernel_rfl) ((hs_41.grow hB).pt_at (i := 0) rfl) (by kernel_rfl) (hK _ W hB rfl (fun _ _ h => h)))
                          · intro L ys W hB hF hP K hK
                            show OpE _ _ _ W K
                            exact OpE.known (j := 2) (v := .int .i64 x7) (hF 2 (hP.1 rfl)) (OpE.known (j := 5) (v := .int .i64 x9) (hF 5 (hP.2.1 rfl)) (OpE.val (.bool false) W (run_eqv (by kernel_rfl) (congrArg Value.bool hb_42)) (hK _ W hB rfl (fun _ _ h => h))))
                          · intro L ys W hB hF hP K hK
                            show OpE _ _ _ W K
                            exact OpE.known (j := 6) (v := .bool false) (hF 6 (hP.1 rfl)) (OpE.val (.bool false) W (by kernel_rfl) (hK _ W hB rfl (fun _ _ h => h)))
                          · intro L ys W hB hF hP K hK
                            refine ⟨90, false, rfl, (show fillE _ 0 ys _ 90 = _ from (hF 7 (hP.1 rfl))), .inl ⟨rfl, ?_⟩⟩
                            exact OpE.val (.slice (some ⟨g_12, 0, none⟩) 12 c_13) W (by kernel_rfl) (hK _ W hB rfl (fun _ _ h => h))
                          · intro L ys W hB hF hP K hK
                            refine ⟨90, false, rfl, (show fillE _ 0 ys _ 90 = _ from (hF 7 (hP.2.1 rfl))), .inl ⟨rfl, ?_⟩⟩
                            exact OpE.known (j := 8) (v := .slice (some ⟨g_12, 0, none⟩) 12 c_13) (hF 8 (hP.1 rfl)) (OpE.val (.pointer (some ⟨g_12, 8, none⟩)) W (by kernel_rfl) (hK _ W hB rfl (fun _ _ h => h)))
                          · intro L ys W hB hF hP K hK
                            refine ⟨90, false, rfl, (show fillE _ 0 ys _ 90 = _ from (hF 7 (hP.2.1 rfl))), .inl ⟨rfl, ?_⟩⟩
                            exact OpE.known (j := 9) (v := .pointer (some ⟨g_12, 8, none⟩)) (hF 9 (hP.1 rfl)) (OpE.load (g := g_12) (off := 8) (v := .int .i64 x8) rfl (by kernel_rfl) ((hs_41.grow hB).pt_at (i := 0) rfl) (by kernel_rfl) (hK _ W hB rfl (fun _ _ h => h)))
                          · intro L ys W hB hF hP K hK
                            refine ⟨90, false, rfl, (show fillE _ 0 ys _ 90 = _ from (hF 7 (hP.1 rfl))), .inl ⟨rfl, ?_⟩⟩
                            exact OpE.val (.slice (some ⟨g_12, 0, none⟩) 12 c_13) W (by kernel_rfl) (hK _ W hB rfl (fun _ _ h => h))
                          · intro L ys W hB hF hP K hK
                            refine ⟨90, false, rfl, (show fillE _ 0 ys _ 90 = _ from (hF 7 (hP.2.1 rfl))), .inl ⟨rfl, ?_⟩⟩
                            exact OpE.known (j := 11) (v := .slice (some ⟨g_12, 0, none⟩) 12 c_13) (hF 11 (hP.1 rfl)) (OpE.val (.pointer (some ⟨g_12, 10, none⟩)) W (by kernel_rfl) (hK _ W hB rfl (fun _ _ h => h)))
                          · intro L ys W hB hF hP K hK
                            refine ⟨90, false, rfl, (show fillE _ 0 ys _ 90 = _ from (hF 7 (hP.2.1 rfl))), .inl ⟨rfl, ?_⟩⟩
                            exact OpE.known (j := 12) (v := .pointer (some ⟨g_12, 10, none⟩)) (hF 12 (hP.1 rfl)) (OpE.load (g := g_12) (off := 10) (v := .int .i64 x10) rfl (by kernel_rfl) ((hs_41.grow hB).pt_at (i := 0) rfl) (by kernel_rfl) (hK _ W hB rfl (fun _ _ h => h)))
                          · intro L ys W hB hF hP K hK
                            refine ⟨90, false, rfl, (show fillE _ 0 ys _ 90 = _ from (hF 7 (hP.2.2.1 rfl))), .inl ⟨rfl, ?_⟩⟩
                            exact OpE.known (j := 10) (v := .int .i64 x8) (hF 10 (hP.1 rfl)) (OpE.known (j := 13) (v := .int .i64 x10) (hF 13 (hP.2.1 rfl)) (OpE.val (.bool true) W (run_eqv (by kernel_rfl) (congrArg Value.bool hb_50)) (hK _ W hB rfl (fun _ _ h => h))))
                          · intro L ys W hB hF hP K hK
                            show OpE _ _ _ W K
                            exact OpE.known (j := 7) (v := .bool false) (hF 7 (hP.1 rfl)) (OpE.known (j := 14) (v := .bool true) (hF 14 (hP.2.1 rfl)) (OpE.val (.bool true) W (by kernel_rfl) (hK _ W hB rfl (fun _ _ h => h))))
                          · intro L ys W hB hF hP K hK
                            show OpE _ _ _ W K
                            exact OpE.known (j := 15) (v := .bool true) (hF 15 (hP.1 rfl)) (OpE.val (.bool true) W (by kernel_rfl) (hK _ W hB rfl (fun _ _ h => h)))
                          · intro L ys W hB hF hP K hK
                            refine ⟨99, true, rfl, (show fillE _ 0 ys _ 99 = _ from (hF 16 (hP.1 rfl))), .inr ⟨rfl, ?_⟩⟩
                            exact hK _ W hB trivial (fun _ _ h => h)
                          · intro L ys W hB hF hP K hK
                            refine ⟨99, true, rfl, (show fillE _ 0 ys _ 99 = _ from (hF 16 (hP.2.1 rfl))), .inr ⟨rfl, ?_⟩⟩
                            exact hK _ W hB trivial (fun _ _ h => h)
                          · intro L ys W hB hF hP K hK
                            refine ⟨99, true, rfl, (show fillE _ 0 ys _ 99 = _ from (hF 16 (hP.2.1 rfl))), .inr ⟨rfl, ?_⟩⟩
                            exact hK _ W hB trivial (fun _ _ h => h)
                          · intro L ys W hB hF hP K hK
                            refine ⟨99, true, rfl, (show fillE _ 0 ys _ 99 = _ from (hF 16 (hP.1 rfl))), .inr ⟨rfl, ?_⟩⟩
                            exact hK _ W hB trivial (fun _ _ h => h)
                          · intro L ys W hB hF hP K hK
                            refine ⟨99, true, rfl, (show fillE _ 0 ys _ 99 = _ from (hF 16 (hP.2.1 rfl))), .inr ⟨rfl, ?_⟩⟩
                            exact hK _ W hB trivial (fun _ _ h => h)
                          · intro L ys W hB hF hP K hK
                            refine ⟨99, true, rfl, (show fillE _ 0 ys _ 99 = _ from (hF 16 (hP.2.2.1 rfl))), .inr ⟨rfl, ?_⟩⟩
                            exact hK _ W hB trivial (fun _ _ h => h)
                          · intro L ys W hB hF hP K hK
                            show OpE _ _ _ W K
                            exact OpE.known (j := 16) (v := .bool true) (hF 16 (hP.1 rfl)) (OpE.val (.bool true) W (by kernel_rfl) (hK _ W hB rfl (fun _ _ h => h)))
                          · intro L ys W hB hF hP K hK
                            show OpE _ _ _ W K
                            exact OpE.known (j := 23) (v := .bool true) (hF 23 (hP.1 rfl)) (OpE.val (.bool true) W (by kernel_rfl) (hK _ W hB rfl (fun _ _ h => h)))
                          · intro L ys W hB hF hP K hK
                            refine ⟨107, true, rfl, (show fillE _ 0 ys _ 107 = _ from (hF 24 (hP.1 rfl))), .inr ⟨rfl, ?_⟩⟩
                            exact hK _ W hB trivial (fun _ _ h => h)
                          · intro L ys W hB hF hP K hK
                            refine ⟨107, true, rfl, (show fillE _ 0 ys _ 107 = _ from (hF 24 (hP.2.1 rfl))), .inr ⟨rfl, ?_⟩⟩
                            exact hK _ W hB trivial (fun _ _ h => h)
                          · intro L ys W hB hF hP K hK
                            refine ⟨107, true, rfl, (show fillE _ 0 ys _ 107 = _ from (hF 24 (hP.2.1 rfl))), .inr ⟨rfl, ?_⟩⟩
                            exact hK _ W hB trivial (fun _ _ h => h)
                          · intro L ys W hB hF hP K hK
                            refine ⟨107, true, rfl, (show fillE _ 0 ys _ 107 = _ from (hF 24 (hP.1 rfl))), .inr ⟨rfl, ?_⟩⟩
                            exact hK _ W hB trivial (fun _ _ h => h)
                          · intro L ys W hB hF hP K hK
                            refine ⟨107, true, rfl, (show fillE _ 0 ys _ 107 = _ from (hF 24 (hP.2.1 rfl))), .inr ⟨rfl, ?_⟩⟩
                            exact hK _ W hB trivial (fun _ _ h => h)
                        · intro ys_54 w_51 hs_52 hF_53
                          have hg_55 := hs_52
                          have hs_52 : SH [] w w_51 [pt g_12 ⟨[.int .i64 x0, .int .i64 x1, .int .i64 x2, .int .i64 x3, .int .i64 x4, .int .i64 x5, .int .i64 x6, .int .i64 x7, .int .i64 x8, .int .i64 x9, .int .i64 x10, .int .i64 x11] ++ pad_14⟩ 3, pt g_1 (cdA c.clean) 33, pt g_4 czD 33, pt g_37 #[.int .i64 c.clean.pt, .int .i64 c.clean.pl, .int .i64 c.clean.pb, .int .i64 c.clean.pr] 29] := hs_41.grow hg_55
                          refine SL.knownY (j := 24) (v := .bool true) (show ys_54 24 = .bool true from hF_53 24 (by decide)) (?_)
                          clear hF_53 HGR
                          refine SL.no true ?_
                          refine SL.v (.bool true) ?_
                          refine SL.nil ?_
                          refine CW.cond_true (by kernel_rfl) ?_
                          refine CW.seq ?_
                          refine CW.region ?_
                          refine SL.load (g := g_1) (off := 0) (v := .agg (cdA c.clean)) rfl rfl rfl (by kernel_rfl) (hs_52.pt_at (i := 1) rfl) (by kernel_rfl) ?_
                          refine SL.storeH (i := 2) (g := g_4) (off := 0) (v := .agg (cdA c.clean)) (L' := [pt g_12 ⟨[.int .i64 x0, .int .i64 x1, .int .i64 x2, .int .i64 x3, .int .i64 x4, .int .i64 x5, .int .i64 x6, .int .i64 x7, .int .i64 x8, .int .i64 x9, .int .i64 x10, .int .i64 x11] ++ pad_14⟩ 3, pt g_1 (cdA c.clean) 33, pt g_4 (cdA c.clean) 33, pt g_37 #[.int .i64 c.clean.pt, .int .i64 c.clean.pl, .int .i64 c.clean.pb, .int .i64 c.clean.pr] 29]) hs_52 rfl rfl rfl (by kernel_rfl) (by kernel_rfl) rfl (by kernel_rfl) (by kernel_rfl) rfl (by kernel_rfl) rfl (fun w_56 hs_57 => ?_)
                          refine SL.v (.bool false) ?_
                          refine SL.nil ?_
                          refine CW.ret ?_
                          repeat with_reducible first | refine PThen.ret ?_ | refine PBlock.ret ?_
                          refine PRet.cellTmp (t := 4) (u := 5) (ty := 33) (g := g_4) (v := .agg (cdA c.clean)) (v' := .bool false) rfl rfl rfl (by kernel_rfl) (hs_57.pt_at (i := 2) rfl) (by kernel_rfl) (by kernel_rfl) ?_
                          have hq : okL c.clean.pb c.clean.pr x0 x1 x2 x3 x4 x5 x6 x7 x8 x9 x10 x11 = false := by unfold okL; simp; omega
                          exact ⟨by rw [hq]; rfl, hs_57.gr⟩
                      · try rw [hb_50]
                        have hqhb_50 := of_decide_eq_false hb_50
                        rcases Bool.eq_false_or_eq_true (decide (c.clean.pb < x9)) with hb_58 | hb_58
                        · try rw [hb_58]
                          have hqhb_58 := of_decide_eq_true hb_58
                          have HGR : GrL [fun v _ => v = .slice (some ⟨g_12, 0, none⟩) 12 c_13, fun v _ => v = .pointer (some ⟨g_12, 7, none⟩), fun v _ => v = .int .i64 x7, fun v _ => v = .slice (some ⟨g_12, 0, none⟩) 12 c_13, fun v _ => v = .pointer (some ⟨g_12, 9, none⟩), fun v _ => v = .int .i64 x9, fun v _ => v = .bool false, fun v _ => v = .bool false, fun v _ => v = .slice (some ⟨g_12, 0, none⟩) 12 c_13, fun v _ => v = .pointer (some ⟨g_12, 8, none⟩), fun v _ => v = .int .i64 x8, fun v _ => v = .slice (some ⟨g_12, 0, none⟩) 12 c_13, fun v _ => v = .pointer (some ⟨g_12, 10, none⟩), fun v _ => v = .int .i64 x10, fun v _ => v = .bool false, fun v _ => v = .bool false, fun v _ => v = .bool false, fun v _ => v = .slice (some ⟨g_12, 0, none⟩) 12 c_13, fun v _ => v = .pointer (some ⟨g_12, 9, none⟩), fun v _ => v = .int .i64 x9, fun v _ => v = .pointer (some ⟨g_37, 2, none⟩), fun v _ => v = .int .i64 c.clean.pb, fun v _ => v = .bool true, fun v _ => v = .bool true, fun v _ => v = .bool true, fun _ _ => True, fun _ _ => True, fun _ _ => True, fun _ _ => True, fun _ _ => True] := ⟨fun _ _ _ _ h => h, ⟨fun _ _ _ _ h => h, ⟨fun _ _ _ _ h => h, ⟨fun _ _ _ _ h => h, ⟨fun _ _ _ _ h => h, ⟨fun _ _ _ _ h => h, ⟨fun _ _ _ _ h => h, ⟨fun _ _ _ _ h => h, ⟨fun _ _ _ _ h => h, ⟨fun _ _ _ _ h => h, ⟨fun _ _ _ _ h => h, ⟨fun _ _ _ _ h => h, ⟨fun _ _ _ _ h => h, ⟨fun _ _ _ _ h => h, ⟨fun _ _ _ _ h => h, ⟨fun _ _ _ _ h => h, ⟨fun _ _ _ _ h => h, ⟨fun _ _ _ _ h => h, ⟨fun _ _ _ _ h => h, ⟨fun _ _ _ _ h => h, ⟨fun _ _ _ _ h => h, ⟨fun _ _ _ _ h => h, ⟨fun _ _ _ _ h => h, ⟨fun _ _ _ _ h => h, ⟨fun _ _ _ _ h => h, ⟨fun _ _ _ _ h => h, ⟨fun _ _ _ _ h => h, ⟨fun _ _ _ _ h => h, ⟨fun _ _ _ _ h => h, ⟨fun _ _ _ _ h => h, trivial⟩⟩⟩⟩⟩⟩⟩⟩⟩⟩⟩⟩⟩⟩⟩⟩⟩⟩⟩⟩⟩⟩⟩⟩⟩⟩⟩⟩⟩⟩
                          refine CW.draw 30 (FW [fun v _ => v = .slice (some ⟨g_12, 0, none⟩) 12 c_13, fun v _ => v = .pointer (some ⟨g_12, 7, none⟩), fun v _ => v = .int .i64 x7, fun v _ => v = .slice (some ⟨g_12, 0, none⟩) 12 c_13, fun v _ => v = .pointer (some ⟨g_12, 9, none⟩), fun v _ => v = .int .i64 x9, fun v _ => v = .bool false, fun v _ => v = .bool false, fun v _ => v = .slice (some ⟨g_12, 0, none⟩) 12 c_13, fun v _ => v = .pointer (some ⟨g_12, 8, none⟩), fun v _ => v = .int .i64 x8, fun v _ => v = .slice (some ⟨g_12, 0, none⟩) 12 c_13, fun v _ => v = .pointer (some ⟨g_12, 10, none⟩), fun v _ => v = .int .i64 x10, fun v _ => v = .bool false, fun v _ => v = .bool false, fun v _ => v = .bool false, fun v _ => v = .slice (some ⟨g_12, 0, none⟩) 12 c_13, fun v _ => v = .pointer (some ⟨g_12, 9, none⟩), fun v _ => v = .int .i64 x9, fun v _ => v = .pointer (some ⟨g_37, 2, none⟩), fun v _ => v = .int .i64 c.clean.pb, fun v _ => v = .bool true, fun v _ => v = .bool true, fun v _ => v = .bool true, fun _ _ => True, fun _ _ => True, fun _ _ => True, fun _ _ => True, fun _ _ => True]) (fun W => Gr w_40 W) (by kernel_rfl) (by kernel_rfl) (by kernel_rfl) (by kernel_rfl) (by kernel_rfl) (Gr.refl _).drew ?_ ?_
                          · refine ⟨?_, ⟨?_, ⟨?_, ⟨?_, ⟨?_, ⟨?_, ⟨?_, ⟨?_, ⟨?_, ⟨?_, ⟨?_, ⟨?_, ⟨?_, ⟨?_, ⟨?_, ⟨?_, ⟨?_, ⟨?_, ⟨?_, ⟨?_, ⟨?_, ⟨?_, ⟨?_, ⟨?_, ⟨?_, ⟨?_, ⟨?_, ⟨?_, ⟨?_, ⟨?_, trivial⟩⟩⟩⟩⟩⟩⟩⟩⟩⟩⟩⟩⟩⟩⟩⟩⟩⟩⟩⟩⟩⟩⟩⟩⟩⟩⟩⟩⟩⟩
                            · intro L ys W hB hF hP K hK
                              show OpE _ _ _ W K
                              exact OpE.val (.slice (some ⟨g_12, 0, none⟩) 12 c_13) W (by kernel_rfl) (hK _ W hB rfl (fun _ _ h => h))
                            · intro L ys W hB hF hP K hK
                              show OpE _ _ _ W K
                              exact OpE.known (j := 0) (v := .slice (some ⟨g_12, 0, none⟩) 12 c_13) (hF 0 (hP.1 rfl)) (OpE.val (.pointer (some ⟨g_12, 7, none⟩)) W (by kernel_rfl) (hK _ W hB rfl (fun _ _ h => h)))
                            · intro L ys W hB hF hP K hK
                              show OpE _ _ _ W K
                              exact OpE.known (j := 1) (v := .pointer (some ⟨g_12, 7, none⟩)) (hF 1 (hP.1 rfl)) (OpE.load (g := g_12) (off := 7) (v := .int .i64 x7) rfl (by kernel_rfl) ((hs_41.grow hB).pt_at (i := 0) rfl) (by kernel_rfl) (hK _ W hB rfl (fun _ _ h => h)))
                            · intro L ys W hB hF hP K hK
                              show OpE _ _ _ W K
                              exact OpE.val (.slice (some ⟨g_12, 0, none⟩) 12 c_13) W (by kernel_rfl) (hK _ W hB rfl (fun _ _ h => h))
                            · intro L ys W hB hF hP K hK
                              show OpE _ _ _ W K
                              exact OpE.known (j := 3) (v := .slice (some ⟨g_12, 0, none⟩) 12 c_13) (hF 3 (hP.1 rfl)) (OpE.val (.pointer (some ⟨g_12, 9, none⟩)) W (by kernel_rfl) (hK _ W hB rfl (fun _ _ h => h)))
                            · intro L ys W hB hF hP K hK
                              show OpE _ _ _ W K
                              exact OpE.known (j := 4) (v := .pointer (some ⟨g_12, 9, none⟩)) (hF 4 (hP.1 rfl)) (OpE.load (g := g_12) (off := 9) (v := .int .i64 x9) rfl (by kernel_rfl) ((hs_41.grow hB).pt_at (i := 0) rfl) (by kernel_rfl) (hK _ W hB rfl (fun _ _ h => h)))
                            · intro L ys W hB hF hP K hK
                              show OpE _ _ _ W K
                              exact OpE.known (j := 2) (v := .int .i64 x7) (hF 2 (hP.1 rfl)) (OpE.known (j := 5) (v := .int .i64 x9) (hF 5 (hP.2.1 rfl)) (OpE.val (.bool false) W (run_eqv (by kernel_rfl) (congrArg Value.bool hb_42)) (hK _ W hB rfl (fun _ _ h => h))))
                            · intro L ys W hB hF hP K hK
                              show OpE _ _ _ W K
                              exact OpE.known (j := 6) (v := .bool false) (hF 6 (hP.1 rfl)) (OpE.val (.bool false) W (by kernel_rfl) (hK _ W hB rfl (fun _ _ h => h)))
                            · intro L ys W hB hF hP K hK
                              refine ⟨90, false, rfl, (show fillE _ 0 ys _ 90 = _ from (hF 7 (hP.1 rfl))), .inl ⟨rfl, ?_⟩⟩
                              exact OpE.val (.slice (some ⟨g_12, 0, none⟩) 12 c_13) W (by kernel_rfl) (hK _ W hB rfl (fun _ _ h => h))
                            · intro L ys W hB hF hP K hK
                              refine ⟨90, false, rfl, (show fillE _ 0 ys _ 90 = _ from (hF 7 (hP.2.1 rfl))), .inl ⟨rfl, ?_⟩⟩
                              exact OpE.known (j := 8) (v := .slice (some ⟨g_12, 0, none⟩) 12 c_13) (hF 8 (hP.1 rfl)) (OpE.val (.pointer (some ⟨g_12, 8, none⟩)) W (by kernel_rfl) (hK _ W hB rfl (fun _ _ h => h)))
                            · intro L ys W hB hF hP K hK
                              refine ⟨90, false, rfl, (show fillE _ 0 ys _ 90 = _ from (hF 7 (hP.2.1 rfl))), .inl ⟨rfl, ?_⟩⟩
                              exact OpE.known (j := 9) (v := .pointer (some ⟨g_12, 8, none⟩)) (hF 9 (hP.1 rfl)) (OpE.load (g := g_12) (off := 8) (v := .int .i64 x8) rfl (by kernel_rfl) ((hs_41.grow hB).pt_at (i := 0) rfl) (by kernel_rfl) (hK _ W hB rfl (fun _ _ h => h)))
                            · intro L ys W hB hF hP K hK
                              refine ⟨90, false, rfl, (show fillE _ 0 ys _ 90 = _ from (hF 7 (hP.1 rfl))), .inl ⟨rfl, ?_⟩⟩
                              exact OpE.val (.slice (some ⟨g_12, 0, none⟩) 12 c_13) W (by kernel_rfl) (hK _ W hB rfl (fun _ _ h => h))
                            · intro L ys W hB hF hP K hK
                              refine ⟨90, false, rfl, (show fillE _ 0 ys _ 90 = _ from (hF 7 (hP.2.1 rfl))), .inl ⟨rfl, ?_⟩⟩
                              exact OpE.known (j := 11) (v := .slice (some ⟨g_12, 0, none⟩) 12 c_13) (hF 11 (hP.1 rfl)) (OpE.val (.pointer (some ⟨g_12, 10, none⟩)) W (by kernel_rfl) (hK _ W hB rfl (fun _ _ h => h)))
                            · intro L ys W hB hF hP K hK
                              refine ⟨90, false, rfl, (show fillE _ 0 ys _ 90 = _ from (hF 7 (hP.2.1 rfl))), .inl ⟨rfl, ?_⟩⟩
                              exact OpE.known (j := 12) (v := .pointer (some ⟨g_12, 10, none⟩)) (hF 12 (hP.1 rfl)) (OpE.load (g := g_12) (off := 10) (v := .int .i64 x10) rfl (by kernel_rfl) ((hs_41.grow hB).pt_at (i := 0) rfl) (by kernel_rfl) (hK _ W hB rfl (fun _ _ h => h)))
                            · intro L ys W hB hF hP K hK
                              refine ⟨90, false, rfl, (show fillE _ 0 ys _ 90 = _ from (hF 7 (hP.2.2.1 rfl))), .inl ⟨rfl, ?_⟩⟩
                              exact OpE.known (j := 10) (v := .int .i64 x8) (hF 10 (hP.1 rfl)) (OpE.known (j := 13) (v := .int .i64 x10) (hF 13 (hP.2.1 rfl)) (OpE.val (.bool false) W (run_eqv (by kernel_rfl) (congrArg Value.bool hb_50)) (hK _ W hB rfl (fun _ _ h => h))))
                            · intro L ys W hB hF hP K hK
                              show OpE _ _ _ W K
                              exact OpE.known (j := 7) (v := .bool false) (hF 7 (hP.1 rfl)) (OpE.known (j := 14) (v := .bool false) (hF 14 (hP.2.1 rfl)) (OpE.val (.bool false) W (by kernel_rfl) (hK _ W hB rfl (fun _ _ h => h))))
                            · intro L ys W hB hF hP K hK
                              show OpE _ _ _ W K
                              exact OpE.known (j := 15) (v := .bool false) (hF 15 (hP.1 rfl)) (OpE.val (.bool false) W (by kernel_rfl) (hK _ W hB rfl (fun _ _ h => h)))
                            · intro L ys W hB hF hP K hK
                              refine ⟨99, false, rfl, (show fillE _ 0 ys _ 99 = _ from (hF 16 (hP.1 rfl))), .inl ⟨rfl, ?_⟩⟩
                              exact OpE.val (.slice (some ⟨g_12, 0, none⟩) 12 c_13) W (by kernel_rfl) (hK _ W hB rfl (fun _ _ h => h))
                            · intro L ys W hB hF hP K hK
                              refine ⟨99, false, rfl, (show fillE _ 0 ys _ 99 = _ from (hF 16 (hP.2.1 rfl))), .inl ⟨rfl, ?_⟩⟩
                              exact OpE.known (j := 17) (v := .slice (some ⟨g_12, 0, none⟩) 12 c_13) (hF 17 (hP.1 rfl)) (OpE.val (.pointer (some ⟨g_12, 9, none⟩)) W (by kernel_rfl) (hK _ W hB rfl (fun _ _ h => h)))
                            · intro L ys W hB hF hP K hK
                              refine ⟨99, false, rfl, (show fillE _ 0 ys _ 99 = _ from (hF 16 (hP.2.1 rfl))), .inl ⟨rfl, ?_⟩⟩
                              exact OpE.known (j := 18) (v := .pointer (some ⟨g_12, 9, none⟩)) (hF 18 (hP.1 rfl)) (OpE.load (g := g_12) (off := 9) (v := .int .i64 x9) rfl (by kernel_rfl) ((hs_41.grow hB).pt_at (i := 0) rfl) (by kernel_rfl) (hK _ W hB rfl (fun _ _ h => h)))
                            · intro L ys W hB hF hP K hK
                              refine ⟨99, false, rfl, (show fillE _ 0 ys _ 99 = _ from (hF 16 (hP.1 rfl))), .inl ⟨rfl, ?_⟩⟩
                              exact OpE.val (.pointer (some ⟨g_37, 2, none⟩)) W (by kernel_rfl) (hK _ W hB rfl (fun _ _ h => h))
                            · intro L ys W hB hF hP K hK
                              refine ⟨99, false, rfl, (show fillE _ 0 ys _ 99 = _ from (hF 16 (hP.2.1 rfl))), .inl ⟨rfl, ?_⟩⟩
                              exact OpE.known (j := 20) (v := .pointer (some ⟨g_37, 2, none⟩)) (hF 20 (hP.1 rfl)) (OpE.load (g := g_37) (off := 2) (v := .int .i64 c.clean.pb) rfl (by kernel_rfl) ((hs_41.grow hB).pt_at (i := 3) rfl) (by kernel_rfl) (hK _ W hB rfl (fun _ _ h => h)))
                            · intro L ys W hB hF hP K hK
                              refine ⟨99, false, rfl, (show fillE _ 0 ys _ 99 = _ from (hF 16 (hP.2.2.1 rfl))), .inl ⟨rfl, ?_⟩⟩
                              exact OpE.known (j := 19) (v := .int .i64 x9) (hF 19 (hP.1 rfl)) (OpE.known (j := 21) (v := .int .i64 c.clean.pb) (hF 21 (hP.2.1 rfl)) (OpE.val (.bool true) W (run_eqv (by kernel_rfl) (congrArg Value.bool hb_58)) (hK _ W hB rfl (fun _ _ h => h))))
                            · intro L ys W hB hF hP K hK
                              show OpE _ _ _ W K
                              exact OpE.known (j := 16) (v := .bool false) (hF 16 (hP.1 rfl)) (OpE.known (j := 22) (v := .bool true) (hF 22 (hP.2.1 rfl)) (OpE.val (.bool true) W (by kernel_rfl) (hK _ W hB rfl (fun _ _ h => h))))
                            · intro L ys W hB hF hP K hK
                              show OpE _ _ _ W K
                              exact OpE.known (j := 23) (v := .bool true) (hF 23 (hP.1 rfl)) (OpE.val (.bool true) W (by kernel_rfl) (hK _ W hB rfl (fun _ _ h => h)))
                            · intro L ys W hB hF hP K hK
                              refine ⟨107, true, rfl, (show fillE _ 0 ys _ 107 = _ from (hF 24 (hP.1 rfl))), .inr ⟨rfl, ?_⟩⟩
                              exact hK _ W hB trivial (fun _ _ h => h)
                            · intro L ys W hB hF hP K hK
                              refine ⟨107, true, rfl, (show fillE _ 0 ys _ 107 = _ from (hF 24 (hP.2.1 rfl))), .inr ⟨rfl, ?_⟩⟩
                              exact hK _ W hB trivial (fun _ _ h => h)
                            · intro L ys W hB hF hP K hK
                              refine ⟨107, true, rfl, (show fillE _ 0 ys _ 107 = _ from (hF 24 (hP.2.1 rfl))), .inr ⟨rfl, ?_⟩⟩
                              exact hK _ W hB trivial (fun _ _ h => h)
                            · intro L ys W hB hF hP K hK
                              refine ⟨107, true, rfl, (show fillE _ 0 ys _ 107 = _ from (hF 24 (hP.1 rfl))), .inr ⟨rfl, ?_⟩⟩
                              exact hK _ W hB trivial (fun _ _ h => h)
                            · intro L ys W hB hF hP K hK
                              refine ⟨107, true, rfl, (show fillE _ 0 ys _ 107 = _ from (hF 24 (hP.2.1 rfl))), .inr ⟨rfl, ?_⟩⟩
                              exact hK _ W hB trivial (fun _ _ h => h)
                          · intro ys_62 w_59 hs_60 hF_61
                            have hg_63 := hs_60
                            have hs_60 : SH [] w w_59 [pt g_12 ⟨[.int .i64 x0, .int .i64 x1, .int .i64 x2, .int .i64 x3, .int .i64 x4, .int .i64 x5, .int .i64 x6, .int .i64 x7, .int .i64 x8, .int .i64 x9, .int .i64 x10, .int .i64 x11] ++ pad_14⟩ 3, pt g_1 (cdA c.clean) 33, pt g_4 czD 33, pt g_37 #[.int .i64 c.clean.pt, .int .i64 c.clean.pl, .int .i64 c.clean.pb, .int .i64 c.clean.pr] 29] := hs_41.grow hg_63
                            refine SL.knownY (j := 24) (v := .bool true) (show ys_62 24 = .bool true from hF_61 24 (by decide)) (?_)
                            clear hF_61 HGR
                            refine SL.no true ?_
                            refine SL.v (.bool true) ?_
                            refine SL.nil ?_
                            refine CW.cond_true (by kernel_rfl) ?_
                            refine CW.seq ?_
                            refine CW.region ?_
                            refine SL.load (g := g_1) (off := 0) (v := .agg (cdA c.clean)) rfl rfl rfl (by kernel_rfl) (hs_60.pt_at (i := 1) rfl) (by kernel_rfl) ?_
                            refine SL.storeH (i := 2) (g := g_4) (off := 0) (v := .agg (cdA c.clean)) (L' := [pt g_12 ⟨[.int .i64 x0, .int .i64 x1, .int .i64 x2, .int .i64 x3, .int .i64 x4, .int .i64 x5, .int .i64 x6, .int .i64 x7, .int .i64 x8, .int .i64 x9, .int .i64 x10, .int .i64 x11] ++ pad_14⟩ 3, pt g_1 (cdA c.clean) 33, pt g_4 (cdA c.clean) 33, pt g_37 #[.int .i64 c.clean.pt, .int .i64 c.clean.pl, .int .i64 c.clean.pb, .int .i64 c.clean.pr] 29]) hs_60 rfl rfl rfl (by kernel_rfl) (by kernel_rfl) rfl (by kernel_rfl) (by kernel_rfl) rfl (by kernel_rfl) rfl (fun w_64 hs_65 => ?_)
                            refine SL.v (.bool false) ?_
                            refine SL.nil ?_
                            refine CW.ret ?_
                            repeat with_reducible first | refine PThen.ret ?_ | refine PBlock.ret ?_
                            refine PRet.cellTmp (t := 4) (u := 5) (ty := 33) (g := g_4) (v := .agg (cdA c.clean)) (v' := .bool false) rfl rfl rfl (by kernel_rfl) (hs_65.pt_at (i := 2) rfl) (by kernel_rfl) (by kernel_rfl) ?_
                            have hq : okL c.clean.pb c.clean.pr x0 x1 x2 x3 x4 x5 x6 x7 x8 x9 x10 x11 = false := by unfold okL; simp; omega
                            exact ⟨by rw [hq]; rfl, hs_65.gr⟩
                        · try rw [hb_58]
                          have hqhb_58 := of_decide_eq_false hb_58
                          have HGR : GrL [fun v _ => v = .slice (some ⟨g_12, 0, none⟩) 12 c_13, fun v _ => v = .pointer (some ⟨g_12, 7, none⟩), fun v _ => v = .int .i64 x7, fun v _ => v = .slice (some ⟨g_12, 0, none⟩) 12 c_13, fun v _ => v = .pointer (some ⟨g_12, 9, none⟩), fun v _ => v = .int .i64 x9, fun v _ => v = .bool false, fun v _ => v = .bool false, fun v _ => v = .slice (some ⟨g_12, 0, none⟩) 12 c_13, fun v _ => v = .pointer (some ⟨g_12, 8, none⟩), fun v _ => v = .int .i64 x8, fun v _ => v = .slice (some ⟨g_12, 0, none⟩) 12 c_13, fun v _ => v = .pointer (some ⟨g_12, 10, none⟩), fun v _ => v = .int .i64 x10, fun v _ => v = .bool false, fun v _ => v = .bool false, fun v _ => v = .bool false, fun v _ => v = .slice (some ⟨g_12, 0, none⟩) 12 c_13, fun v _ => v = .pointer (some ⟨g_12, 9, none⟩), fun v _ => v = .int .i64 x9, fun v _ => v = .pointer (some ⟨g_37, 2, none⟩), fun v _ => v = .int .i64 c.clean.pb, fun v _ => v = .bool false, fun v _ => v = .bool false, fun v _ => v = .bool false, fun v _ => v = .slice (some ⟨g_12, 0, none⟩) 12 c_13, fun v _ => v = .pointer (some ⟨g_12, 10, none⟩), fun v _ => v = .int .i64 x10, fun v _ => v = .pointer (some ⟨g_37, 3, none⟩), fun v _ => v = .int .i64 c.clean.pr] := ⟨fun _ _ _ _ h => h, ⟨fun _ _ _ _ h => h, ⟨fun _ _ _ _ h => h, ⟨fun _ _ _ _ h => h, ⟨fun _ _ _ _ h => h, ⟨fun _ _ _ _ h => h, ⟨fun _ _ _ _ h => h, ⟨fun _ _ _ _ h => h, ⟨fun _ _ _ _ h => h, ⟨fun _ _ _ _ h => h, ⟨fun _ _ _ _ h => h, ⟨fun _ _ _ _ h => h, ⟨fun _ _ _ _ h => h, ⟨fun _ _ _ _ h => h, ⟨fun _ _ _ _ h => h, ⟨fun _ _ _ _ h => h, ⟨fun _ _ _ _ h => h, ⟨fun _ _ _ _ h => h, ⟨fun _ _ _ _ h => h, ⟨fun _ _ _ _ h => h, ⟨fun _ _ _ _ h => h, ⟨fun _ _ _ _ h => h, ⟨fun _ _ _ _ h => h, ⟨fun _ _ _ _ h => h, ⟨fun _ _ _ _ h => h, ⟨fun _ _ _ _ h => h, ⟨fun _ _ _ _ h => h, ⟨fun _ _ _ _ h => h, ⟨fun _ _ _ _ h => h, ⟨fun _ _ _ _ h => h, trivial⟩⟩⟩⟩⟩⟩⟩⟩⟩⟩⟩⟩⟩⟩⟩⟩⟩⟩⟩⟩⟩⟩⟩⟩⟩⟩⟩⟩⟩⟩
                          refine CW.draw 30 (FW [fun v _ => v = .slice (some ⟨g_12, 0, none⟩) 12 c_13, fun v _ => v = .pointer (some ⟨g_12, 7, none⟩), fun v _ => v = .int .i64 x7, fun v _ => v = .slice (some ⟨g_12, 0, none⟩) 12 c_13, fun v _ => v = .pointer (some ⟨g_12, 9, none⟩), fun v _ => v = .int .i64 x9, fun v _ => v = .bool false, fun v _ => v = .bool false, fun v _ => v = .slice (some ⟨g_12, 0, none⟩) 12 c_13, fun v _ => v = .pointer (some ⟨g_12, 8, none⟩), fun v _ => v = .int .i64 x8, fun v _ => v = .slice (some ⟨g_12, 0, none⟩) 12 c_13, fun v _ => v = .pointer (some ⟨g_12, 10, none⟩), fun v _ => v = .int .i64 x10, fun v _ => v = .bool false, fun v _ => v = .bool false, fun v _ => v = .bool false, fun v _ => v = .slice (some ⟨g_12, 0, none⟩) 12 c_13, fun v _ => v = .pointer (some ⟨g_12, 9, none⟩), fun v _ => v = .int .i64 x9, fun v _ => v = .pointer (some ⟨g_37, 2, none⟩), fun v _ => v = .int .i64 c.clean.pb, fun v _ => v = .bool false, fun v _ => v = .bool false, fun v _ => v = .bool false, fun v _ => v = .slice (some ⟨g_12, 0, none⟩) 12 c_13, fun v _ => v = .pointer (some ⟨g_12, 10, none⟩), fun v _ => v = .int .i64 x10, fun v _ => v = .pointer (some ⟨g_37, 3, none⟩), fun v _ => v = .int .i64 c.clean.pr]) (fun W => Gr w_40 W) (by kernel_rfl) (by kernel_rfl) (by kernel_rfl) (by kernel_rfl) (by kernel_rfl) (Gr.refl _).drew ?_ ?_
                          · refine ⟨?_, ⟨?_, ⟨?_, ⟨?_, ⟨?_, ⟨?_, ⟨?_, ⟨?_, ⟨?_, ⟨?_, ⟨?_, ⟨?_, ⟨?_, ⟨?_, ⟨?_, ⟨?_, ⟨?_, ⟨?_, ⟨?_, ⟨?_, ⟨?_, ⟨?_, ⟨?_, ⟨?_, ⟨?_, ⟨?_, ⟨?_, ⟨?_, ⟨?_, ⟨?_, trivial⟩⟩⟩⟩⟩⟩⟩⟩⟩⟩⟩⟩⟩⟩⟩⟩⟩⟩⟩⟩⟩⟩⟩⟩⟩⟩⟩⟩⟩⟩
                            · intro L ys W hB hF hP K hK
                              show OpE _ _ _ W K
                              exact OpE.val (.slice (some ⟨g_12, 0, none⟩) 12 c_13) W (by kernel_rfl) (hK _ W hB rfl (fun _ _ h => h))
                            · intro L ys W hB hF hP K hK
                              show OpE _ _ _ W K
                              exact OpE.known (j := 0) (v := .slice (some ⟨g_12, 0, none⟩) 12 c_13) (hF 0 (hP.1 rfl)) (OpE.val (.pointer (some ⟨g_12, 7, none⟩)) W (by kernel_rfl) (hK _ W hB rfl (fun _ _ h => h)))
                            · intro L ys W hB hF hP K hK
                              show OpE _ _ _ W K
                              exact OpE.known (j := 1) (v := .pointer (some ⟨g_12, 7, none⟩)) (hF 1 (hP.1 rfl)) (OpE.load (g := g_12) (off := 7) (v := .int .i64 x7) rfl (by kernel_rfl) ((hs_41.grow hB).pt_at (i := 0) rfl) (by kernel_rfl) (hK _ W hB rfl (fun _ _ h => h)))
                            · intro L ys W hB hF hP K hK
                              show OpE _ _ _ W K
                              exact OpE.val (.slice (some ⟨g_12, 0, none⟩) 12 c_13) W (by kernel_rfl) (hK _ W hB rfl (fun _ _ h => h))
                            · intro L ys W hB hF hP K hK
                              show OpE _ _ _ W K
                              exact OpE.known (j := 3) (v := .slice (some ⟨g_12, 0, none⟩) 12 c_13) (hF 3 (hP.1 rfl)) (OpE.val (.pointer (some ⟨g_12, 9, none⟩)) W (by kernel_rfl) (hK _ W hB rfl (fun _ _ h => h)))
                            · intro L ys W hB hF hP K hK
                              show OpE _ _ _ W K
                              exact OpE.known (j := 4) (v := .pointer (some ⟨g_12, 9, none⟩)) (hF 4 (hP.1 rfl)) (OpE.load (g := g_12) (off := 9) (v := .int .i64 x9) rfl (by kernel_rfl) ((hs_41.grow hB).pt_at (i := 0) rfl) (by kernel_rfl) (hK _ W hB rfl (fun _ _ h => h)))
                            · intro L ys W hB hF hP K hK
                              show OpE _ _ _ W K
                              exact OpE.known (j := 2) (v := .int .i64 x7) (hF 2 (hP.1 rfl)) (OpE.known (j := 5) (v := .int .i64 x9) (hF 5 (hP.2.1 rfl)) (OpE.val (.bool false) W (run_eqv (by kernel_rfl) (congrArg Value.bool hb_42)) (hK _ W hB rfl (fun _ _ h => h))))
                            · intro L ys W hB hF hP K hK
                              show OpE _ _ _ W K
                              exact OpE.known (j := 6) (v := .bool false) (hF 6 (hP.1 rfl)) (OpE.val (.bool false) W (by kernel_rfl) (hK _ W hB rfl (fun _ _ h => h)))
                            · intro L ys W hB hF hP K hK
                              refine ⟨90, false, rfl, (show fillE _ 0 ys _ 90 = _ from (hF 7 (hP.1 rfl))), .inl ⟨rfl, ?_⟩⟩
                              exact OpE.val (.slice (some ⟨g_12, 0, none⟩) 12 c_13) W (by kernel_rfl) (hK _ W hB rfl (fun _ _ h => h))
                            · intro L ys W hB hF hP K hK
                              refine ⟨90, false, rfl, (show fillE _ 0 ys _ 90 = _ from (hF 7 (hP.2.1 rfl))), .inl ⟨rfl, ?_⟩⟩
                              exact OpE.known (j := 8) (v := .slice (some ⟨g_12, 0, none⟩) 12 c_13) (hF 8 (hP.1 rfl)) (OpE.val (.pointer (some ⟨g_12, 8, none⟩)) W (by kernel_rfl) (hK _ W hB rfl (fun _ _ h => h)))
                            · intro L ys W hB hF hP K hK
                              refine ⟨90, false, rfl, (show fillE _ 0 ys _ 90 = _ from (hF 7 (hP.2.1 rfl))), .inl ⟨rfl, ?_⟩⟩
                              exact OpE.known (j := 9) (v := .pointer (some ⟨g_12, 8, none⟩)) (hF 9 (hP.1 rfl)) (OpE.load (g := g_12) (off := 8) (v := .int .i64 x8) rfl (by kernel_rfl) ((hs_41.grow hB).pt_at (i := 0) rfl) (by kernel_rfl) (hK _ W hB rfl (fun _ _ h => h)))
                            · intro L ys W hB hF hP K hK
                              refine ⟨90, false, rfl, (show fillE _ 0 ys _ 90 = _ from (hF 7 (hP.1 rfl))), .inl ⟨rfl, ?_⟩⟩
                              exact OpE.val (.slice (some ⟨g_12, 0, none⟩) 12 c_13) W (by kernel_rfl) (hK _ W hB rfl (fun _ _ h => h))
                            · intro L ys W hB hF hP K hK
                              refine ⟨90, false, rfl, (show fillE _ 0 ys _ 90 = _ from (hF 7 (hP.2.1 rfl))), .inl ⟨rfl, ?_⟩⟩
                              exact OpE.known (j := 11) (v := .slice (some ⟨g_12, 0, none⟩) 12 c_13) (hF 11 (hP.1 rfl)) (OpE.val (.pointer (some ⟨g_12, 10, none⟩)) W (by kernel_rfl) (hK _ W hB rfl (fun _ _ h => h)))
                            · intro L ys W hB hF hP K hK
                              refine ⟨90, false, rfl, (show fillE _ 0 ys _ 90 = _ from (hF 7 (hP.2.1 rfl))), .inl ⟨rfl, ?_⟩⟩
                              exact OpE.known (j := 12) (v := .pointer (some ⟨g_12, 10, none⟩)) (hF 12 (hP.1 rfl)) (OpE.load (g := g_12) (off := 10) (v := .int .i64 x10) rfl (by kernel_rfl) ((hs_41.grow hB).pt_at (i := 0) rfl) (by kernel_rfl) (hK _ W hB rfl (fun _ _ h => h)))
                            · intro L ys W hB hF hP K hK
                              refine ⟨90, false, rfl, (show fillE _ 0 ys _ 90 = _ from (hF 7 (hP.2.2.1 rfl))), .inl ⟨rfl, ?_⟩⟩
                              exact OpE.known (j := 10) (v := .int .i64 x8) (hF 10 (hP.1 rfl)) (OpE.known (j := 13) (v := .int .i64 x10) (hF 13 (hP.2.1 rfl)) (OpE.val (.bool false) W (run_eqv (by kernel_rfl) (congrArg Value.bool hb_50)) (hK _ W hB rfl (fun _ _ h => h))))
                            · intro L ys W hB hF hP K hK
                              show OpE _ _ _ W K
                              exact OpE.known (j := 7) (v := .bool false) (hF 7 (hP.1 rfl)) (OpE.known (j := 14) (v := .bool false) (hF 14 (hP.2.1 rfl)) (OpE.val (.bool false) W (by kernel_rfl) (hK _ W hB rfl (fun _ _ h => h))))
                            · intro L ys W hB hF hP K hK
                              show OpE _ _ _ W K
                              exact OpE.known (j := 15) (v := .bool false) (hF 15 (hP.1 rfl)) (OpE.val (.bool false) W (by kernel_rfl) (hK _ W hB rfl (fun _ _ h => h)))
                            · intro L ys W hB hF hP K hK
                              refine ⟨99, false, rfl, (show fillE _ 0 ys _ 99 = _ from (hF 16 (hP.1 rfl))), .inl ⟨rfl, ?_⟩⟩
                              exact OpE.val (.slice (some ⟨g_12, 0, none⟩) 12 c_13) W (by kernel_rfl) (hK _ W hB rfl (fun _ _ h => h))
                            · intro L ys W hB hF hP K hK
                              refine ⟨99, false, rfl, (show fillE _ 0 ys _ 99 = _ from (hF 16 (hP.2.1 rfl))), .inl ⟨rfl, ?_⟩⟩
                              exact OpE.known (j := 17) (v := .slice (some ⟨g_12, 0, none⟩) 12 c_13) (hF 17 (hP.1 rfl)) (OpE.val (.pointer (some ⟨g_12, 9, none⟩)) W (by kernel_rfl) (hK _ W hB rfl (fun _ _ h => h)))
                            · intro L ys W hB hF hP K hK
                              refine ⟨99, false, rfl, (show fillE _ 0 ys _ 99 = _ from (hF 16 (hP.2.1 rfl))), .inl ⟨rfl, ?_⟩⟩
                              exact OpE.known (j := 18) (v := .pointer (some ⟨g_12, 9, none⟩)) (hF 18 (hP.1 rfl)) (OpE.load (g := g_12) (off := 9) (v := .int .i64 x9) rfl (by kernel_rfl) ((hs_41.grow hB).pt_at (i := 0) rfl) (by kernel_rfl) (hK _ W hB rfl (fun _ _ h => h)))
                            · intro L ys W hB hF hP K hK
                              refine ⟨99, false, rfl, (show fillE _ 0 ys _ 99 = _ from (hF 16 (hP.1 rfl))), .inl ⟨rfl, ?_⟩⟩
                              exact OpE.val (.pointer (some ⟨g_37, 2, none⟩)) W (by kernel_rfl) (hK _ W hB rfl (fun _ _ h => h))
                            · intro L ys W hB hF hP K hK
                              refine ⟨99, false, rfl, (show fillE _ 0 ys _ 99 = _ from (hF 16 (hP.2.1 rfl))), .inl ⟨rfl, ?_⟩⟩
                              exact OpE.known (j := 20) (v := .pointer (some ⟨g_37, 2, none⟩)) (hF 20 (hP.1 rfl)) (OpE.load (g := g_37) (off := 2) (v := .int .i64 c.clean.pb) rfl (by kernel_rfl) ((hs_41.grow hB).pt_at (i := 3) rfl) (by kernel_rfl) (hK _ W hB rfl (fun _ _ h => h)))
                            · intro L ys W hB hF hP K hK
                              refine ⟨99, false, rfl, (show fillE _ 0 ys _ 99 = _ from (hF 16 (hP.2.2.1 rfl))), .inl ⟨rfl, ?_⟩⟩
                              exact OpE.known (j := 19) (v := .int .i64 x9) (hF 19 (hP.1 rfl)) (OpE.known (j := 21) (v := .int .i64 c.clean.pb) (hF 21 (hP.2.1 rfl)) (OpE.val (.bool false) W (run_eqv (by kernel_rfl) (congrArg Value.bool hb_58)) (hK _ W hB rfl (fun _ _ h => h))))
                            · intro L ys W hB hF hP K hK
                              show OpE _ _ _ W K
                              exact OpE.known (j := 16) (v := .bool false) (hF 16 (hP.1 rfl)) (OpE.known (j := 22) (v := .bool false) (hF 22 (hP.2.1 rfl)) (OpE.val (.bool false) W (by kernel_rfl) (hK _ W hB rfl (fun _ _ h => h))))
                            · intro L ys W hB hF hP K hK
                              show OpE _ _ _ W K
                              exact OpE.known (j := 23) (v := .bool false) (hF 23 (hP.1 rfl)) (OpE.val (.bool false) W (by kernel_rfl) (hK _ W hB rfl (fun _ _ h => h)))
                            · intro L ys W hB hF hP K hK
                              refine ⟨107, false, rfl, (show fillE _ 0 ys _ 107 = _ from (hF 24 (hP.1 rfl))), .inl ⟨rfl, ?_⟩⟩
                              exact OpE.val (.slice (some ⟨g_12, 0, none⟩) 12 c_13) W (by kernel_rfl) (hK _ W hB rfl (fun _ _ h => h))
                            · intro L ys W hB hF hP K hK
                              refine ⟨107, false, rfl, (show fillE _ 0 ys _ 107 = _ from (hF 24 (hP.2.1 rfl))), .inl ⟨rfl, ?_⟩⟩
                              exact OpE.known (j := 25) (v := .slice (some ⟨g_12, 0, none⟩) 12 c_13) (hF 25 (hP.1 rfl)) (OpE.val (.pointer (some ⟨g_12, 10, none⟩)) W (by kernel_rfl) (hK _ W hB rfl (fun _ _ h => h)))
                            · intro L ys W hB hF hP K hK
                              refine ⟨107, false, rfl, (show fillE _ 0 ys _ 107 = _ from (hF 24 (hP.2.1 rfl))), .inl ⟨rfl, ?_⟩⟩
                              exact OpE.known (j := 26) (v := .pointer (some ⟨g_12, 10, none⟩)) (hF 26 (hP.1 rfl)) (OpE.load (g := g_12) (off := 10) (v := .int .i64 x10) rfl (by kernel_rfl) ((hs_41.grow hB).pt_at (i := 0) rfl) (by kernel_rfl) (hK _ W hB rfl (fun _ _ h => h)))
                            · intro L ys W hB hF hP K hK
                              refine ⟨107, false, rfl, (show fillE _ 0 ys _ 107 = _ from (hF 24 (hP.1 rfl))), .inl ⟨rfl, ?_⟩⟩
                              exact OpE.val (.pointer (some ⟨g_37, 3, none⟩)) W (by kernel_rfl) (hK _ W hB rfl (fun _ _ h => h))
                            · intro L ys W hB hF hP K hK
                              refine ⟨107, false, rfl, (show fillE _ 0 ys _ 107 = _ from (hF 24 (hP.2.1 rfl))), .inl ⟨rfl, ?_⟩⟩
                              exact OpE.known (j := 28) (v := .pointer (some ⟨g_37, 3, none⟩)) (hF 28 (hP.1 rfl)) (OpE.load (g := g_37) (off := 3) (v := .int .i64 c.clean.pr) rfl (by kernel_rfl) ((hs_41.grow hB).pt_at (i := 3) rfl) (by kernel_rfl) (hK _ W hB rfl (fun _ _ h => h)))
                          · intro ys_69 w_66 hs_67 hF_68
                            have hg_70 := hs_67
                            have hs_67 : SH [] w w_66 [pt g_12 ⟨[.int .i64 x0, .int .i64 x1, .int .i64 x2, .int .i64 x3, .int .i64 x4, .int .i64 x5, .int .i64 x6, .int .i64 x7, .int .i64 x8, .int .i64 x9, .int .i64 x10, .int .i64 x11] ++ pad_14⟩ 3, pt g_1 (cdA c.clean) 33, pt g_4 czD 33, pt g_37 #[.int .i64 c.clean.pt, .int .i64 c.clean.pl, .int .i64 c.clean.pb, .int .i64 c.clean.pr] 29] := hs_41.grow hg_70
                            refine SL.knownY (j := 24) (v := .bool false) (show ys_69 24 = .bool false from hF_68 24 (by decide)) (SL.knownY (j := 27) (v := .int .i64 x10) (show ys_69 27 = .int .i64 x10 from hF_68 27 (by decide)) (SL.knownY (j := 29) (v := .int .i64 c.clean.pr) (show ys_69 29 = .int .i64 c.clean.pr from hF_68 29 (by decide)) (?_)))
                            clear hF_68 HGR
                            refine SL.go ?_
                            refine SL.v (.bool (decide (c.clean.pr < x10))) ?_
                            refine SL.v (.bool (decide (c.clean.pr < x10))) ?_
                            refine SL.nil ?_
                            rcases Bool.eq_false_or_eq_true (decide (c.clean.pr < x10)) with hb_71 | hb_71
                            · try rw [hb_71]
                              have hqhb_71 := of_decide_eq_true hb_71
                              refine CW.cond_true (by kernel_rfl) ?_
                              refine CW.seq ?_
                              refine CW.region ?_
                              refine SL.load (g := g_1) (off := 0) (v := .agg (cdA c.clean)) rfl rfl rfl (by kernel_rfl) (hs_67.pt_at (i := 1) rfl) (by kernel_rfl) ?_
                              refine SL.storeH (i := 2) (g := g_4) (off := 0) (v := .agg (cdA c.clean)) (L' := [pt g_12 ⟨[.int .i64 x0, .int .i64 x1, .int .i64 x2, .int .i64 x3, .int .i64 x4, .int .i64 x5, .int .i64 x6, .int .i64 x7, .int .i64 x8, .int .i64 x9, .int .i64 x10, .int .i64 x11] ++ pad_14⟩ 3, pt g_1 (cdA c.clean) 33, pt g_4 (cdA c.clean) 33, pt g_37 #[.int .i64 c.clean.pt, .int .i64 c.clean.pl, .int .i64 c.clean.pb, .int .i64 c.clean.pr] 29]) hs_67 rfl rfl rfl (by kernel_rfl) (by kernel_rfl) rfl (by kernel_rfl) (by kernel_rfl) rfl (by kernel_rfl) rfl (fun w_72 hs_73 => ?_)
                              refine SL.v (.bool false) ?_
                              refine SL.nil ?_
                              refine CW.ret ?_
                              repeat with_reducible first | refine PThen.ret ?_ | refine PBlock.ret ?_
                              refine PRet.cellTmp (t := 4) (u := 5) (ty := 33) (g := g_4) (v := .agg (cdA c.clean)) (v' := .bool false) rfl rfl rfl (by kernel_rfl) (hs_73.pt_at (i := 2) rfl) (by kernel_rfl) (by kernel_rfl) ?_
                              have hq : okL c.clean.pb c.clean.pr x0 x1 x2 x3 x4 x5 x6 x7 x8 x9 x10 x11 = false := by unfold okL; simp; omega
                              exact ⟨by rw [hq]; rfl, hs_73.gr⟩
                            · try rw [hb_71]
                              have hqhb_71 := of_decide_eq_false hb_71
                              refine CW.cond_false (by kernel_rfl) ?_
                              refine CW.skip ?_
                              refine CW.seq ?_
                              refine CW.region ?_
                              refine SL.v (.slice (some ⟨g_12, 0, none⟩) 12 c_13) ?_
                              refine SL.v (.pointer (some ⟨g_12, 0, none⟩)) ?_
                              refine SL.load (g := g_12) (off := 0) (v := .int .i64 x0) rfl rfl rfl (by kernel_rfl) (hs_67.pt_at (i := 0) rfl) (by kernel_rfl) ?_
                              refine SL.v (.pointer (some ⟨g_1, 22, none⟩)) ?_
                              refine SL.storeH (i := 1) (g := g_1) (off := 22) (v := .int .i64 x0) (L' := [pt g_12 ⟨[.int .i64 x0, .int .i64 x1, .int .i64 x2, .int .i64 x3, .int .i64 x4, .int .i64 x5, .int .i64 x6, .int .i64 x7, .int .i64 x8, .int .i64 x9, .int .i64 x10, .int .i64 x11] ++ pad_14⟩ 3, pt g_1 #[.int .i64 c.clean.row, .int .i64 c.clean.col, .int .u8 c.clean.rend, .bool c.clean.kept, .bool c.clean.wrap, .bool c.clean.origin, .int .i64 c.clean.g0, .int .i64 c.clean.g1, .int .i64 c.clean.g2, .int .i64 c.clean.g3, .int .i64 c.clean.gl, .int .i64 c.clean.gr, .int .i64 c.clean.sg, .int .i64 c.clean.pt, .int .i64 c.clean.pl, .int .i64 c.clean.pb, .int .i64 c.clean.pr, .int .i64 c.clean.mt, .int .i64 c.clean.ml, .int .i64 c.clean.mb, .int .i64 c.clean.mr, .int .i64 c.clean.modes, .int .i64 x0, .bool c.clean.eight, .bool c.clean.stream, .int .i64 c.clean.status, .bool c.clean.below, .int .i64 c.clean.page, .int .i64 c.clean.pages] 33, pt g_4 czD 33, pt g_37 #[.int .i64 c.clean.pt, .int .i64 c.clean.pl, .int .i64 c.clean.pb, .int .i64 c.clean.pr] 29]) hs_67 rfl rfl rfl (by kernel_rfl) (by kernel_rfl) rfl (by kernel_rfl) (by kernel_rfl) rfl (by kernel_rfl) rfl (fun w_74 hs_75 => ?_)
                              refine SL.nil ?_
                              refine CW.seq ?_
                              refine CW.region ?_
                              refine SL.v (.slice (some ⟨g_12, 0, none⟩) 12 c_13) ?_
                              refine SL.v (.pointer (some ⟨g_12, 1, none⟩)) ?_
                              refine SL.load (g := g_12) (off := 1) (v := .int .i64 x1) rfl rfl rfl (by kernel_rfl) (hs_75.pt_at (i := 0) rfl) (by kernel_rfl) ?_
                              refine SL.v (.bool (x1 == 1)) ?_
                              refine SL.v (.pointer (some ⟨g_1, 23, none⟩)) ?_
                              refine SL.storeH (i := 1) (g := g_1) (off := 23) (v := .bool (x1 == 1)) (L' := [pt g_12 ⟨[.int .i64 x0, .int .i64 x1, .int .i64 x2, .int .i64 x3, .int .i64 x4, .int .i64 x5, .int .i64 x6, .int .i64 x7, .int .i64 x8, .int .i64 x9, .int .i64 x10, .int .i64 x11] ++ pad_14⟩ 3, pt g_1 #[.int .i64 c.clean.row, .int .i64 c.clean.col, .int .u8 c.clean.rend, .bool c.clean.kept, .bool c.clean.wrap, .bool c.clean.origin, .int .i64 c.clean.g0, .int .i64 c.clean.g1, .int .i64 c.clean.g2, .int .i64 c.clean.g3, .int .i64 c.clean.gl, .int .i64 c.clean.gr, .int .i64 c.clean.sg, .int .i64 c.clean.pt, .int .i64 c.clean.pl, .int .i64 c.clean.pb, .int .i64 c.clean.pr, .int .i64 c.clean.mt, .int .i64 c.clean.ml, .int .i64 c.clean.mb, .int .i64 c.clean.mr, .int .i64 c.clean.modes, .int .i64 x0, .bool (x1 == 1), .bool c.clean.stream, .int .i64 c.clean.status, .bool c.clean.below, .int .i64 c.clean.page, .int .i64 c.clean.pages] 33, pt g_4 czD 33, pt g_37 #[.int .i64 c.clean.pt, .int .i64 c.clean.pl, .int .i64 c.clean.pb, .int .i64 c.clean.pr] 29]) hs_75 rfl rfl rfl (by kernel_rfl) (by kernel_rfl) rfl (by kernel_rfl) (by kernel_rfl) rfl (by kernel_rfl) rfl (fun w_76 hs_77 => ?_)
                              refine SL.nil ?_
                              refine CW.seq ?_
                              have HGR : GrL [fun v _ => v = .slice (some ⟨g_12, 0, none⟩) 12 c_13, fun v _ => v = .pointer (some ⟨g_12, 2, none⟩), fun v _ => v = .int .i64 x2, fun v _ => v = .int .i64 (4096 * x2), fun v _ => v = .slice (some ⟨g_12, 0, none⟩) 12 c_13, fun v _ => v = .pointer (some ⟨g_12, 3, none⟩), fun v _ => v = .int .i64 x3] := ⟨fun _ _ _ _ h => h, ⟨fun _ _ _ _ h => h, ⟨fun _ _ _ _ h => h, ⟨fun _ _ _ _ h => h, ⟨fun _ _ _ _ h => h, ⟨fun _ _ _ _ h => h, ⟨fun _ _ _ _ h => h, trivial⟩⟩⟩⟩⟩⟩⟩
                              refine CW.draw 7 (FW [fun v _ => v = .slice (some ⟨g_12, 0, none⟩) 12 c_13, fun v _ => v = .pointer (some ⟨g_12, 2, none⟩), fun v _ => v = .int .i64 x2, fun v _ => v = .int .i64 (4096 * x2), fun v _ => v = .slice (some ⟨g_12, 0, none⟩) 12 c_13, fun v _ => v = .pointer (some ⟨g_12, 3, none⟩), fun v _ => v = .int .i64 x3]) (fun W => Gr w_76 W) (by kernel_rfl) (by kernel_rfl) (by kernel_rfl) (by kernel_rfl) (by kernel_rfl) (Gr.refl _).drew ?_ ?_
                              · refine ⟨?_, ⟨?_, ⟨?_, ⟨?_, ⟨?_, ⟨?_, ⟨?_, trivial⟩⟩⟩⟩⟩⟩⟩
                                · intro L ys W hB hF hP K hK
                                  show OpE _ _ _ W K
                                  exact OpE.val (.slice (some ⟨g_12, 0, none⟩) 12 c_13) W (by kernel_rfl) (hK _ W hB rfl (fun _ _ h => h))
                                · intro L ys W hB hF hP K hK
                                  show OpE _ _ _ W K
                                  exact OpE.known (j := 0) (v := .slice (some ⟨g_12, 0, none⟩) 12 c_13) (hF 0 (hP.1 rfl)) (OpE.val (.pointer (some ⟨g_12, 2, none⟩)) W (by kernel_rfl) (hK _ W hB rfl (fun _ _ h => h)))
                                · intro L ys W hB hF hP K hK
                                  show OpE _ _ _ W K
                                  exact OpE.known (j := 1) (v := .pointer (some ⟨g_12, 2, none⟩)) (hF 1 (hP.1 rfl)) (OpE.load (g := g_12) (off := 2) (v := .int .i64 x2) rfl (by kernel_rfl) ((hs_77.grow hB).pt_at (i := 0) rfl) (by kernel_rfl) (hK _ W hB rfl (fun _ _ h => h)))
                                · intro L ys W hB hF hP K hK
                                  show OpE _ _ _ W K
                                  exact OpE.known (j := 2) (v := .int .i64 x2) (hF 2 (hP.1 rfl)) (OpE.val (.int .i64 (4096 * x2)) W (by have hw : IntKind.i64.wrap (4096 * x2) = 4096 * x2 := IntWalk.i64_in _ (by omega); exact run_eqv (by kernel_rfl) (congrArg (fun z => Value.int .i64 z) hw)) (hK _ W hB rfl (fun _ _ h => h)))
                                · intro L ys W hB hF hP K hK
                                  show OpE _ _ _ W K
                                  exact OpE.val (.slice (some ⟨g_12, 0, none⟩) 12 c_13) W (by kernel_rfl) (hK _ W hB rfl (fun _ _ h => h))
                                · intro L ys W hB hF hP K hK
                                  show OpE _ _ _ W K
                                  exact OpE.known (j := 4) (v := .slice (some ⟨g_12, 0, none⟩) 12 c_13) (hF 4 (hP.1 rfl)) (OpE.val (.pointer (some ⟨g_12, 3, none⟩)) W (by kernel_rfl) (hK _ W hB rfl (fun _ _ h => h)))
                                · intro L ys W hB hF hP K hK
                                  show OpE _ _ _ W K
                                  exact OpE.known (j := 5) (v := .pointer (some ⟨g_12, 3, none⟩)) (hF 5 (hP.1 rfl)) (OpE.load (g := g_12) (off := 3) (v := .int .i64 x3) rfl (by kernel_rfl) ((hs_77.grow hB).pt_at (i := 0) rfl) (by kernel_rfl) (hK _ W hB rfl (fun _ _ h => h)))
                              · intro ys_81 w_78 hs_79 hF_80
                                have hg_82 := hs_79
                                have hs_79 : SH [] w w_78 [pt g_12 ⟨[.int .i64 x0, .int .i64 x1, .int .i64 x2, .int .i64 x3, .int .i64 x4, .int .i64 x5, .int .i64 x6, .int .i64 x7, .int .i64 x8, .int .i64 x9, .int .i64 x10, .int .i64 x11] ++ pad_14⟩ 3, pt g_1 #[.int .i64 c.clean.row, .int .i64 c.clean.col, .int .u8 c.clean.rend, .bool c.clean.kept, .bool c.clean.wrap, .bool c.clean.origin, .int .i64 c.clean.g0, .int .i64 c.clean.g1, .int .i64 c.clean.g2, .int .i64 c.clean.g3, .int .i64 c.clean.gl, .int .i64 c.clean.gr, .int .i64 c.clean.sg, .int .i64 c.clean.pt, .int .i64 c.clean.pl, .int .i64 c.clean.pb, .int .i64 c.clean.pr, .int .i64 c.clean.mt, .int .i64 c.clean.ml, .int .i64 c.clean.mb, .int .i64 c.clean.mr, .int .i64 c.clean.modes, .int .i64 x0, .bool (x1 == 1), .bool c.clean.stream, .int .i64 c.clean.status, .bool c.clean.below, .int .i64 c.clean.page, .int .i64 c.clean.pages] 33, pt g_4 czD 33, pt g_37 #[.int .i64 c.clean.pt, .int .i64 c.clean.pl, .int .i64 c.clean.pb, .int .i64 c.clean.pr] 29] := hs_77.grow hg_82
                                refine SL.knownY (j := 3) (v := .int .i64 (4096 * x2)) (show ys_81 3 = .int .i64 (4096 * x2) from hF_80 3 (by decide)) (SL.knownY (j := 6) (v := .int .i64 x3) (show ys_81 6 = .int .i64 x3 from hF_80 6 (by decide)) (?_))
                                clear hF_80 HGR
                                refine SL.val (v := .int .i64 ((4096 * x2) + x3)) (w' := w_78) rfl rfl (by have hw : IntKind.i64.wrap ((4096 * x2) + x3) = (4096 * x2) + x3 := IntWalk.i64_in _ (by omega); exact run_eqv (by kernel_rfl) (congrArg (fun z => Value.int .i64 z) hw)) ?_
                                refine SL.v (.pointer (some ⟨g_1, 21, none⟩)) ?_
                                refine SL.storeH (i := 1) (g := g_1) (off := 21) (v := .int .i64 ((4096 * x2) + x3)) (L' := [pt g_12 ⟨[.int .i64 x0, .int .i64 x1, .int .i64 x2, .int .i64 x3, .int .i64 x4, .int .i64 x5, .int .i64 x6, .int .i64 x7, .int .i64 x8, .int .i64 x9, .int .i64 x10, .int .i64 x11] ++ pad_14⟩ 3, pt g_1 #[.int .i64 c.clean.row, .int .i64 c.clean.col, .int .u8 c.clean.rend, .bool c.clean.kept, .bool c.clean.wrap, .bool c.clean.origin, .int .i64 c.clean.g0, .int .i64 c.clean.g1, .int .i64 c.clean.g2, .int .i64 c.clean.g3, .int .i64 c.clean.gl, .int .i64 c.clean.gr, .int .i64 c.clean.sg, .int .i64 c.clean.pt, .int .i64 c.clean.pl, .int .i64 c.clean.pb, .int .i64 c.clean.pr, .int .i64 c.clean.mt, .int .i64 c.clean.ml, .int .i64 c.clean.mb, .int .i64 c.clean.mr, .int .i64 ((4096 * x2) + x3), .int .i64 x0, .bool (x1 == 1), .bool c.clean.stream, .int .i64 c.clean.status, .bool c.clean.below, .int .i64 c.clean.page, .int .i64 c.clean.pages] 33, pt g_4 czD 33, pt g_37 #[.int .i64 c.clean.pt, .int .i64 c.clean.pl, .int .i64 c.clean.pb, .int .i64 c.clean.pr] 29]) hs_79 rfl rfl rfl (by kernel_rfl) (by kernel_rfl) rfl (by kernel_rfl) (by kernel_rfl) rfl (by kernel_rfl) rfl (fun w_83 hs_84 => ?_)
                                refine SL.nil ?_
                                refine CW.seq ?_
                                refine CW.region ?_
                                refine SL.v (.slice (some ⟨g_12, 0, none⟩) 12 c_13) ?_
                                refine SL.v (.pointer (some ⟨g_12, 4, none⟩)) ?_
                                refine SL.load (g := g_12) (off := 4) (v := .int .i64 x4) rfl rfl rfl (by kernel_rfl) (hs_84.pt_at (i := 0) rfl) (by kernel_rfl) ?_
                                refine SL.v (.bool (x4 == 1)) ?_
                                refine SL.v (.pointer (some ⟨g_1, 24, none⟩)) ?_
                                refine SL.storeH (i := 1) (g := g_1) (off := 24) (v := .bool (x4 == 1)) (L' := [pt g_12 ⟨[.int .i64 x0, .int .i64 x1, .int .i64 x2, .int .i64 x3, .int .i64 x4, .int .i64 x5, .int .i64 x6, .int .i64 x7, .int .i64 x8, .int .i64 x9, .int .i64 x10, .int .i64 x11] ++ pad_14⟩ 3, pt g_1 #[.int .i64 c.clean.row, .int .i64 c.clean.col, .int .u8 c.clean.rend, .bool c.clean.kept, .bool c.clean.wrap, .bool c.clean.origin, .int .i64 c.clean.g0, .int .i64 c.clean.g1, .int .i64 c.clean.g2, .int .i64 c.clean.g3, .int .i64 c.clean.gl, .int .i64 c.clean.gr, .int .i64 c.clean.sg, .int .i64 c.clean.pt, .int .i64 c.clean.pl, .int .i64 c.clean.pb, .int .i64 c.clean.pr, .int .i64 c.clean.mt, .int .i64 c.clean.ml, .int .i64 c.clean.mb, .int .i64 c.clean.mr, .int .i64 ((4096 * x2) + x3), .int .i64 x0, .bool (x1 == 1), .bool (x4 == 1), .int .i64 c.clean.status, .bool c.clean.below, .int .i64 c.clean.page, .int .i64 c.clean.pages] 33, pt g_4 czD 33, pt g_37 #[.int .i64 c.clean.pt, .int .i64 c.clean.pl, .int .i64 c.clean.pb, .int .i64 c.clean.pr] 29]) hs_84 rfl rfl rfl (by kernel_rfl) (by kernel_rfl) rfl (by kernel_rfl) (by kernel_rfl) rfl (by kernel_rfl) rfl (fun w_85 hs_86 => ?_)
                                refine SL.nil ?_
                                refine CW.seq ?_
                                refine CW.region ?_
                                refine SL.v (.slice (some ⟨g_12, 0, none⟩) 12 c_13) ?_
                                refine SL.v (.pointer (some ⟨g_12, 5, none⟩)) ?_
                                refine SL.load (g := g_12) (off := 5) (v := .int .i64 x5) rfl rfl rfl (by kernel_rfl) (hs_86.pt_at (i := 0) rfl) (by kernel_rfl) ?_
                                refine SL.v (.pointer (some ⟨g_1, 25, none⟩)) ?_
                                refine SL.storeH (i := 1) (g := g_1) (off := 25) (v := .int .i64 x5) (L' := [pt g_12 ⟨[.int .i64 x0, .int .i64 x1, .int .i64 x2, .int .i64 x3, .int .i64 x4, .int .i64 x5, .int .i64 x6, .int .i64 x7, .int .i64 x8, .int .i64 x9, .int .i64 x10, .int .i64 x11] ++ pad_14⟩ 3, pt g_1 #[.int .i64 c.clean.row, .int .i64 c.clean.col, .int .u8 c.clean.rend, .bool c.clean.kept, .bool c.clean.wrap, .bool c.clean.origin, .int .i64 c.clean.g0, .int .i64 c.clean.g1, .int .i64 c.clean.g2, .int .i64 c.clean.g3, .int .i64 c.clean.gl, .int .i64 c.clean.gr, .int .i64 c.clean.sg, .int .i64 c.clean.pt, .int .i64 c.clean.pl, .int .i64 c.clean.pb, .int .i64 c.clean.pr, .int .i64 c.clean.mt, .int .i64 c.clean.ml, .int .i64 c.clean.mb, .int .i64 c.clean.mr, .int .i64 ((4096 * x2) + x3), .int .i64 x0, .bool (x1 == 1), .bool (x4 == 1), .int .i64 x5, .bool c.clean.below, .int .i64 c.clean.page, .int .i64 c.clean.pages] 33, pt g_4 czD 33, pt g_37 #[.int .i64 c.clean.pt, .int .i64 c.clean.pl, .int .i64 c.clean.pb, .int .i64 c.clean.pr] 29]) hs_86 rfl rfl rfl (by kernel_rfl) (by kernel_rfl) rfl (by kernel_rfl) (by kernel_rfl) rfl (by kernel_rfl) rfl (fun w_87 hs_88 => ?_)
                                refine SL.nil ?_
                                refine CW.seq ?_
                                refine CW.region ?_
                                refine SL.v (.slice (some ⟨g_12, 0, none⟩) 12 c_13) ?_
                                refine SL.v (.pointer (some ⟨g_12, 6, none⟩)) ?_
                                refine SL.load (g := g_12) (off := 6) (v := .int .i64 x6) rfl rfl rfl (by kernel_rfl) (hs_88.pt_at (i := 0) rfl) (by kernel_rfl) ?_
                                refine SL.v (.bool (x6 == 1)) ?_
                                refine SL.v (.pointer (some ⟨g_1, 26, none⟩)) ?_
                                refine SL.storeH (i := 1) (g := g_1) (off := 26) (v := .bool (x6 == 1)) (L' := [pt g_12 ⟨[.int .i64 x0, .int .i64 x1, .int .i64 x2, .int .i64 x3, .int .i64 x4, .int .i64 x5, .int .i64 x6, .int .i64 x7, .int .i64 x8, .int .i64 x9, .int .i64 x10, .int .i64 x11] ++ pad_14⟩ 3, pt g_1 #[.int .i64 c.clean.row, .int .i64 c.clean.col, .int .u8 c.clean.rend, .bool c.clean.kept, .bool c.clean.wrap, .bool c.clean.origin, .int .i64 c.clean.g0, .int .i64 c.clean.g1, .int .i64 c.clean.g2, .int .i64 c.clean.g3, .int .i64 c.clean.gl, .int .i64 c.clean.gr, .int .i64 c.clean.sg, .int .i64 c.clean.pt, .int .i64 c.clean.pl, .int .i64 c.clean.pb, .int .i64 c.clean.pr, .int .i64 c.clean.mt, .int .i64 c.clean.ml, .int .i64 c.clean.mb, .int .i64 c.clean.mr, .int .i64 ((4096 * x2) + x3), .int .i64 x0, .bool (x1 == 1), .bool (x4 == 1), .int .i64 x5, .bool (x6 == 1), .int .i64 c.clean.page, .int .i64 c.clean.pages] 33, pt g_4 czD 33, pt g_37 #[.int .i64 c.clean.pt, .int .i64 c.clean.pl, .int .i64 c.clean.pb, .int .i64 c.clean.pr] 29]) hs_88 rfl rfl rfl (by kernel_rfl) (by kernel_rfl) rfl (by kernel_rfl) (by kernel_rfl) rfl (by kernel_rfl) rfl (fun w_89 hs_90 => ?_)
                                refine SL.nil ?_
                                refine CW.seq ?_
                                have HGR : GrL [fun v _ => v = .slice (some ⟨g_12, 0, none⟩) 12 c_13, fun v _ => v = .pointer (some ⟨g_12, 7, none⟩), fun v _ => v = .int .i64 x7, fun v _ => v = .slice (some ⟨g_12, 0, none⟩) 12 c_13, fun v _ => v = .pointer (some ⟨g_12, 8, none⟩), fun v _ => v = .int .i64 x8, fun v _ => v = .slice (some ⟨g_12, 0, none⟩) 12 c_13, fun v _ => v = .pointer (some ⟨g_12, 9, none⟩), fun v _ => v = .int .i64 x9, fun v _ => v = .slice (some ⟨g_12, 0, none⟩) 12 c_13, fun v _ => v = .pointer (some ⟨g_12, 10, none⟩), fun v _ => v = .int .i64 x10] := ⟨fun _ _ _ _ h => h, ⟨fun _ _ _ _ h => h, ⟨fun _ _ _ _ h => h, ⟨fun _ _ _ _ h => h, ⟨fun _ _ _ _ h => h, ⟨fun _ _ _ _ h => h, ⟨fun _ _ _ _ h => h, ⟨fun _ _ _ _ h => h, ⟨fun _ _ _ _ h => h, ⟨fun _ _ _ _ h => h, ⟨fun _ _ _ _ h => h, ⟨fun _ _ _ _ h => h, trivial⟩⟩⟩⟩⟩⟩⟩⟩⟩⟩⟩⟩
                                refine CW.draw 12 (FW [fun v _ => v = .slice (some ⟨g_12, 0, none⟩) 12 c_13, fun v _ => v = .pointer (some ⟨g_12, 7, none⟩), fun v _ => v = .int .i64 x7, fun v _ => v = .slice (some ⟨g_12, 0, none⟩) 12 c_13, fun v _ => v = .pointer (some ⟨g_12, 8, none⟩), fun v _ => v = .int .i64 x8, fun v _ => v = .slice (some ⟨g_12, 0, none⟩) 12 c_13, fun v _ => v = .pointer (some ⟨g_12, 9, none⟩), fun v _ => v = .int .i64 x9, fun v _ => v = .slice (some ⟨g_12, 0, none⟩) 12 c_13, fun v _ => v = .pointer (some ⟨g_12, 10, none⟩), fun v _ => v = .int .i64 x10]) (fun W => Gr w_89 W) (by kernel_rfl) (by kernel_rfl) (by kernel_rfl) (by kernel_rfl) (by kernel_rfl) (Gr.refl _).drew ?_ ?_
                                · refine ⟨?_, ⟨?_, ⟨?_, ⟨?_, ⟨?_, ⟨?_, ⟨?_, ⟨?_, ⟨?_, ⟨?_, ⟨?_, ⟨?_, trivial⟩⟩⟩⟩⟩⟩⟩⟩⟩⟩⟩⟩
                                  · intro L ys W hB hF hP K hK
                                    show OpE _ _ _ W K
                                    exact OpE.val (.slice (some ⟨g_12, 0, none⟩) 12 c_13) W (by kernel_rfl) (hK _ W hB rfl (fun _ _ h => h))
                                  · intro L ys W hB hF hP K hK
                                    show OpE _ _ _ W K
                                    exact OpE.known (j := 0) (v := .slice (some ⟨g_12, 0, none⟩) 12 c_13) (hF 0 (hP.1 rfl)) (OpE.val (.pointer (some ⟨g_12, 7, none⟩)) W (by kernel_rfl) (hK _ W hB rfl (fun _ _ h => h)))
                                  · intro L ys W hB hF hP K hK
                                    show OpE _ _ _ W K
                                    exact OpE.known (j := 1) (v := .pointer (some ⟨g_12, 7, none⟩)) (hF 1 (hP.1 rfl)) (OpE.load (g := g_12) (off := 7) (v := .int .i64 x7) rfl (by kernel_rfl) ((hs_90.grow hB).pt_at (i := 0) rfl) (by kernel_rfl) (hK _ W hB rfl (fun _ _ h => h)))
                                  · intro L ys W hB hF hP K hK
                                    show OpE _ _ _ W K
                                    exact OpE.val (.slice (some ⟨g_12, 0, none⟩) 12 c_13) W (by kernel_rfl) (hK _ W hB rfl (fun _ _ h => h))
                                  · intro L ys W hB hF hP K hK
                                    show OpE _ _ _ W K
                                    exact OpE.known (j := 3) (v := .slice (some ⟨g_12, 0, none⟩) 12 c_13) (hF 3 (hP.1 rfl)) (OpE.val (.pointer (some ⟨g_12, 8, none⟩)) W (by kernel_rfl) (hK _ W hB rfl (fun _ _ h => h)))
                                  · intro L ys W hB hF hP K hK
                                    show OpE _ _ _ W K
                                    exact OpE.known (j := 4) (v := .pointer (some ⟨g_12, 8, none⟩)) (hF 4 (hP.1 rfl)) (OpE.load (g := g_12) (off := 8) (v := .int .i64 x8) rfl (by kernel_rfl) ((hs_90.grow hB).pt_at (i := 0) rfl) (by kernel_rfl) (hK _ W hB rfl (fun _ _ h => h)))
                                  · intro L ys W hB hF hP K hK
                                    show OpE _ _ _ W K
                                    exact OpE.val (.slice (some ⟨g_12, 0, none⟩) 12 c_13) W (by kernel_rfl) (hK _ W hB rfl (fun _ _ h => h))
                                  · intro L ys W hB hF hP K hK
                                    show OpE _ _ _ W K
                                    exact OpE.known (j := 6) (v := .slice (some ⟨g_12, 0, none⟩) 12 c_13) (hF 6 (hP.1 rfl)) (OpE.val (.pointer (some ⟨g_12, 9, none⟩)) W (by kernel_rfl) (hK _ W hB rfl (fun _ _ h => h)))
                                  · intro L ys W hB hF hP K hK
                                    show OpE _ _ _ W K
                                    exact OpE.known (j := 7) (v := .pointer (some ⟨g_12, 9, none⟩)) (hF 7 (hP.1 rfl)) (OpE.load (g := g_12) (off := 9) (v := .int .i64 x9) rfl (by kernel_rfl) ((hs_90.grow hB).pt_at (i := 0) rfl) (by kernel_rfl) (hK _ W hB rfl (fun _ _ h => h)))
                                  · intro L ys W hB hF hP K hK
                                    show OpE _ _ _ W K
                                    exact OpE.val (.slice (some ⟨g_12, 0, none⟩) 12 c_13) W (by kernel_rfl) (hK _ W hB rfl (fun _ _ h => h))
                                  · intro L ys W hB hF hP K hK
                                    show OpE _ _ _ W K
                                    exact OpE.known (j := 9) (v := .slice (some ⟨g_12, 0, none⟩) 12 c_13) (hF 9 (hP.1 rfl)) (OpE.val (.pointer (some ⟨g_12, 10, none⟩)) W (by kernel_rfl) (hK _ W hB rfl (fun _ _ h => h)))
                                  · intro L ys W hB hF hP K hK
                                    show OpE _ _ _ W K
                                    exact OpE.known (j := 10) (v := .pointer (some ⟨g_12, 10, none⟩)) (hF 10 (hP.1 rfl)) (OpE.load (g := g_12) (off := 10) (v := .int .i64 x10) rfl (by kernel_rfl) ((hs_90.grow hB).pt_at (i := 0) rfl) (by kernel_rfl) (hK _ W hB rfl (fun _ _ h => h)))
                                · intro ys_94 w_91 hs_92 hF_93
                                  have hg_95 := hs_92
                                  have hs_92 : SH [] w w_91 [pt g_12 ⟨[.int .i64 x0, .int .i64 x1, .int .i64 x2, .int .i64 x3, .int .i64 x4, .int .i64 x5, .int .i64 x6, .int .i64 x7, .int .i64 x8, .int .i64 x9, .int .i64 x10, .int .i64 x11] ++ pad_14⟩ 3, pt g_1 #[.int .i64 c.clean.row, .int .i64 c.clean.col, .int .u8 c.clean.rend, .bool c.clean.kept, .bool c.clean.wrap, .bool c.clean.origin, .int .i64 c.clean.g0, .int .i64 c.clean.g1, .int .i64 c.clean.g2, .int .i64 c.clean.g3, .int .i64 c.clean.gl, .int .i64 c.clean.gr, .int .i64 c.clean.sg, .int .i64 c.clean.pt, .int .i64 c.clean.pl, .int .i64 c.clean.pb, .int .i64 c.clean.pr, .int .i64 c.clean.mt, .int .i64 c.clean.ml, .int .i64 c.clean.mb, .int .i64 c.clean.mr, .int .i64 ((4096 * x2) + x3), .int .i64 x0, .bool (x1 == 1), .bool (x4 == 1), .int .i64 x5, .bool (x6 == 1), .int .i64 c.clean.page, .int .i64 c.clean.pages] 33, pt g_4 czD 33, pt g_37 #[.int .i64 c.clean.pt, .int .i64 c.clean.pl, .int .i64 c.clean.pb, .int .i64 c.clean.pr] 29] := hs_90.grow hg_95
                                  refine SL.knownY (j := 2) (v := .int .i64 x7) (show ys_94 2 = .int .i64 x7 from hF_93 2 (by decide)) (SL.knownY (j := 5) (v := .int .i64 x8) (show ys_94 5 = .int .i64 x8 from hF_93 5 (by decide)) (SL.knownY (j := 8) (v := .int .i64 x9) (show ys_94 8 = .int .i64 x9 from hF_93 8 (by decide)) (SL.knownY (j := 11) (v := .int .i64 x10) (show ys_94 11 = .int .i64 x10 from hF_93 11 (by decide)) (?_))))
                                  clear hF_93 HGR
                                  refine SL.v (.agg #[.int .i64 x7, .int .i64 x8, .int .i64 x9, .int .i64 x10]) ?_
                                  refine SL.v (.pointer (some ⟨g_1, 13, none⟩)) ?_
                                  refine SL.v (.pointer (some ⟨g_1, 17, none⟩)) ?_
                                  refine SL.storeH (i := 1) (g := g_1) (off := 17) (v := .agg #[.int .i64 x7, .int .i64 x8, .int .i64 x9, .int .i64 x10]) (L' := [pt g_12 ⟨[.int .i64 x0, .int .i64 x1, .int .i64 x2, .int .i64 x3, .int .i64 x4, .int .i64 x5, .int .i64 x6, .int .i64 x7, .int .i64 x8, .int .i64 x9, .int .i64 x10, .int .i64 x11] ++ pad_14⟩ 3, pt g_1 #[.int .i64 c.clean.row, .int .i64 c.clean.col, .int .u8 c.clean.rend, .bool c.clean.kept, .bool c.clean.wrap, .bool c.clean.origin, .int .i64 c.clean.g0, .int .i64 c.clean.g1, .int .i64 c.clean.g2, .int .i64 c.clean.g3, .int .i64 c.clean.gl, .int .i64 c.clean.gr, .int .i64 c.clean.sg, .int .i64 c.clean.pt, .int .i64 c.clean.pl, .int .i64 c.clean.pb, .int .i64 c.clean.pr, .int .i64 x7, .int .i64 x8, .int .i64 x9, .int .i64 x10, .int .i64 ((4096 * x2) + x3), .int .i64 x0, .bool (x1 == 1), .bool (x4 == 1), .int .i64 x5, .bool (x6 == 1), .int .i64 c.clean.page, .int .i64 c.clean.pages] 33, pt g_4 czD 33, pt g_37 #[.int .i64 c.clean.pt, .int .i64 c.clean.pl, .int .i64 c.clean.pb, .int .i64 c.clean.pr] 29]) hs_92 rfl rfl rfl (by kernel_rfl) (by kernel_rfl) rfl (by kernel_rfl) (by kernel_rfl) rfl (by kernel_rfl) rfl (fun w_96 hs_97 => ?_)
                                  refine SL.nil ?_
                                  refine CW.seq ?_
                                  refine CW.region ?_
                                  refine SL.v (.slice (some ⟨g_12, 0, none⟩) 12 c_13) ?_
                                  refine SL.v (.pointer (some ⟨g_12, 11, none⟩)) ?_
                                  refine SL.load (g := g_12) (off := 11) (v := .int .i64 x11) rfl rfl rfl (by kernel_rfl) (hs_97.pt_at (i := 0) rfl) (by kernel_rfl) ?_
                                  refine SL.v (.bool (x11 == 1)) ?_
                                  refine SL.v (.pointer (some ⟨g_1, 0, none⟩)) ?_
                                  refine SL.v (.pointer (some ⟨g_1, 5, none⟩)) ?_
                                  refine SL.storeH (i := 1) (g := g_1) (off := 5) (v := .bool (x11 == 1)) (L' := [pt g_12 ⟨[.int .i64 x0, .int .i64 x1, .int .i64 x2, .int .i64 x3, .int .i64 x4, .int .i64 x5, .int .i64 x6, .int .i64 x7, .int .i64 x8, .int .i64 x9, .int .i64 x10, .int .i64 x11] ++ pad_14⟩ 3, pt g_1 #[.int .i64 c.clean.row, .int .i64 c.clean.col, .int .u8 c.clean.rend, .bool c.clean.kept, .bool c.clean.wrap, .bool (x11 == 1), .int .i64 c.clean.g0, .int .i64 c.clean.g1, .int .i64 c.clean.g2, .int .i64 c.clean.g3, .int .i64 c.clean.gl, .int .i64 c.clean.gr, .int .i64 c.clean.sg, .int .i64 c.clean.pt, .int .i64 c.clean.pl, .int .i64 c.clean.pb, .int .i64 c.clean.pr, .int .i64 x7, .int .i64 x8, .int .i64 x9, .int .i64 x10, .int .i64 ((4096 * x2) + x3), .int .i64 x0, .bool (x1 == 1), .bool (x4 == 1), .int .i64 x5, .bool (x6 == 1), .int .i64 c.clean.page, .int .i64 c.clean.pages] 33, pt g_4 czD 33, pt g_37 #[.int .i64 c.clean.pt, .int .i64 c.clean.pl, .int .i64 c.clean.pb, .int .i64 c.clean.pr] 29]) hs_97 rfl rfl rfl (by kernel_rfl) (by kernel_rfl) rfl (by kernel_rfl) (by kernel_rfl) rfl (by kernel_rfl) rfl (fun w_98 hs_99 => ?_)
                                  refine SL.nil ?_
                                  refine CW.seq ?_
                                  refine CW.region ?_
                                  refine SL.load (g := g_1) (off := 0) (v := .agg #[.int .i64 c.clean.row, .int .i64 c.clean.col, .int .u8 c.clean.rend, .bool c.clean.kept, .bool c.clean.wrap, .bool (x11 == 1), .int .i64 c.clean.g0, .int .i64 c.clean.g1, .int .i64 c.clean.g2, .int .i64 c.clean.g3, .int .i64 c.clean.gl, .int .i64 c.clean.gr, .int .i64 c.clean.sg, .int .i64 c.clean.pt, .int .i64 c.clean.pl, .int .i64 c.clean.pb, .int .i64 c.clean.pr, .int .i64 x7, .int .i64 x8, .int .i64 x9, .int .i64 x10, .int .i64 ((4096 * x2) + x3), .int .i64 x0, .bool (x1 == 1), .bool (x4 == 1), .int .i64 x5, .bool (x6 == 1), .int .i64 c.clean.page, .int .i64 c.clean.pages]) rfl rfl rfl (by kernel_rfl) (hs_99.pt_at (i := 1) rfl) (by kernel_rfl) ?_
                                  refine SL.storeH (i := 2) (g := g_4) (off := 0) (v := .agg #[.int .i64 c.clean.row, .int .i64 c.clean.col, .int .u8 c.clean.rend, .bool c.clean.kept, .bool c.clean.wrap, .bool (x11 == 1), .int .i64 c.clean.g0, .int .i64 c.clean.g1, .int .i64 c.clean.g2, .int .i64 c.clean.g3, .int .i64 c.clean.gl, .int .i64 c.clean.gr, .int .i64 c.clean.sg, .int .i64 c.clean.pt, .int .i64 c.clean.pl, .int .i64 c.clean.pb, .int .i64 c.clean.pr, .int .i64 x7, .int .i64 x8, .int .i64 x9, .int .i64 x10, .int .i64 ((4096 * x2) + x3), .int .i64 x0, .bool (x1 == 1), .bool (x4 == 1), .int .i64 x5, .bool (x6 == 1), .int .i64 c.clean.page, .int .i64 c.clean.pages]) (L' := [pt g_12 ⟨[.int .i64 x0, .int .i64 x1, .int .i64 x2, .int .i64 x3, .int .i64 x4, .int .i64 x5, .int .i64 x6, .int .i64 x7, .int .i64 x8, .int .i64 x9, .int .i64 x10, .int .i64 x11] ++ pad_14⟩ 3, pt g_1 #[.int .i64 c.clean.row, .int .i64 c.clean.col, .int .u8 c.clean.rend, .bool c.clean.kept, .bool c.clean.wrap, .bool (x11 == 1), .int .i64 c.clean.g0, .int .i64 c.clean.g1, .int .i64 c.clean.g2, .int .i64 c.clean.g3, .int .i64 c.clean.gl, .int .i64 c.clean.gr, .int .i64 c.clean.sg, .int .i64 c.clean.pt, .int .i64 c.clean.pl, .int .i64 c.clean.pb, .int .i64 c.clean.pr, .int .i64 x7, .int .i64 x8, .int .i64 x9, .int .i64 x10, .int .i64 ((4096 * x2) + x3), .int .i64 x0, .bool (x1 == 1), .bool (x4 == 1), .int .i64 x5, .bool (x6 == 1), .int .i64 c.clean.page, .int .i64 c.clean.pages] 33, pt g_4 #[.int .i64 c.clean.row, .int .i64 c.clean.col, .int .u8 c.clean.rend, .bool c.clean.kept, .bool c.clean.wrap, .bool (x11 == 1), .int .i64 c.clean.g0, .int .i64 c.clean.g1, .int .i64 c.clean.g2, .int .i64 c.clean.g3, .int .i64 c.clean.gl, .int .i64 c.clean.gr, .int .i64 c.clean.sg, .int .i64 c.clean.pt, .int .i64 c.clean.pl, .int .i64 c.clean.pb, .int .i64 c.clean.pr, .int .i64 x7, .int .i64 x8, .int .i64 x9, .int .i64 x10, .int .i64 ((4096 * x2) + x3), .int .i64 x0, .bool (x1 == 1), .bool (x4 == 1), .int .i64 x5, .bool (x6 == 1), .int .i64 c.clean.page, .int .i64 c.clean.pages] 33, pt g_37 #[.int .i64 c.clean.pt, .int .i64 c.clean.pl, .int .i64 c.clean.pb, .int .i64 c.clean.pr] 29]) hs_99 rfl rfl rfl (by kernel_rfl) (by kernel_rfl) rfl (by kernel_rfl) (by kernel_rfl) rfl (by kernel_rfl) rfl (fun w_100 hs_101 => ?_)
                                  refine SL.v (.bool true) ?_
                                  refine SL.nil ?_
                                  refine CW.ret ?_
                                  repeat with_reducible first | refine PThen.ret ?_ | refine PBlock.ret ?_
                                  refine PRet.cellTmp (t := 4) (u := 5) (ty := 33) (g := g_4) (v := .agg #[.int .i64 c.clean.row, .int .i64 c.clean.col, .int .u8 c.clean.rend, .bool c.clean.kept, .bool c.clean.wrap, .bool (x11 == 1), .int .i64 c.clean.g0, .int .i64 c.clean.g1, .int .i64 c.clean.g2, .int .i64 c.clean.g3, .int .i64 c.clean.gl, .int .i64 c.clean.gr, .int .i64 c.clean.sg, .int .i64 c.clean.pt, .int .i64 c.clean.pl, .int .i64 c.clean.pb, .int .i64 c.clean.pr, .int .i64 x7, .int .i64 x8, .int .i64 x9, .int .i64 x10, .int .i64 ((4096 * x2) + x3), .int .i64 x0, .bool (x1 == 1), .bool (x4 == 1), .int .i64 x5, .bool (x6 == 1), .int .i64 c.clean.page, .int .i64 c.clean.pages]) (v' := .bool true) rfl rfl rfl (by kernel_rfl) (hs_101.pt_at (i := 2) rfl) (by kernel_rfl) (by kernel_rfl) ?_
                                  have hq : okL c.clean.pb c.clean.pr x0 x1 x2 x3 x4 x5 x6 x7 x8 x9 x10 x11 = true := by unfold okL; simp; omega
                                  exact ⟨by rw [hq]; rfl, hs_101.gr⟩
        · try rw [hb_21]
          have hqhb_21 := of_decide_eq_false hb_21
          refine SL.no true ?_
          refine SL.no true ?_
          refine SL.no true ?_
          refine SL.no true ?_
          refine SL.v (.bool true) ?_
          refine SL.v (.bool true) ?_
          refine SL.no true ?_
          refine SL.no true ?_
          refine SL.no true ?_
          refine SL.no true ?_
          refine SL.v (.bool true) ?_
          refine SL.v (.bool true) ?_
          refine SL.no true ?_
          refine SL.no true ?_
          refine SL.no true ?_
          refine SL.no true ?_
          refine SL.v (.bool true) ?_
          refine SL.v (.bool true) ?_
          refine SL.no true ?_
          refine SL.no true ?_
          refine SL.no true ?_
          refine SL.no true ?_
          refine SL.v (.bool true) ?_
          refine SL.v (.bool true) ?_
          refine SL.no true ?_
          refine SL.no true ?_
          refine SL.no true ?_
          refine SL.no true ?_
          refine SL.v (.bool true) ?_
          refine SL.nil ?_
          refine CW.cond_true (by kernel_rfl) ?_
          refine CW.seq ?_
          refine CW.region ?_
          refine SL.load (g := g_1) (off := 0) (v := .agg (cdA c.clean)) rfl rfl rfl (by kernel_rfl) (hs_17.pt_at (i := 1) rfl) (by kernel_rfl) ?_
          refine SL.storeH (i := 2) (g := g_4) (off := 0) (v := .agg (cdA c.clean)) (L' := [pt g_12 ⟨[.int .i64 x0, .int .i64 x1, .int .i64 x2, .int .i64 x3, .int .i64 x4, .int .i64 x5, .int .i64 x6, .int .i64 x7, .int .i64 x8, .int .i64 x9, .int .i64 x10, .int .i64 x11] ++ pad_14⟩ 3, pt g_1 (cdA c.clean) 33, pt g_4 (cdA c.clean) 33]) hs_17 rfl rfl rfl (by kernel_rfl) (by kernel_rfl) rfl (by kernel_rfl) (by kernel_rfl) rfl (by kernel_rfl) rfl (fun w_102 hs_103 => ?_)
          refine SL.v (.bool false) ?_
          refine SL.nil ?_
          refine CW.ret ?_
          repeat with_reducible first | refine PThen.ret ?_ | refine PBlock.ret ?_
          refine PRet.cellTmp (t := 4) (u := 5) (ty := 33) (g := g_4) (v := .agg (cdA c.clean)) (v' := .bool false) rfl rfl rfl (by kernel_rfl) (hs_103.pt_at (i := 2) rfl) (by kernel_rfl) (by kernel_rfl) ?_
          have hq : okL c.clean.pb c.clean.pr x0 x1 x2 x3 x4 x5 x6 x7 x8 x9 x10 x11 = false := by unfold okL; simp; omega
          exact ⟨by rw [hq]; rfl, hs_103.gr⟩
      · try rw [hb_20]
        have hqhb_20 := of_decide_eq_false hb_20
        refine SL.no false ?_
        refine SL.no false ?_
        refine SL.no false ?_
        refine SL.no false ?_
        refine SL.v (.bool false) ?_
        refine SL.v (.bool false) ?_
        refine SL.nil ?_
        refine CW.seq ?_
        refine CW.seq ?_
        refine CW.region ?_
        refine SL.v (.bool false) ?_
        refine SL.v (.bool true) ?_
        refine SL.v (.bool true) ?_
        refine SL.no true ?_
        refine SL.no true ?_
        refine SL.no true ?_
        refine SL.no true ?_
        refine SL.v (.bool true) ?_
        refine SL.v (.bool true) ?_
        refine SL.no true ?_
        refine SL.no true ?_
        refine SL.no true ?_
        refine SL.no true ?_
        refine SL.v (.bool true) ?_
        refine SL.v (.bool true) ?_
        refine SL.no true ?_
        refine SL.no true ?_
        refine SL.no true ?_
        refine SL.no true ?_
        refine SL.v (.bool true) ?_
        refine SL.v (.bool true) ?_
        refine SL.no true ?_
        refine SL.no true ?_
        refine SL.no true ?_
        refine SL.no true ?_
        refine SL.v (.bool true) ?_
        refine SL.v (.bool true) ?_
        refine SL.no true ?_
        refine SL.no true ?_
        refine SL.no true ?_
        refine SL.no true ?_
        refine SL.v (.bool true) ?_
        refine SL.nil ?_
        refine CW.cond_true (by kernel_rfl) ?_
        refine CW.seq ?_
        refine CW.region ?_
        refine SL.load (g := g_1) (off := 0) (v := .agg (cdA c.clean)) rfl rfl rfl (by kernel_rfl) (hs_17.pt_at (i := 1) rfl) (by kernel_rfl) ?_
        refine SL.storeH (i := 2) (g := g_4) (off := 0) (v := .agg (cdA c.clean)) (L' := [pt g_12 ⟨[.int .i64 x0, .int .i64 x1, .int .i64 x2, .int .i64 x3, .int .i64 x4, .int .i64 x5, .int .i64 x6, .int .i64 x7, .int .i64 x8, .int .i64 x9, .int .i64 x10, .int .i64 x11] ++ pad_14⟩ 3, pt g_1 (cdA c.clean) 33, pt g_4 (cdA c.clean) 33]) hs_17 rfl rfl rfl (by kernel_rfl) (by kernel_rfl) rfl (by kernel_rfl) (by kernel_rfl) rfl (by kernel_rfl) rfl (fun w_104 hs_105 => ?_)
        refine SL.v (.bool false) ?_
        refine SL.nil ?_
        refine CW.ret ?_
        repeat with_reducible first | refine PThen.ret ?_ | refine PBlock.ret ?_
        refine PRet.cellTmp (t := 4) (u := 5) (ty := 33) (g := g_4) (v := .agg (cdA c.clean)) (v' := .bool false) rfl rfl rfl (by kernel_rfl) (hs_105.pt_at (i := 2) rfl) (by kernel_rfl) (by kernel_rfl) ?_
        have hq : okL c.clean.pb c.clean.pr x0 x1 x2 x3 x4 x5 x6 x7 x8 x9 x10 x11 = false := by unfold okL; simp; omega
        exact ⟨by rw [hq]; rfl, hs_105.gr⟩
    · try rw [hb_19]
      have hqhb_19 := of_decide_eq_false hb_19
      refine SL.no false ?_
      refine SL.no false ?_
      refine SL.no false ?_
      refine SL.no false ?_
      refine SL.v (.bool false) ?_
      refine SL.v (.bool false) ?_
      refine SL.no false ?_
      refine SL.no false ?_
      refine SL.no false ?_
      refine SL.no false ?_
      refine SL.v (.bool false) ?_
      refine SL.v (.bool false) ?_
      refine SL.nil ?_
      refine CW.seq ?_
      refine CW.seq ?_
      refine CW.region ?_
      refine SL.v (.bool false) ?_
      refine SL.v (.bool true) ?_
      refine SL.v (.bool true) ?_
      refine SL.no true ?_
      refine SL.no true ?_
      refine SL.no true ?_
      refine SL.no true ?_
      refine SL.v (.bool true) ?_
      refine SL.v (.bool true) ?_
      refine SL.no true ?_
      refine SL.no true ?_
      refine SL.no true ?_
      refine SL.no true ?_
      refine SL.v (.bool true) ?_
      refine SL.v (.bool true) ?_
      refine SL.no true ?_
      refine SL.no true ?_
      refine SL.no true ?_
      refine SL.no true ?_
      refine SL.v (.bool true) ?_
      refine SL.v (.bool true) ?_
      refine SL.no true ?_
      refine SL.no true ?_
      refine SL.no true ?_
      refine SL.no true ?_
      refine SL.v (.bool true) ?_
      refine SL.v (.bool true) ?_
      refine SL.no true ?_
      refine SL.no true ?_
      refine SL.no true ?_
      refine SL.no true ?_
      refine SL.v (.bool true) ?_
      refine SL.nil ?_
      refine CW.cond_true (by kernel_rfl) ?_
      refine CW.seq ?_
      refine CW.region ?_
      refine SL.load (g := g_1) (off := 0) (v := .agg (cdA c.clean)) rfl rfl rfl (by kernel_rfl) (hs_17.pt_at (i := 1) rfl) (by kernel_rfl) ?_
      refine SL.storeH (i := 2) (g := g_4) (off := 0) (v := .agg (cdA c.clean)) (L' := [pt g_12 ⟨[.int .i64 x0, .int .i64 x1, .int .i64 x2, .int .i64 x3, .int .i64 x4, .int .i64 x5, .int .i64 x6, .int .i64 x7, .int .i64 x8, .int .i64 x9, .int .i64 x10, .int .i64 x11] ++ pad_14⟩ 3, pt g_1 (cdA c.clean) 33, pt g_4 (cdA c.clean) 33]) hs_17 rfl rfl rfl (by kernel_rfl) (by kernel_rfl) rfl (by kernel_rfl) (by kernel_rfl) rfl (by kernel_rfl) rfl (fun w_106 hs_107 => ?_)
      refine SL.v (.bool false) ?_
      refine SL.nil ?_
      refine CW.ret ?_
      repeat with_reducible first | refine PThen.ret ?_ | refine PBlock.ret ?_
      refine PRet.cellTmp (t := 4) (u := 5) (ty := 33) (g := g_4) (v := .agg (cdA c.clean)) (v' := .bool false) rfl rfl rfl (by kernel_rfl) (hs_107.pt_at (i := 2) rfl) (by kernel_rfl) (by kernel_rfl) ?_
      have hq : okL c.clean.pb c.clean.pr x0 x1 x2 x3 x4 x5 x6 x7 x8 x9 x10 x11 = false := by unfold okL; simp; omega
      exact ⟨by rw [hq]; rfl, hs_107.gr⟩
  · try rw [hb_18]
    have hqhb_18 := of_decide_eq_false hb_18
    refine SL.no false ?_
    refine SL.no false ?_
    refine SL.no false ?_
    refine SL.no false ?_
    refine SL.v (.bool false) ?_
    refine SL.v (.bool false) ?_
    refine SL.no false ?_
    refine SL.no false ?_
    refine SL.no false ?_
    refine SL.no false ?_
    refine SL.v (.bool false) ?_
    refine SL.v (.bool false) ?_
    refine SL.no false ?_
    refine SL.no false ?_
    refine SL.no false ?_
    refine SL.no false ?_
    refine SL.v (.bool false) ?_
    refine SL.v (.bool false) ?_
    refine SL.nil ?_
    refine CW.seq ?_
    refine CW.seq ?_
    refine CW.region ?_
    refine SL.v (.bool false) ?_
    refine SL.v (.bool true) ?_
    refine SL.v (.bool true) ?_
    refine SL.no true ?_
    refine SL.no true ?_
    refine SL.no true ?_
    refine SL.no true ?_
    refine SL.v (.bool true) ?_
    refine SL.v (.bool true) ?_
    refine SL.no true ?_
    refine SL.no true ?_
    refine SL.no true ?_
    refine SL.no true ?_
    refine SL.v (.bool true) ?_
    refine SL.v (.bool true) ?_
    refine SL.no true ?_
    refine SL.no true ?_
    refine SL.no true ?_
    refine SL.no true ?_
    refine SL.v (.bool true) ?_
    refine SL.v (.bool true) ?_
    refine SL.no true ?_
    refine SL.no true ?_
    refine SL.no true ?_
    refine SL.no true ?_
    refine SL.v (.bool true) ?_
    refine SL.v (.bool true) ?_
    refine SL.no true ?_
    refine SL.no true ?_
    refine SL.no true ?_
    refine SL.no true ?_
    refine SL.v (.bool true) ?_
    refine SL.nil ?_
    refine CW.cond_true (by kernel_rfl) ?_
    refine CW.seq ?_
    refine CW.region ?_
    refine SL.load (g := g_1) (off := 0) (v := .agg (cdA c.clean)) rfl rfl rfl (by kernel_rfl) (hs_17.pt_at (i := 1) rfl) (by kernel_rfl) ?_
    refine SL.storeH (i := 2) (g := g_4) (off := 0) (v := .agg (cdA c.clean)) (L' := [pt g_12 ⟨[.int .i64 x0, .int .i64 x1, .int .i64 x2, .int .i64 x3, .int .i64 x4, .int .i64 x5, .int .i64 x6, .int .i64 x7, .int .i64 x8, .int .i64 x9, .int .i64 x10, .int .i64 x11] ++ pad_14⟩ 3, pt g_1 (cdA c.clean) 33, pt g_4 (cdA c.clean) 33]) hs_17 rfl rfl rfl (by kernel_rfl) (by kernel_rfl) rfl (by kernel_rfl) (by kernel_rfl) rfl (by kernel_rfl) rfl (fun w_108 hs_109 => ?_)
    refine SL.v (.bool false) ?_
    refine SL.nil ?_
    refine CW.ret ?_
    repeat with_reducible first | refine PThen.ret ?_ | refine PBlock.ret ?_
    refine PRet.cellTmp (t := 4) (u := 5) (ty := 33) (g := g_4) (v := .agg (cdA c.clean)) (v' := .bool false) rfl rfl rfl (by kernel_rfl) (hs_109.pt_at (i := 2) rfl) (by kernel_rfl) (by kernel_rfl) ?_
    have hq : okL c.clean.pb c.clean.pr x0 x1 x2 x3 x4 x5 x6 x7 x8 x9 x10 x11 = false := by unfold okL; simp; omega
    exact ⟨by rw [hq]; rfl, hs_109.gr⟩
end Go.Proofs.YtfkecgkfcldffaaDoor
