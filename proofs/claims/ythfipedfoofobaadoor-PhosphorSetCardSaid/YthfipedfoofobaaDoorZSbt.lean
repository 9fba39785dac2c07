/-
  Boxes, walked (gen_sbt.py).
-/
import Derived.Test.YthfipedfoofobaaDoorZSr
namespace Go.Proofs.YthfipedfoofobaaDoor
set_option linter.unusedSimpArgs false
set_option linter.unusedVariables false
open Go.RowKit
set_option linter.unusedVariables false

def clipZ (n least most : Int) : Int := max least (min n most)
def emptyZ (t l b r : Int) : Bool := decide (b ≤ t) || decide (r ≤ l)
set_option maxRecDepth 100000 in
set_option maxHeartbeats 4000000 in
theorem clipz_any (n a b : Int) (w : World) : Calls Tryd.prog 25 #[.int .i64 n, .int .i64 a, .int .i64 b] w fun e w' => e = .returned (.int .i64 (clipZ n a b)) ∧ Gr w w' := by
  refine calls_sx (n := 12) (args := [.int .i64 n, .int .i64 a, .int .i64 b]) Tryd.func25 rfl rfl rfl ?_
  have hs0 := Bk.init w
  refine CW.seq ?_
  refine CW.region ?_
  refine SL.v (.int .i64 0) ?_
  refine SL.nil ?_
  refine CW.seq ?_
  refine CW.region ?_
  refine SL.v (.int .i64 a) ?_
  refine SL.v (.int .i64 n) ?_
  refine SL.v (.int .i64 b) ?_
  refine SL.val (v := .int .i64 (min n b)) (w' := w) rfl rfl (run_eqv (by kernel_rfl) (congrArg (Value.int .i64) (imin n b))) ?_
  refine SL.val (v := .int .i64 (max a (min n b))) (w' := w) rfl rfl (run_eqv (by kernel_rfl) (congrArg (Value.int .i64) (imax a (min n b)))) ?_
  refine SL.v (.int .i64 (max a (min n b))) ?_
  refine SL.nil ?_
  refine CW.ret ?_
  repeat with_reducible first | refine PThen.ret ?_ | refine PBlock.ret ?_
  refine PRet.tmp (t := 6) (v := .int .i64 (max a (min n b))) rfl rfl (by kernel_rfl) ?_
  exact ⟨rfl, hs0.gr⟩
set_option maxRecDepth 100000 in
set_option maxHeartbeats 4000000 in
theorem empty_any (aT al ab ar : Int) (w : World) : Calls Tryd.prog 37 #[.agg #[.int .i64 aT, .int .i64 al, .int .i64 ab, .int .i64 ar]] w fun e w' => e = .returned (.bool (emptyZ aT al ab ar)) ∧ Gr w w' := by
  refine calls_sx (n := 15) (args := [.agg #[.int .i64 aT, .int .i64 al, .int .i64 ab, .int .i64 ar]]) Tryd.func37 rfl rfl rfl ?_
  have hs0 := Bk.init w
  refine CW.seq ?_
  refine CW.region ?_
  refine SL.new (mk := fun g => .pointer (some ⟨g, 0, none⟩)) (C := #[.int .i64 aT, .int .i64 al, .int .i64 ab, .int .i64 ar]) (T := 29) hs0 rfl rfl (by kernel_rfl) (fun g_1 w_2 hs_3 => ?_)
  have hs_3 : Bk w w_2 [(g_1, .cells #[.int .i64 aT, .int .i64 al, .int .i64 ab, .int .i64 ar] 29 (0, 0))] := hs_3
  refine SL.v (.bool false) ?_
  refine SL.nil ?_
  refine CW.seq ?_
  refine CW.region ?_
  refine SL.v (.pointer (some ⟨g_1, 0, none⟩)) ?_
  refine SL.load (g := g_1) (off := 0) (v := .int .i64 aT) rfl rfl rfl (by kernel_rfl) (hs_3.all 0 g_1 _ rfl) (by kernel_rfl) ?_
  refine SL.v (.pointer (some ⟨g_1, 2, none⟩)) ?_
  refine SL.load (g := g_1) (off := 2) (v := .int .i64 ab) rfl rfl rfl (by kernel_rfl) (hs_3.all 0 g_1 _ rfl) (by kernel_rfl) ?_
  refine SL.v (.bool (decide (ab ≤ aT))) ?_
  refine SL.v (.bool (decide (ab ≤ aT))) ?_
  rcases Bool.eq_false_or_eq_true (decide (ab ≤ aT)) with hb_4 | hb_4
  · try rw [hb_4]
    have hqhb_4 := of_decide_eq_true hb_4
    refine SL.no true ?_
    refine SL.no true ?_
    refine SL.no true ?_
    refine SL.no true ?_
    refine SL.no true ?_
    refine SL.v (.bool true) ?_
    refine SL.v (.bool true) ?_
    refine SL.nil ?_
    refine CW.ret ?_
    repeat with_reducible first | refine PThen.ret ?_ | refine PBlock.ret ?_
    refine PRet.tmp (t := 2) (v := .bool true) rfl rfl (by kernel_rfl) ?_
    exact ⟨by unfold emptyZ; (try simp only [hb_4]); rfl, hs_3.gr⟩
  · try rw [hb_4]
    have hqhb_4 := of_decide_eq_false hb_4
    refine SL.go ?_
    refine SL.v (.pointer (some ⟨g_1, 1, none⟩)) ?_
    refine SL.go ?_
    refine SL.load (g := g_1) (off := 1) (v := .int .i64 al) rfl rfl rfl (by kernel_rfl) (hs_3.all 0 g_1 _ rfl) (by kernel_rfl) ?_
    refine SL.go ?_
    refine SL.v (.pointer (some ⟨g_1, 3, none⟩)) ?_
    refine SL.go ?_
    refine SL.load (g := g_1) (off := 3) (v := .int .i64 ar) rfl rfl rfl (by kernel_rfl) (hs_3.all 0 g_1 _ rfl) (by kernel_rfl) ?_
    refine SL.go ?_
    refine SL.v (.bool (decide (ar ≤ al))) ?_
    refine SL.v (.bool (decide (ar ≤ al))) ?_
    refine SL.v (.bool (decide (ar ≤ al))) ?_
    refine SL.nil ?_
    refine CW.ret ?_
    repeat with_reducible first | refine PThen.ret ?_ | refine PBlock.ret ?_
    refine PRet.tmp (t := 2) (v := .bool (decide (ar ≤ al))) rfl rfl (by kernel_rfl) ?_
    exact ⟨by unfold emptyZ; (try simp only [hb_4]); rfl, hs_3.gr⟩
set_option maxRecDepth 100000 in
set_option maxHeartbeats 4000000 in
theorem whole_any (r c : Int) (w : World) : Calls Tryd.prog 35 #[.int .i64 r, .int .i64 c] w fun e w' => e = .returned (.agg #[.int .i64 0, .int .i64 0, .int .i64 (max 0 r), .int .i64 (max 0 c)]) ∧ Gr w w' := by
  refine calls_sx (n := 10) (args := [.int .i64 r, .int .i64 c]) Tryd.func35 rfl rfl rfl ?_
  have hs0 := Bk.init w
  refine CW.seq ?_
  refine CW.region ?_
  refine SL.new (mk := fun g => .pointer (some ⟨g, 0, none⟩)) (C := #[.int .i64 0, .int .i64 0, .int .i64 0, .int .i64 0]) (T := 29) hs0 rfl rfl (by kernel_rfl) (fun g_1 w_2 hs_3 => ?_)
  have hs_3 : Bk w w_2 [(g_1, .cells #[.int .i64 0, .int .i64 0, .int .i64 0, .int .i64 0] 29 (0, 0))] := hs_3
  refine SL.nil ?_
  refine CW.seq ?_
  refine CW.region ?_
  refine SL.v (.int .i64 r) ?_
  refine SL.val (v := .int .i64 (max 0 r)) (w' := w_2) rfl rfl (run_eqv (by kernel_rfl) (congrArg (Value.int .i64) (imax 0 r))) ?_
  refine SL.v (.int .i64 c) ?_
  refine SL.val (v := .int .i64 (max 0 c)) (w' := w_2) rfl rfl (run_eqv (by kernel_rfl) (congrArg (Value.int .i64) (imax 0 c))) ?_
  refine SL.v (.agg #[.int .i64 0, .int .i64 0, .int .i64 (max 0 r), .int .i64 (max 0 c)]) ?_
  refine SL.store (i := 0) (g := g_1) (off := 0) (v := .agg #[.int .i64 0, .int .i64 0, .int .i64 (max 0 r), .int .i64 (max 0 c)]) (L' := [(g_1, .cells #[.int .i64 0, .int .i64 0, .int .i64 (max 0 r), .int .i64 (max 0 c)] 29 (0, 0))]) hs_3 rfl rfl rfl (by kernel_rfl) (by kernel_rfl) rfl (by kernel_rfl) (by kernel_rfl) rfl (by kernel_rfl) rfl (fun w_4 hs_5 => ?_)
  refine SL.nil ?_
  refine CW.ret ?_
  repeat with_reducible first | refine PThen.ret ?_ | refine PBlock.ret ?_
  refine PRet.cell (t := 4) (ty := 29) (g := g_1) (v := .agg #[.int .i64 0, .int .i64 0, .int .i64 (max 0 r), .int .i64 (max 0 c)]) rfl rfl (by kernel_rfl) (hs_5.all 0 g_1 _ rfl) (by kernel_rfl) ?_
  exact ⟨rfl, hs_5.gr⟩
theorem empty_t {t l b r : Int} (h : emptyZ t l b r = true) : b ≤ t ∨ r ≤ l := by unfold emptyZ at h; simpa using h
theorem empty_f {t l b r : Int} (h : emptyZ t l b r = false) : t < b ∧ l < r := by unfold emptyZ at h; simpa using h
def meetZ (aT al ab ar bT bl bb br : Int) : Int × Int × Int × Int := if (emptyZ aT al ab ar || emptyZ bT bl bb br || emptyZ (max aT bT) (max al bl) (min ab bb) (min ar br)) = true then (0, 0, 0, 0) else (max aT bT, max al bl, min ab bb, min ar br)
def b4 (m : Int × Int × Int × Int) : Value := .agg #[.int .i64 m.1, .int .i64 m.2.1, .int .i64 m.2.2.1, .int .i64 m.2.2.2]
def clampZ (t l b r row col : Int) : Int × Int := if emptyZ t l b r = true then (t, l) else (clipZ row t (b - 1), clipZ col l (r - 1))
def p2 (m : Int × Int) : Value := .agg #[.int .i64 m.1, .int .i64 m.2]
def I6 (x : Int) : Prop := -9223372036854775808 ≤ x ∧ x ≤ 9223372036854775807
set_option maxRecDepth 100000 in
set_option maxHeartbeats 4000000 in
theorem meet_any (aT al ab ar : Int) (bT bl bb br : Int) (w : World) : Calls Tryd.prog 36 #[.agg #[.int .i64 aT, .int .i64 al, .int .i64 ab, .int .i64 ar], .agg #[.int .i64 bT, .int .i64 bl, .int .i64 bb, .int .i64 br]] w fun e w' => e = .returned (b4 (meetZ aT al ab ar bT bl bb br)) ∧ Gr w w' := by
  refine calls_sx (n := 39) (args := [.agg #[.int .i64 aT, .int .i64 al, .int .i64 ab, .int .i64 ar], .agg #[.int .i64 bT, .int .i64 bl, .int .i64 bb, .int .i64 br]]) Tryd.func36 rfl rfl rfl ?_
  have hs0 := Bk.init w
  refine CW.seq ?_
  refine CW.region ?_
  refine SL.new (mk := fun g => .pointer (some ⟨g, 0, none⟩)) (C := #[.int .i64 aT, .int .i64 al, .int .i64 ab, .int .i64 ar]) (T := 29) hs0 rfl rfl (by kernel_rfl) (fun g_1 w_2 hs_3 => ?_)
  have hs_3 : Bk w w_2 [(g_1, .cells #[.int .i64 aT, .int .i64 al, .int .i64 ab, .int .i64 ar] 29 (0, 0))] := hs_3
  refine SL.new (mk := fun g => .pointer (some ⟨g, 0, none⟩)) (C := #[.int .i64 bT, .int .i64 bl, .int .i64 bb, .int .i64 br]) (T := 29) hs_3 rfl rfl (by kernel_rfl) (fun g_4 w_5 hs_6 => ?_)
  have hs_6 : Bk w w_5 [(g_1, .cells #[.int .i64 aT, .int .i64 al, .int .i64 ab, .int .i64 ar] 29 (0, 0)), (g_4, .cells #[.int .i64 bT, .int .i64 bl, .int .i64 bb, .int .i64 br] 29 (0, 0))] := hs_6
  refine SL.new (mk := fun g => .pointer (some ⟨g, 0, none⟩)) (C := #[.int .i64 0, .int .i64 0, .int .i64 0, .int .i64 0]) (T := 29) hs_6 rfl rfl (by kernel_rfl) (fun g_7 w_8 hs_9 => ?_)
  have hs_9 : Bk w w_8 [(g_1, .cells #[.int .i64 aT, .int .i64 al, .int .i64 ab, .int .i64 ar] 29 (0, 0)), (g_4, .cells #[.int .i64 bT, .int .i64 bl, .int .i64 bb, .int .i64 br] 29 (0, 0)), (g_7, .cells #[.int .i64 0, .int .i64 0, .int .i64 0, .int .i64 0] 29 (0, 0))] := hs_9
  refine SL.nil ?_
  refine CW.seq ?_
  refine CW.region ?_
  refine SL.v (.pointer (some ⟨g_1, 0, none⟩)) ?_
  refine SL.load (g := g_1) (off := 0) (v := .int .i64 aT) rfl rfl rfl (by kernel_rfl) (hs_9.all 0 g_1 _ rfl) (by kernel_rfl) ?_
  refine SL.v (.pointer (some ⟨g_4, 0, none⟩)) ?_
  refine SL.load (g := g_4) (off := 0) (v := .int .i64 bT) rfl rfl rfl (by kernel_rfl) (hs_9.all 1 g_4 _ rfl) (by kernel_rfl) ?_
  refine SL.val (v := .int .i64 (max aT bT)) (w' := w_8) rfl rfl (run_eqv (by kernel_rfl) (congrArg (Value.int .i64) (imax aT bT))) ?_
  refine SL.v (.pointer (some ⟨g_1, 1, none⟩)) ?_
  refine SL.load (g := g_1) (off := 1) (v := .int .i64 al) rfl rfl rfl (by kernel_rfl) (hs_9.all 0 g_1 _ rfl) (by kernel_rfl) ?_
  refine SL.v (.pointer (some ⟨g_4, 1, none⟩)) ?_
  refine SL.load (g := g_4) (off := 1) (v := .int .i64 bl) rfl rfl rfl (by kernel_rfl) (hs_9.all 1 g_4 _ rfl) (by kernel_rfl) ?_
  refine SL.val (v := .int .i64 (max al bl)) (w' := w_8) rfl rfl (run_eqv (by kernel_rfl) (congrArg (Value.int .i64) (imax al bl))) ?_
  refine SL.v (.pointer (some ⟨g_1, 2, none⟩)) ?_
  refine SL.load (g := g_1) (off := 2) (v := .int .i64 ab) rfl rfl rfl (by kernel_rfl) (hs_9.all 0 g_1 _ rfl) (by kernel_rfl) ?_
  refine SL.v (.pointer (some ⟨g_4, 2, none⟩)) ?_
  refine SL.load (g := g_4) (off := 2) (v := .int .i64 bb) rfl rfl rfl (by kernel_rfl) (hs_9.all 1 g_4 _ rfl) (by kernel_rfl) ?_
  refine SL.val (v := .int .i64 (min ab bb)) (w' := w_8) rfl rfl (run_eqv (by kernel_rfl) (congrArg (Value.int .i64) (imin ab bb))) ?_
  refine SL.v (.pointer (some ⟨g_1, 3, none⟩)) ?_
  refine SL.load (g := g_1) (off := 3) (v := .int .i64 ar) rfl rfl rfl (by kernel_rfl) (hs_9.all 0 g_1 _ rfl) (by kernel_rfl) ?_
  refine SL.v (.pointer (some ⟨g_4, 3, none⟩)) ?_
  refine SL.load (g := g_4) (off := 3) (v := .int .i64 br) rfl rfl rfl (by kernel_rfl) (hs_9.all 1 g_4 _ rfl) (by kernel_rfl) ?_
  refine SL.val (v := .int .i64 (min ar br)) (w' := w_8) rfl rfl (run_eqv (by kernel_rfl) (congrArg (Value.int .i64) (imin ar br))) ?_
  refine SL.v (.agg #[.int .i64 (max aT bT), .int .i64 (max al bl), .int .i64 (min ab bb), .int .i64 (min ar br)]) ?_
  refine SL.new (mk := fun g => .pointer (some ⟨g, 0, none⟩)) (C := #[.int .i64 0, .int .i64 0, .int .i64 0, .int .i64 0]) (T := 29) hs_9 rfl rfl (by kernel_rfl) (fun g_10 w_11 hs_12 => ?_)
  have hs_12 : Bk w w_11 [(g_1, .cells #[.int .i64 aT, .int .i64 al, .int .i64 ab, .int .i64 ar] 29 (0, 0)), (g_4, .cells #[.int .i64 bT, .int .i64 bl, .int .i64 bb, .int .i64 br] 29 (0, 0)), (g_7, .cells #[.int .i64 0, .int .i64 0, .int .i64 0, .int .i64 0] 29 (0, 0)), (g_10, .cells #[.int .i64 0, .int .i64 0, .int .i64 0, .int .i64 0] 29 (0, 0))] := hs_12
  refine SL.store (i := 3) (g := g_10) (off := 0) (v := .agg #[.int .i64 (max aT bT), .int .i64 (max al bl), .int .i64 (min ab bb), .int .i64 (min ar br)]) (L' := [(g_1, .cells #[.int .i64 aT, .int .i64 al, .int .i64 ab, .int .i64 ar] 29 (0, 0)), (g_4, .cells #[.int .i64 bT, .int .i64 bl, .int .i64 bb, .int .i64 br] 29 (0, 0)), (g_7, .cells #[.int .i64 0, .int .i64 0, .int .i64 0, .int .i64 0] 29 (0, 0)), (g_10, .cells #[.int .i64 (max aT bT), .int .i64 (max al bl), .int .i64 (min ab bb), .int .i64 (min ar br)] 29 (0, 0))]) hs_12 rfl rfl rfl (by kernel_rfl) (by kernel_rfl) rfl (by kernel_rfl) (by kernel_rfl) rfl (by kernel_rfl) rfl (fun w_13 hs_14 => ?_)
  refine SL.nil ?_
  refine CW.seq ?_
  refine CW.seq ?_
  refine CW.region ?_
  refine SL.load (g := g_1) (off := 0) (v := .agg #[.int .i64 aT, .int .i64 al, .int .i64 ab, .int .i64 ar]) rfl rfl rfl (by kernel_rfl) (hs_14.all 0 g_1 _ rfl) (by kernel_rfl) ?_
  refine SL.call (f := 37) (args := #[.agg #[.int .i64 aT, .int .i64 al, .int .i64 ab, .int .i64 ar]]) (w1 := w_13) rfl rfl (by kernel_rfl) (empty_any aT al ab ar w_13) ?_
  rintro x w_15 ⟨rfl, hc_16⟩
  refine ⟨.bool (emptyZ aT al ab ar), rfl, ?_⟩
  have hs_17 := hs_14.grow hc_16
  refine SL.v (.bool (emptyZ aT al ab ar)) ?_
  rcases Bool.eq_false_or_eq_true (emptyZ aT al ab ar) with hb_18 | hb_18
  · try rw [hb_18]
    have hqhb_18 := empty_t hb_18
    refine SL.no true ?_
    refine SL.no true ?_
    refine SL.v (.bool true) ?_
    refine SL.v (.bool true) ?_
    refine SL.no true ?_
    refine SL.no true ?_
    refine SL.v (.bool true) ?_
    refine SL.nil ?_
    refine CW.cond_true (by kernel_rfl) ?_
    refine CW.seq ?_
    refine CW.region ?_
    refine SL.v (.agg #[.int .i64 0, .int .i64 0, .int .i64 0, .int .i64 0]) ?_
    refine SL.store (i := 2) (g := g_7) (off := 0) (v := .agg #[.int .i64 0, .int .i64 0, .int .i64 0, .int .i64 0]) (L' := [(g_1, .cells #[.int .i64 aT, .int .i64 al, .int .i64 ab, .int .i64 ar] 29 (0, 0)), (g_4, .cells #[.int .i64 bT, .int .i64 bl, .int .i64 bb, .int .i64 br] 29 (0, 0)), (g_7, .cells #[.int .i64 0, .int .i64 0, .int .i64 0, .int .i64 0] 29 (0, 0)), (g_10, .cells #[.int .i64 (max aT bT), .int .i64 (max al bl), .int .i64 (min ab bb), .int .i64 (min ar br)] 29 (0, 0))]) hs_17 rfl rfl rfl (by kernel_rfl) (by kernel_rfl) rfl (by kernel_rfl) (by kernel_rfl) rfl (by kernel_rfl) rfl (fun w_19 hs_20 => ?_)
    refine SL.nil ?_
    refine CW.ret ?_
    repeat with_reducible first | refine PThen.ret ?_ | refine PBlock.ret ?_
    refine PRet.cell (t := 4) (ty := 29) (g := g_7) (v := .agg #[.int .i64 0, .int .i64 0, .int .i64 0, .int .i64 0]) rfl rfl (by kernel_rfl) (hs_20.all 2 g_7 _ rfl) (by kernel_rfl) ?_
    exact ⟨by unfold b4 meetZ; simp [hb_18], hs_20.gr⟩
  · try rw [hb_18]
    have hqhb_18 := empty_f hb_18
    refine SL.go ?_
    refine SL.load (g := g_4) (off := 0) (v := .agg #[.int .i64 bT, .int .i64 bl, .int .i64 bb, .int .i64 br]) rfl rfl rfl (by kernel_rfl) (hs_17.all 1 g_4 _ rfl) (by kernel_rfl) ?_
    refine SL.go ?_
    refine SL.call (f := 37) (args := #[.agg #[.int .i64 bT, .int .i64 bl, .int .i64 bb, .int .i64 br]]) (w1 := w_15) rfl rfl (by kernel_rfl) (empty_any bT bl bb br w_15) ?_
    rintro x w_21 ⟨rfl, hc_22⟩
    refine ⟨.bool (emptyZ bT bl bb br), rfl, ?_⟩
    have hs_23 := hs_17.grow hc_22
    refine SL.v (.bool (emptyZ bT bl bb br)) ?_
    refine SL.v (.bool (emptyZ bT bl bb br)) ?_
    rcases Bool.eq_false_or_eq_true (emptyZ bT bl bb br) with hb_24 | hb_24
    · try rw [hb_24]
      have hqhb_24 := empty_t hb_24
      refine SL.no true ?_
      refine SL.no true ?_
      refine SL.v (.bool true) ?_
      refine SL.nil ?_
      refine CW.cond_true (by kernel_rfl) ?_
      refine CW.seq ?_
      refine CW.region ?_
      refine SL.v (.agg #[.int .i64 0, .int .i64 0, .int .i64 0, .int .i64 0]) ?_
      refine SL.store (i := 2) (g := g_7) (off := 0) (v := .agg #[.int .i64 0, .int .i64 0, .int .i64 0, .int .i64 0]) (L' := [(g_1, .cells #[.int .i64 aT, .int .i64 al, .int .i64 ab, .int .i64 ar] 29 (0, 0)), (g_4, .cells #[.int .i64 bT, .int .i64 bl, .int .i64 bb, .int .i64 br] 29 (0, 0)), (g_7, .cells #[.int .i64 0, .int .i64 0, .int .i64 0, .int .i64 0] 29 (0, 0)), (g_10, .cells #[.int .i64 (max aT bT), .int .i64 (max al bl), .int .i64 (min ab bb), .int .i64 (min ar br)] 29 (0, 0))]) hs_23 rfl rfl rfl (by kernel_rfl) (by kernel_rfl) rfl (by kernel_rfl) (by kernel_rfl) rfl (by kernel_rfl) rfl (fun w_25 hs_26 => ?_)
      refine SL.nil ?_
      refine CW.ret ?_
      repeat with_reducible first | refine PThen.ret ?_ | refine PBlock.ret ?_
      refine PRet.cell (t := 4) (ty := 29) (g := g_7) (v := .agg #[.int .i64 0, .int .i64 0, .int .i64 0, .int .i64 0]) rfl rfl (by kernel_rfl) (hs_26.all 2 g_7 _ rfl) (by kernel_rfl) ?_
      exact ⟨by unfold b4 meetZ; simp [hb_18, hb_24], hs_26.gr⟩
    · try rw [hb_24]
      have hqhb_24 := empty_f hb_24
      refine SL.go ?_
      refine SL.load (g := g_10) (off := 0) (v := .agg #[.int .i64 (max aT bT), .int .i64 (max al bl), .int .i64 (min ab bb), .int .i64 (min ar br)]) rfl rfl rfl (by kernel_rfl) (hs_23.all 3 g_10 _ rfl) (by kernel_rfl) ?_
      refine SL.go ?_
      refine SL.call (f := 37) (args := #[.agg #[.int .i64 (max aT bT), .int .i64 (max al bl), .int .i64 (min ab bb), .int .i64 (min ar br)]]) (w1 := w_21) rfl rfl (by kernel_rfl) (empty_any (max aT bT) (max al bl) (min ab bb) (min ar br) w_21) ?_
      rintro x w_27 ⟨rfl, hc_28⟩
      refine ⟨.bool (emptyZ (max aT bT) (max al bl) (min ab bb) (min ar br)), rfl, ?_⟩
      have hs_29 := hs_23.grow hc_28
      refine SL.v (.bool (emptyZ (max aT bT) (max al bl) (min ab bb) (min ar br))) ?_
      refine SL.nil ?_
      rcases Bool.eq_false_or_eq_true (emptyZ (max aT bT) (max al bl) (min ab bb) (min ar br)) with hb_30 | hb_30
      · try rw [hb_30]
        have hqhb_30 := empty_t hb_30
        refine CW.cond_true (by kernel_rfl) ?_
        refine CW.seq ?_
        refine CW.region ?_
        refine SL.v (.agg #[.int .i64 0, .int .i64 0, .int .i64 0, .int .i64 0]) ?_
        refine SL.store (i := 2) (g := g_7) (off := 0) (v := .agg #[.int .i64 0, .int .i64 0, .int .i64 0, .int .i64 0]) (L' := [(g_1, .cells #[.int .i64 aT, .int .i64 al, .int .i64 ab, .int .i64 ar] 29 (0, 0)), (g_4, .cells #[.int .i64 bT, .int .i64 bl, .int .i64 bb, .int .i64 br] 29 (0, 0)), (g_7, .cells #[.int .i64 0, .int .i64 0, .int .i64 0, .int .i64 0] 29 (0, 0)), (g_10, .cells #[.int .i64 (max aT bT), .int .i64 (max al bl), .int .i64 (min ab bb), .int .i64 (min ar br)] 29 (0, 0))]) hs_29 rfl rfl rfl (by kernel_rfl) (by kernel_rfl) rfl (by kernel_rfl) (by kernel_rfl) rfl (by kernel_rfl) rfl (fun w_31 hs_32 => ?_)
        refine SL.nil ?_
        refine CW.ret ?_
        repeat with_reducible first | refine PThen.ret ?_ | refine PBlock.ret ?_
        refine PRet.cell (t := 4) (ty := 29) (g := g_7) (v := .agg #[.int .i64 0, .int .i64 0, .int .i64 0, .int .i64 0]) rfl rfl (by kernel_rfl) (hs_32.all 2 g_7 _ rfl) (by kernel_rfl) ?_
        exact ⟨by unfold b4 meetZ; simp [hb_18, hb_24, hb_30], hs_32.gr⟩
      · try rw [hb_30]
        have hqhb_30 := empty_f hb_30
        refine CW.cond_false (by kernel_rfl) ?_
        refine CW.skip ?_
        refine CW.seq ?_
        refine CW.region ?_
        refine SL.load (g := g_10) (off := 0) (v := .agg #[.int .i64 (max aT bT), .int .i64 (max al bl), .int .i64 (min ab bb), .int .i64 (min ar br)]) rfl rfl rfl (by kernel_rfl) (hs_29.all 3 g_10 _ rfl) (by kernel_rfl) ?_
        refine SL.store (i := 2) (g := g_7) (off := 0) (v := .agg #[.int .i64 (max aT bT), .int .i64 (max al bl), .int .i64 (min ab bb), .int .i64 (min ar br)]) (L' := [(g_1, .cells #[.int .i64 aT, .int .i64 al, .int .i64 ab, .int .i64 ar] 29 (0, 0)), (g_4, .cells #[.int .i64 bT, .int .i64 bl, .int .i64 bb, .int .i64 br] 29 (0, 0)), (g_7, .cells #[.int .i64 (max aT bT), .int .i64 (max al bl), .int .i64 (min ab bb), .int .i64 (min ar br)] 29 (0, 0)), (g_10, .cells #[.int .i64 (max aT bT), .int .i64 (max al bl), .int .i64 (min ab bb), .int .i64 (min ar br)] 29 (0, 0))]) hs_29 rfl rfl rfl (by kernel_rfl) (by kernel_rfl) rfl (by kernel_rfl) (by kernel_rfl) rfl (by kernel_rfl) rfl (fun w_33 hs_34 => ?_)
        refine SL.nil ?_
        refine CW.ret ?_
        repeat with_reducible first | refine PThen.ret ?_ | refine PBlock.ret ?_
        refine PRet.cell (t := 4) (ty := 29) (g := g_7) (v := .agg #[.int .i64 (max aT bT), .int .i64 (max al bl), .int .i64 (min ab bb), .int .i64 (min ar br)]) rfl rfl (by kernel_rfl) (hs_34.all 2 g_7 _ rfl) (by kernel_rfl) ?_
        exact ⟨by unfold b4 meetZ; simp [hb_18, hb_24, hb_30], hs_34.gr⟩
set_option maxRecDepth 100000 in
set_option maxHeartbeats 4000000 in
theorem clamp_any (t l b r row col : Int) (w : World) (ht : I6 t ∧ I6 l ∧ I6 b ∧ I6 r) : Calls Tryd.prog 21 #[.agg #[.int .i64 t, .int .i64 l, .int .i64 b, .int .i64 r], .agg #[.int .i64 row, .int .i64 col]] w fun e w' => e = .returned (p2 (clampZ t l b r row col)) ∧ Gr w w' := by
  obtain ⟨⟨ht1, ht2⟩, ⟨hl1, hl2⟩, ⟨hb1, hb2⟩, hr1, hr2⟩ := ht
  refine calls_sx (n := 29) (args := [.agg #[.int .i64 t, .int .i64 l, .int .i64 b, .int .i64 r], .agg #[.int .i64 row, .int .i64 col]]) Tryd.func21 rfl rfl rfl ?_
  have hs0 := Bk.init w
  refine CW.seq ?_
  refine CW.region ?_
  refine SL.new (mk := fun g => .pointer (some ⟨g, 0, none⟩)) (C := #[.int .i64 t, .int .i64 l, .int .i64 b, .int .i64 r]) (T := 29) hs0 rfl rfl (by kernel_rfl) (fun g_1 w_2 hs_3 => ?_)
  have hs_3 : Bk w w_2 [(g_1, .cells #[.int .i64 t, .int .i64 l, .int .i64 b, .int .i64 r] 29 (0, 0))] := hs_3
  refine SL.new (mk := fun g => .pointer (some ⟨g, 0, none⟩)) (C := #[.int .i64 row, .int .i64 col]) (T := 35) hs_3 rfl rfl (by kernel_rfl) (fun g_4 w_5 hs_6 => ?_)
  have hs_6 : Bk w w_5 [(g_1, .cells #[.int .i64 t, .int .i64 l, .int .i64 b, .int .i64 r] 29 (0, 0)), (g_4, .cells #[.int .i64 row, .int .i64 col] 35 (0, 0))] := hs_6
  refine SL.new (mk := fun g => .pointer (some ⟨g, 0, none⟩)) (C := #[.int .i64 0, .int .i64 0]) (T := 35) hs_6 rfl rfl (by kernel_rfl) (fun g_7 w_8 hs_9 => ?_)
  have hs_9 : Bk w w_8 [(g_1, .cells #[.int .i64 t, .int .i64 l, .int .i64 b, .int .i64 r] 29 (0, 0)), (g_4, .cells #[.int .i64 row, .int .i64 col] 35 (0, 0)), (g_7, .cells #[.int .i64 0, .int .i64 0] 35 (0, 0))] := hs_9
  refine SL.nil ?_
  refine CW.seq ?_
  refine CW.seq ?_
  refine CW.region ?_
  refine SL.load (g := g_1) (off := 0) (v := .agg #[.int .i64 t, .int .i64 l, .int .i64 b, .int .i64 r]) rfl rfl rfl (by kernel_rfl) (hs_9.all 0 g_1 _ rfl) (by kernel_rfl) ?_
  refine SL.call (f := 37) (args := #[.agg #[.int .i64 t, .int .i64 l, .int .i64 b, .int .i64 r]]) (w1 := w_8) rfl rfl (by kernel_rfl) (empty_any t l b r w_8) ?_
  rintro x w_10 ⟨rfl, hc_11⟩
  refine ⟨.bool (emptyZ t l b r), rfl, ?_⟩
  have hs_12 := hs_9.grow hc_11
  refine SL.nil ?_
  rcases Bool.eq_false_or_eq_true (emptyZ t l b r) with hb_13 | hb_13
  · try rw [hb_13]
    have hqhb_13 := empty_t hb_13
    refine CW.cond_true (by kernel_rfl) ?_
    refine CW.seq ?_
    refine CW.region ?_
    refine SL.v (.pointer (some ⟨g_1, 0, none⟩)) ?_
    refine SL.load (g := g_1) (off := 0) (v := .int .i64 t) rfl rfl rfl (by kernel_rfl) (hs_12.all 0 g_1 _ rfl) (by kernel_rfl) ?_
    refine SL.v (.pointer (some ⟨g_1, 1, none⟩)) ?_
    refine SL.load (g := g_1) (off := 1) (v := .int .i64 l) rfl rfl rfl (by kernel_rfl) (hs_12.all 0 g_1 _ rfl) (by kernel_rfl) ?_
    refine SL.v (.agg #[.int .i64 t, .int .i64 l]) ?_
    refine SL.store (i := 2) (g := g_7) (off := 0) (v := .agg #[.int .i64 t, .int .i64 l]) (L' := [(g_1, .cells #[.int .i64 t, .int .i64 l, .int .i64 b, .int .i64 r] 29 (0, 0)), (g_4, .cells #[.int .i64 row, .int .i64 col] 35 (0, 0)), (g_7, .cells #[.int .i64 t, .int .i64 l] 35 (0, 0))]) hs_12 rfl rfl rfl (by kernel_rfl) (by kernel_rfl) rfl (by kernel_rfl) (by kernel_rfl) rfl (by kernel_rfl) rfl (fun w_14 hs_15 => ?_)
    refine SL.nil ?_
    refine CW.ret ?_
    repeat with_reducible first | refine PThen.ret ?_ | refine PBlock.ret ?_
    refine PRet.cell (t := 4) (ty := 35) (g := g_7) (v := .agg #[.int .i64 t, .int .i64 l]) rfl rfl (by kernel_rfl) (hs_15.all 2 g_7 _ rfl) (by kernel_rfl) ?_
    exact ⟨by unfold p2 clampZ; simp [hb_13], hs_15.gr⟩
  · try rw [hb_13]
    have hqhb_13 := empty_f hb_13
    refine CW.cond_false (by kernel_rfl) ?_
    refine CW.skip ?_
    refine CW.seq ?_
    have HGR : GrL [fun v _ => v = .pointer (some ⟨g_4, 0, none⟩), fun v _ => v = .int .i64 row, fun v _ => v = .pointer (some ⟨g_1, 0, none⟩), fun v _ => v = .int .i64 t, fun v _ => v = .pointer (some ⟨g_1, 2, none⟩), fun v _ => v = .int .i64 b, fun v _ => v = .int .i64 (b - 1), fun v _ => v = .int .i64 (clipZ row t (b - 1)), fun v _ => v = .pointer (some ⟨g_4, 1, none⟩), fun v _ => v = .int .i64 col, fun v _ => v = .pointer (some ⟨g_1, 1, none⟩), fun v _ => v = .int .i64 l, fun v _ => v = .pointer (some ⟨g_1, 3, none⟩), fun v _ => v = .int .i64 r, fun v _ => v = .int .i64 (r - 1)] := ⟨fun _ _ _ _ h => h, ⟨fun _ _ _ _ h => h, ⟨fun _ _ _ _ h => h, ⟨fun _ _ _ _ h => h, ⟨fun _ _ _ _ h => h, ⟨fun _ _ _ _ h => h, ⟨fun _ _ _ _ h => h, ⟨fun _ _ _ _ h => h, ⟨fun _ _ _ _ h => h, ⟨fun _ _ _ _ h => h, ⟨fun _ _ _ _ h => h, ⟨fun _ _ _ _ h => h, ⟨fun _ _ _ _ h => h, ⟨fun _ _ _ _ h => h, ⟨fun _ _ _ _ h => h, trivial⟩⟩⟩⟩⟩⟩⟩⟩⟩⟩⟩⟩⟩⟩⟩
    refine CW.draw 15 (FW [fun v _ => v = .pointer (some ⟨g_4, 0, none⟩), fun v _ => v = .int .i64 row, fun v _ => v = .pointer (some ⟨g_1, 0, none⟩), fun v _ => v = .int .i64 t, fun v _ => v = .pointer (some ⟨g_1, 2, none⟩), fun v _ => v = .int .i64 b, fun v _ => v = .int .i64 (b - 1), fun v _ => v = .int .i64 (clipZ row t (b - 1)), fun v _ => v = .pointer (some ⟨g_4, 1, none⟩), fun v _ => v = .int .i64 col, fun v _ => v = .pointer (some ⟨g_1, 1, none⟩), fun v _ => v = .int .i64 l, fun v _ => v = .pointer (some ⟨g_1, 3, none⟩), fun v _ => v = .int .i64 r, fun v _ => v = .int .i64 (r - 1)]) (fun W => Bk w W [(g_1, .cells #[.int .i64 t, .int .i64 l, .int .i64 b, .int .i64 r] 29 (0, 0)), (g_4, .cells #[.int .i64 row, .int .i64 col] 35 (0, 0)), (g_7, .cells #[.int .i64 0, .int .i64 0] 35 (0, 0))] ∧ Gr w_10 W) (by kernel_rfl) (by kernel_rfl) (by kernel_rfl) (by kernel_rfl) (by kernel_rfl) ⟨hs_12.drew, (Gr.refl _).drew⟩ ?_ ?_
    · refine ⟨?_, ⟨?_, ⟨?_, ⟨?_, ⟨?_, ⟨?_, ⟨?_, ⟨?_, ⟨?_, ⟨?_, ⟨?_, ⟨?_, ⟨?_, ⟨?_, ⟨?_, trivial⟩⟩⟩⟩⟩⟩⟩⟩⟩⟩⟩⟩⟩⟩⟩
      · intro L ys W hB hF hP K hK
        show OpE _ _ _ W K
        exact OpE.val (.pointer (some ⟨g_4, 0, none⟩)) W (by kernel_rfl) (hK _ W hB rfl (fun _ _ h => h))
      · intro L ys W hB hF hP K hK
        show OpE _ _ _ W K
        exact OpE.known (j := 0) (v := .pointer (some ⟨g_4, 0, none⟩)) (hF 0 (hP.1 rfl)) (OpE.load (g := g_4) (off := 0) (v := .int .i64 row) rfl (by kernel_rfl) (hB.1.all 1 g_4 _ rfl) (by kernel_rfl) (hK _ W hB rfl (fun _ _ h => h)))
      · intro L ys W hB hF hP K hK
        show OpE _ _ _ W K
        exact OpE.val (.pointer (some ⟨g_1, 0, none⟩)) W (by kernel_rfl) (hK _ W hB rfl (fun _ _ h => h))
      · intro L ys W hB hF hP K hK
        show OpE _ _ _ W K
        exact OpE.known (j := 2) (v := .pointer (some ⟨g_1, 0, none⟩)) (hF 2 (hP.1 rfl)) (OpE.load (g := g_1) (off := 0) (v := .int .i64 t) rfl (by kernel_rfl) (hB.1.all 0 g_1 _ rfl) (by kernel_rfl) (hK _ W hB rfl (fun _ _ h => h)))
      · intro L ys W hB hF hP K hK
        show OpE _ _ _ W K
        exact OpE.val (.pointer (some ⟨g_1, 2, none⟩)) W (by kernel_rfl) (hK _ W hB rfl (fun _ _ h => h))
      · intro L ys W hB hF hP K hK
        show OpE _ _ _ W K
        exact OpE.known (j := 4) (v := .pointer (some ⟨g_1, 2, none⟩)) (hF 4 (hP.1 rfl)) (OpE.load (g := g_1) (off := 2) (v := .int .i64 b) rfl (by kernel_rfl) (hB.1.all 0 g_1 _ rfl) (by kernel_rfl) (hK _ W hB rfl (fun _ _ h => h)))
      · intro L ys W hB hF hP K hK
        show OpE _ _ _ W K
        exact OpE.known (j := 5) (v := .int .i64 b) (hF 5 (hP.1 rfl)) (OpE.val (.int .i64 (b - 1)) W (by have hw : IntKind.i64.wrap (b - 1) = b - 1 := IntWalk.i64_in _ (by omega); exact run_eqv (by kernel_rfl) (congrArg (fun z => Value.int .i64 z) hw)) (hK _ W hB rfl (fun _ _ h => h)))
      · intro L ys W hB hF hP K hK
        show OpE _ _ _ W K
        exact OpE.known (j := 1) (v := .int .i64 row) (hF 1 (hP.1 rfl)) (OpE.known (j := 3) (v := .int .i64 t) (hF 3 (hP.2.1 rfl)) (OpE.known (j := 6) (v := .int .i64 (b - 1)) (hF 6 (hP.2.2.1 rfl)) (OpE.call 25 #[.int .i64 row, .int .i64 t, .int .i64 (b - 1)] W _ (by kernel_rfl) (clipz_any row t (b - 1) W) (fun x w' hx => by obtain ⟨rfl, hg⟩ := hx; exact ⟨_, rfl, hK _ w' ⟨hB.1.grow hg, hB.2.trans hg⟩ rfl (fun _ _ h => FW.gr HGR hg h)⟩))))
      · intro L ys W hB hF hP K hK
        show OpE _ _ _ W K
        exact OpE.val (.pointer (some ⟨g_4, 1, none⟩)) W (by kernel_rfl) (hK _ W hB rfl (fun _ _ h => h))
      · intro L ys W hB hF hP K hK
        show OpE _ _ _ W K
        exact OpE.known (j := 8) (v := .pointer (some ⟨g_4, 1, none⟩)) (hF 8 (hP.1 rfl)) (OpE.load (g := g_4) (off := 1) (v := .int .i64 col) rfl (by kernel_rfl) (hB.1.all 1 g_4 _ rfl) (by kernel_rfl) (hK _ W hB rfl (fun _ _ h => h)))
      · intro L ys W hB hF hP K hK
        show OpE _ _ _ W K
        exact OpE.val (.pointer (some ⟨g_1, 1, none⟩)) W (by kernel_rfl) (hK _ W hB rfl (fun _ _ h => h))
      · intro L ys W hB hF hP K hK
        show OpE _ _ _ W K
        exact OpE.known (j := 10) (v := .pointer (some ⟨g_1, 1, none⟩)) (hF 10 (hP.1 rfl)) (OpE.load (g := g_1) (off := 1) (v := .int .i64 l) rfl (by kernel_rfl) (hB.1.all 0 g_1 _ rfl) (by kernel_rfl) (hK _ W hB rfl (fun _ _ h => h)))
      · intro L ys W hB hF hP K hK
        show OpE _ _ _ W K
        exact OpE.val (.pointer (some ⟨g_1, 3, none⟩)) W (by kernel_rfl) (hK _ W hB rfl (fun _ _ h => h))
      · intro L ys W hB hF hP K hK
        show OpE _ _ _ W K
        exact OpE.known (j := 12) (v := .pointer (some ⟨g_1, 3, none⟩)) (hF 12 (hP.1 rfl)) (OpE.load (g := g_1) (off := 3) (v := .int .i64 r) rfl (by kernel_rfl) (hB.1.all 0 g_1 _ rfl) (by kernel_rfl) (hK _ W hB rfl (fun _ _ h => h)))
      · intro L ys W hB hF hP K hK
        show OpE _ _ _ W K
        exact OpE.known (j := 13) (v := .int .i64 r) (hF 13 (hP.1 rfl)) (OpE.val (.int .i64 (r - 1)) W (by have hw : IntKind.i64.wrap (r - 1) = r - 1 := IntWalk.i64_in _ (by omega); exact run_eqv (by kernel_rfl) (congrArg (fun z => Value.int .i64 z) hw)) (hK _ W hB rfl (fun _ _ h => h)))
    · intro ys_19 w_16 hs_17 hF_18
      have hs_17 : Bk w w_16 [(g_1, .cells #[.int .i64 t, .int .i64 l, .int .i64 b, .int .i64 r] 29 (0, 0)), (g_4, .cells #[.int .i64 row, .int .i64 col] 35 (0, 0)), (g_7, .cells #[.int .i64 0, .int .i64 0] 35 (0, 0))] := hs_17.1
      refine SL.knownY (j := 7) (v := .int .i64 (clipZ row t (b - 1))) (show ys_19 7 = .int .i64 (clipZ row t (b - 1)) from hF_18 7 (by decide)) (SL.knownY (j := 9) (v := .int .i64 col) (show ys_19 9 = .int .i64 col from hF_18 9 (by decide)) (SL.knownY (j := 11) (v := .int .i64 l) (show ys_19 11 = .int .i64 l from hF_18 11 (by decide)) (SL.knownY (j := 14) (v := .int .i64 (r - 1)) (show ys_19 14 = .int .i64 (r - 1) from hF_18 14 (by decide)) (?_))))
      clear hF_18 HGR
      refine SL.call (f := 25) (args := #[.int .i64 col, .int .i64 l, .int .i64 (r - 1)]) (w1 := w_16) rfl rfl (by kernel_rfl) (clipz_any col l (r - 1) w_16) ?_
      rintro x w_20 ⟨rfl, hc_21⟩
      refine ⟨.int .i64 (clipZ col l (r - 1)), rfl, ?_⟩
      have hs_22 := hs_17.grow hc_21
      refine SL.v (.agg #[.int .i64 (clipZ row t (b - 1)), .int .i64 (clipZ col l (r - 1))]) ?_
      refine SL.store (i := 2) (g := g_7) (off := 0) (v := .agg #[.int .i64 (clipZ row t (b - 1)), .int .i64 (clipZ col l (r - 1))]) (L' := [(g_1, .cells #[.int .i64 t, .int .i64 l, .int .i64 b, .int .i64 r] 29 (0, 0)), (g_4, .cells #[.int .i64 row, .int .i64 col] 35 (0, 0)), (g_7, .cells #[.int .i64 (clipZ row t (b - 1)), .int .i64 (clipZ col l (r - 1))] 35 (0, 0))]) hs_22 rfl rfl rfl (by kernel_rfl) (by kernel_rfl) rfl (by kernel_rfl) (by kernel_rfl) rfl (by kernel_rfl) rfl (fun w_23 hs_24 => ?_)
      refine SL.nil ?_
      refine CW.ret ?_
      repeat with_reducible first | refine PThen.ret ?_ | refine PBlock.ret ?_
      refine PRet.cell (t := 4) (ty := 35) (g := g_7) (v := .agg #[.int .i64 (clipZ row t (b - 1)), .int .i64 (clipZ col l (r - 1))]) rfl rfl (by kernel_rfl) (hs_24.all 2 g_7 _ rfl) (by kernel_rfl) ?_
      exact ⟨by unfold p2 clampZ; simp [hb_13], hs_24.gr⟩
end Go.Proofs.YthfipedfoofobaaDoor
