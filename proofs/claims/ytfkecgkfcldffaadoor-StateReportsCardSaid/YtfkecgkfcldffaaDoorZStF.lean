/-
  The numbers of a state, both texts, walked (gen_stf.py).
-/
import Derived.Test.YtfkecgkfcldffaaDoorZStE
import Derived.Test.YtfkecgkfcldffaaDoorZTkD
namespace Go.Proofs.YtfkecgkfcldffaaDoor
set_option linter.unusedSimpArgs false
set_option linter.unusedVariables false
open Go.RowKit
set_option linter.unusedVariables false

def flagZ (b : Bool) : Int := bif b then 1 else 0
theorem rd_new {w : World} {g n : Nat} {l : List Int} {T : TypeId} {cs : List Value} (hb : w.heap[g]? = some (.cells cs.toArray T (0, 0))) (hc : cs = icells l) (hn : l.length = n) : Rd w (some ⟨g, 0, none⟩) n (icells l) := by
  subst hc
  refine ⟨by simpa [icells] using hn, .inr ⟨g, 0, rfl, fun i u hu => ?_⟩⟩
  have := cell_of_row hb i u (by simpa using hu)
  simpa using this
set_option maxRecDepth 100000 in
set_option maxHeartbeats 4000000 in
theorem flag_any (b : Bool) (w : World) : Calls Tryd.prog 44 #[.bool b] w fun e w' => e = .returned (.int .i64 (flagZ b)) ∧ Gr w w' := by
  refine calls_sx (n := 4) (args := [.bool b]) Tryd.func44 rfl rfl rfl ?_
  have hs0 := Bk.init w
  refine CW.seq ?_
  refine CW.region ?_
  refine SL.v (.int .i64 0) ?_
  refine SL.nil ?_
  refine CW.seq ?_
  refine CW.seq ?_
  refine CW.region ?_
  refine SL.v (.bool b) ?_
  refine SL.nil ?_
  rcases Bool.eq_false_or_eq_true (b) with hb_1 | hb_1
  · try rw [hb_1]
    refine CW.cond_true (by kernel_rfl) ?_
    refine CW.seq ?_
    refine CW.region ?_
    refine SL.v (.int .i64 1) ?_
    refine SL.nil ?_
    refine CW.ret ?_
    repeat with_reducible first | refine PThen.ret ?_ | refine PBlock.ret ?_
    refine PRet.tmp (t := 2) (v := .int .i64 1) rfl rfl (by kernel_rfl) ?_
    exact ⟨rfl, hs0.gr⟩
  · try rw [hb_1]
    refine CW.cond_false (by kernel_rfl) ?_
    refine CW.skip ?_
    refine CW.seq ?_
    refine CW.region ?_
    refine SL.v (.int .i64 0) ?_
    refine SL.nil ?_
    refine CW.ret ?_
    repeat with_reducible first | refine PThen.ret ?_ | refine PBlock.ret ?_
    refine PRet.tmp (t := 2) (v := .int .i64 0) rfl rfl (by kernel_rfl) ?_
    exact ⟨rfl, hs0.gr⟩
set_option maxRecDepth 100000 in
set_option maxHeartbeats 4000000 in
theorem one_any (b : Bool) (w : World) : Calls Tryd.prog 47 #[.bool b] w fun e w' => e = .returned (.int .i64 (flagZ b)) ∧ Gr w w' := by
  refine calls_sx (n := 4) (args := [.bool b]) Tryd.func47 rfl rfl rfl ?_
  have hs0 := Bk.init w
  refine CW.seq ?_
  refine CW.region ?_
  refine SL.v (.int .i64 0) ?_
  refine SL.nil ?_
  refine CW.seq ?_
  refine CW.seq ?_
  refine CW.region ?_
  refine SL.v (.bool b) ?_
  refine SL.nil ?_
  rcases Bool.eq_false_or_eq_true (b) with hb_1 | hb_1
  · try rw [hb_1]
    refine CW.cond_true (by kernel_rfl) ?_
    refine CW.seq ?_
    refine CW.region ?_
    refine SL.v (.int .i64 1) ?_
    refine SL.nil ?_
    refine CW.ret ?_
    repeat with_reducible first | refine PThen.ret ?_ | refine PBlock.ret ?_
    refine PRet.tmp (t := 2) (v := .int .i64 1) rfl rfl (by kernel_rfl) ?_
    exact ⟨rfl, hs0.gr⟩
  · try rw [hb_1]
    refine CW.cond_false (by kernel_rfl) ?_
    refine CW.skip ?_
    refine CW.seq ?_
    refine CW.region ?_
    refine SL.v (.int .i64 0) ?_
    refine SL.nil ?_
    refine CW.ret ?_
    repeat with_reducible first | refine PThen.ret ?_ | refine PBlock.ret ?_
    refine PRet.tmp (t := 2) (v := .int .i64 0) rfl rfl (by kernel_rfl) ?_
    exact ⟨rfl, hs0.gr⟩
def Cor.nums (c : Cor) : List Int := [c.level, flagZ c.eight, c.modes / 4096, c.modes % 4096, flagZ c.stream, c.status, flagZ c.below, c.mt, c.ml, c.mb, c.mr, flagZ c.origin]
set_option maxRecDepth 100000 in
set_option maxHeartbeats 4000000 in
theorem nums_any (c : Cor) (w : World) (hok : c.Ok) : Calls Tryd.prog 49 #[.agg (cvA c)] w fun e w' => ∃ g, e = .returned (.slice (some ⟨g, 0, none⟩) 12 12) ∧ w'.heap[g]? = some (.cells (icells c.clean.nums).toArray 3 (0, 0)) ∧ w.heap.size ≤ g ∧ Gr w w' := by
  have hcm := hok.clean.modes
  refine calls_sx (n := 43) (args := [.agg (cvA c)]) Tryd.func49 rfl rfl rfl ?_
  have hs0 := Bk.init w
  refine CW.seq ?_
  refine CW.region ?_
  refine SL.new (mk := fun g => .pointer (some ⟨g, 0, none⟩)) (C := (cvA c)) (T := 46) hs0 rfl rfl (by kernel_rfl) (fun g_1 w_2 hs_3 => ?_)
  have hs_3 : Bk w w_2 [(g_1, .cells (cvA c) 46 (0, 0))] := hs_3
  refine SL.v (.slice none 0 0) ?_
  refine SL.nil ?_
  refine CW.seq ?_
  refine CW.region ?_
  refine SL.load (g := g_1) (off := 0) (v := .agg (cvA c)) rfl rfl rfl (by kernel_rfl) (hs_3.all 0 g_1 _ rfl) (by kernel_rfl) ?_
  refine SL.call (f := 10) (args := #[.agg (cvA c)]) (w1 := w_2) rfl rfl (by kernel_rfl) (clean_any c w_2 hok) ?_
  rintro x w_4 ⟨rfl, hc_5⟩
  refine ⟨.agg (cvA c.clean), rfl, ?_⟩
  have hs_6 := hs_3.grow hc_5
  refine SL.store (i := 0) (g := g_1) (off := 0) (v := .agg (cvA c.clean)) (L' := [(g_1, .cells (cvA c.clean) 46 (0, 0))]) hs_6 rfl rfl rfl (by kernel_rfl) (by kernel_rfl) rfl (by kernel_rfl) (by kernel_rfl) rfl (by kernel_rfl) rfl (fun w_7 hs_8 => ?_)
  refine SL.nil ?_
  refine CW.seq ?_
  refine CW.region ?_
  refine SL.v (.pointer (some ⟨g_1, 13, none⟩)) ?_
  refine SL.v (.pointer (some ⟨g_1, 17, none⟩)) ?_
  refine SL.load (g := g_1) (off := 17) (v := .agg #[.int .i64 c.clean.mt, .int .i64 c.clean.ml, .int .i64 c.clean.mb, .int .i64 c.clean.mr]) rfl rfl rfl (by kernel_rfl) (hs_8.all 0 g_1 _ rfl) (by kernel_rfl) ?_
  refine SL.new (mk := fun g => .pointer (some ⟨g, 0, none⟩)) (C := #[.int .i64 0, .int .i64 0, .int .i64 0, .int .i64 0]) (T := 29) hs_8 rfl rfl (by kernel_rfl) (fun g_9 w_10 hs_11 => ?_)
  have hs_11 : Bk w w_10 [(g_1, .cells (cvA c.clean) 46 (0, 0)), (g_9, .cells #[.int .i64 0, .int .i64 0, .int .i64 0, .int .i64 0] 29 (0, 0))] := hs_11
  refine SL.store (i := 1) (g := g_9) (off := 0) (v := .agg #[.int .i64 c.clean.mt, .int .i64 c.clean.ml, .int .i64 c.clean.mb, .int .i64 c.clean.mr]) (L' := [(g_1, .cells (cvA c.clean) 46 (0, 0)), (g_9, .cells #[.int .i64 c.clean.mt, .int .i64 c.clean.ml, .int .i64 c.clean.mb, .int .i64 c.clean.mr] 29 (0, 0))]) hs_11 rfl rfl rfl (by kernel_rfl) (by kernel_rfl) rfl (by kernel_rfl) (by kernel_rfl) rfl (by kernel_rfl) rfl (fun w_12 hs_13 => ?_)
  refine SL.nil ?_
  refine CW.seq ?_
  have HGR : GrL [fun v _ => v = .pointer (some ⟨g_1, 22, none⟩), fun v _ => v = .int .i64 c.clean.level, fun v _ => v = .pointer (some ⟨g_1, 23, none⟩), fun v _ => v = .bool c.clean.eight, fun v _ => v = .int .i64 (flagZ c.clean.eight), fun v _ => v = .pointer (some ⟨g_1, 21, none⟩), fun v _ => v = .int .u32 c.clean.modes, fun v _ => v = .int .i64 c.clean.modes, fun v _ => v = .int .i64 (c.clean.modes / 4096), fun v _ => v = .pointer (some ⟨g_1, 21, none⟩), fun v _ => v = .int .u32 c.clean.modes, fun v _ => v = .int .i64 c.clean.modes, fun v _ => v = .int .i64 (c.clean.modes % 4096), fun v _ => v = .pointer (some ⟨g_1, 24, none⟩), fun v _ => v = .bool c.clean.stream, fun v _ => v = .int .i64 (flagZ c.clean.stream), fun v _ => v = .pointer (some ⟨g_1, 25, none⟩), fun v _ => v = .int .i64 c.clean.status, fun v _ => v = .pointer (some ⟨g_1, 26, none⟩), fun v _ => v = .bool c.clean.below, fun v _ => v = .int .i64 (flagZ c.clean.below), fun v _ => v = .pointer (some ⟨g_9, 0, none⟩), fun v _ => v = .int .i64 c.clean.mt, fun v _ => v = .pointer (some ⟨g_9, 1, none⟩), fun v _ => v = .int .i64 c.clean.ml, fun v _ => v = .pointer (some ⟨g_9, 2, none⟩), fun v _ => v = .int .i64 c.clean.mb, fun v _ => v = .pointer (some ⟨g_9, 3, none⟩), fun v _ => v = .int .i64 c.clean.mr, fun v _ => v = .pointer (some ⟨g_1, 0, none⟩), fun v _ => v = .pointer (some ⟨g_1, 5, none⟩), fun v _ => v = .bool c.clean.origin, fun v _ => v = .int .i64 (flagZ c.clean.origin)] := ⟨fun _ _ _ _ h => h, ⟨fun _ _ _ _ h => h, ⟨fun _ _ _ _ h => h, ⟨fun _ _ _ _ h => h, ⟨fun _ _ _ _ h => h, ⟨fun _ _ _ _ h => h, ⟨fun _ _ _ _ h => h, ⟨fun _ _ _ _ h => h, ⟨fun _ _ _ _ h => h, ⟨fun _ _ _ _ h => h, ⟨fun _ _ _ _ h => h, ⟨fun _ _ _ _ h => h, ⟨fun _ _ _ _ h => h, ⟨fun _ _ _ _ h => h, ⟨fun _ _ _ _ h => h, ⟨fun _ _ _ _ h => h, ⟨fun _ _ _ _ h => h, ⟨fun _ _ _ _ h => h, ⟨fun _ _ _ _ h => h, ⟨fun _ _ _ _ h => h, ⟨fun _ _ _ _ h => h, ⟨fun _ _ _ _ h => h, ⟨fun _ _ _ _ h => h, ⟨fun _ _ _ _ h => h, ⟨fun _ _ _ _ h => h, ⟨fun _ _ _ _ h => h, ⟨fun _ _ _ _ h => h, ⟨fun _ _ _ _ h => h, ⟨fun _ _ _ _ h => h, ⟨fun _ _ _ _ h => h, ⟨fun _ _ _ _ h => h, ⟨fun _ _ _ _ h => h, ⟨fun _ _ _ _ h => h, trivial⟩⟩⟩⟩⟩⟩⟩⟩⟩⟩⟩⟩⟩⟩⟩⟩⟩⟩⟩⟩⟩⟩⟩⟩⟩⟩⟩⟩⟩⟩⟩⟩⟩
  refine CW.draw 33 (FW [fun v _ => v = .pointer (some ⟨g_1, 22, none⟩), fun v _ => v = .int .i64 c.clean.level, fun v _ => v = .pointer (some ⟨g_1, 23, none⟩), fun v _ => v = .bool c.clean.eight, fun v _ => v = .int .i64 (flagZ c.clean.eight), fun v _ => v = .pointer (some ⟨g_1, 21, none⟩), fun v _ => v = .int .u32 c.clean.modes, fun v _ => v = .int .i64 c.clean.modes, fun v _ => v = .int .i64 (c.clean.modes / 4096), fun v _ => v = .pointer (some ⟨g_1, 21, none⟩), fun v _ => v = .int .u32 c.clean.modes, fun v _ => v = .int .i64 c.clean.modes, fun v _ => v = .int .i64 (c.clean.modes % 4096), fun v _ => v = .pointer (some ⟨g_1, 24, none⟩), fun v _ => v = .bool c.clean.stream, fun v _ => v = .int .i64 (flagZ c.clean.stream), fun v _ => v = .pointer (some ⟨g_1, 25, none⟩), fun v _ => v = .int .i64 c.clean.status, fun v _ => v = .pointer (some ⟨g_1, 26, none⟩), fun v _ => v = .bool c.clean.below, fun v _ => v = .int .i64 (flagZ c.clean.below), fun v _ => v = .pointer (some ⟨g_9, 0, none⟩), fun v _ => v = .int .i64 c.clean.mt, fun v _ => v = .pointer (some ⟨g_9, 1, none⟩), fun v _ => v = .int .i64 c.clean.ml, fun v _ => v = .pointer (some ⟨g_9, 2, none⟩), fun v _ => v = .int .i64 c.clean.mb, fun v _ => v = .pointer (some ⟨g_9, 3, none⟩), fun v _ => v = .int .i64 c.clean.mr, fun v _ => v = .pointer (some ⟨g_1, 0, none⟩), fun v _ => v = .pointer (some ⟨g_1, 5, none⟩), fun v _ => v = .bool c.clean.origin, fun v _ => v = .int .i64 (flagZ c.clean.origin)]) (fun W => Bk w W [(g_1, .cells (cvA c.clean) 46 (0, 0)), (g_9, .cells #[.int .i64 c.clean.mt, .int .i64 c.clean.ml, .int .i64 c.clean.mb, .int .i64 c.clean.mr] 29 (0, 0))] ∧ Gr w_12 W) (by kernel_rfl) (by kernel_rfl) (by kernel_rfl) (by kernel_rfl) (by kernel_rfl) ⟨hs_13.drew, (Gr.refl _).drew⟩ ?_ ?_
  · refine ⟨?_, ⟨?_, ⟨?_, ⟨?_, ⟨?_, ⟨?_, ⟨?_, ⟨?_, ⟨?_, ⟨?_, ⟨?_, ⟨?_, ⟨?_, ⟨?_, ⟨?_, ⟨?_, ⟨?_, ⟨?_, ⟨?_, ⟨?_, ⟨?_, ⟨?_, ⟨?_, ⟨?_, ⟨?_, ⟨?_, ⟨?_, ⟨?_, ⟨?_, ⟨?_, ⟨?_, ⟨?_, ⟨?_, trivial⟩⟩⟩⟩⟩⟩⟩⟩⟩⟩⟩⟩⟩⟩⟩⟩⟩⟩⟩⟩⟩⟩⟩⟩⟩⟩⟩⟩⟩⟩⟩⟩⟩
    · intro L ys W hB hF hP K hK
      show OpE _ _ _ W K
      exact OpE.val (.pointer (some ⟨g_1, 22, none⟩)) W (by kernel_rfl) (hK _ W hB rfl (fun _ _ h => h))
    · intro L ys W hB hF hP K hK
      show OpE _ _ _ W K
      exact OpE.known (j := 0) (v := .pointer (some ⟨g_1, 22, none⟩)) (hF 0 (hP.1 rfl)) (OpE.load (g := g_1) (off := 22) (v := .int .i64 c.clean.level) rfl (by kernel_rfl) (hB.1.all 0 g_1 _ rfl) (by kernel_rfl) (hK _ W hB rfl (fun _ _ h => h)))
    · intro L ys W hB hF hP K hK
      show OpE _ _ _ W K
      exact OpE.val (.pointer (some ⟨g_1, 23, none⟩)) W (by kernel_rfl) (hK _ W hB rfl (fun _ _ h => h))
    · intro L ys W hB hF hP K hK
      show OpE _ _ _ W K
      exact OpE.known (j := 2) (v := .pointer (some ⟨g_1, 23, none⟩)) (hF 2 (hP.1 rfl)) (OpE.load (g := g_1) (off := 23) (v := .bool c.clean.eight) rfl (by kernel_rfl) (hB.1.all 0 g_1 _ rfl) (by kernel_rfl) (hK _ W hB rfl (fun _ _ h => h)))
    · intro L ys W hB hF hP K hK
      show OpE _ _ _ W K
      exact OpE.known (j := 3) (v := .bool c.clean.eight) (hF 3 (hP.1 rfl)) (OpE.call 44 #[.bool c.clean.eight] W _ (by kernel_rfl) (flag_any c.clean.eight W) (fun x w' hx => by obtain ⟨rfl, hg⟩ := hx; exact ⟨_, rfl, hK _ w' ⟨hB.1.grow hg, hB.2.trans hg⟩ rfl (fun _ _ h => FW.gr HGR hg h)⟩))
    · intro L ys W hB hF hP K hK
      show OpE _ _ _ W K
      exact OpE.val (.pointer (some ⟨g_1, 21, none⟩)) W (by kernel_rfl) (hK _ W hB rfl (fun _ _ h => h))
    · intro L ys W hB hF hP K hK
      show OpE _ _ _ W K
      exact OpE.known (j := 5) (v := .pointer (some ⟨g_1, 21, none⟩)) (hF 5 (hP.1 rfl)) (OpE.load (g := g_1) (off := 21) (v := .int .u32 c.clean.modes) rfl (by kernel_rfl) (hB.1.all 0 g_1 _ rfl) (by kernel_rfl) (hK _ W hB rfl (fun _ _ h => h)))
    · intro L ys W hB hF hP K hK
      show OpE _ _ _ W K
      exact OpE.known (j := 6) (v := .int .u32 c.clean.modes) (hF 6 (hP.1 rfl)) (OpE.val (.int .i64 c.clean.modes) W (by have hw : IntKind.i64.wrap (c.clean.modes) = c.clean.modes := IntWalk.i64_in _ (by omega); exact run_eqv (by kernel_rfl) (congrArg (fun z => Value.int .i64 z) hw)) (hK _ W hB rfl (fun _ _ h => h)))
    · intro L ys W hB hF hP K hK
      show OpE _ _ _ W K
      exact OpE.known (j := 7) (v := .int .i64 c.clean.modes) (hF 7 (hP.1 rfl)) (OpE.val (.int .i64 (c.clean.modes / 4096)) W (by have hw : IntKind.i64.wrap (Int.tdiv c.clean.modes 4096) = c.clean.modes / 4096 := (by rw [Int.tdiv_eq_ediv_of_nonneg (by omega)]; exact IntWalk.i64_in _ (by omega)); exact run_eqv (by kernel_rfl) (congrArg (Value.int .i64) hw)) (hK _ W hB rfl (fun _ _ h => h)))
    · intro L ys W hB hF hP K hK
      show OpE _ _ _ W K
      exact OpE.val (.pointer (some ⟨g_1, 21, none⟩)) W (by kernel_rfl) (hK _ W hB rfl (fun _ _ h => h))
    · intro L ys W hB hF hP K hK
      show OpE _ _ _ W K
      exact OpE.known (j := 9) (v := .pointer (some ⟨g_1, 21, none⟩)) (hF 9 (hP.1 rfl)) (OpE.load (g := g_1) (off := 21) (v := .int .u32 c.clean.modes) rfl (by kernel_rfl) (hB.1.all 0 g_1 _ rfl) (by kernel_rfl) (hK _ W hB rfl (fun _ _ h => h)))
    · intro L ys W hB hF hP K hK
      show OpE _ _ _ W K
      exact OpE.known (j := 10) (v := .int .u32 c.clean.modes) (hF 10 (hP.1 rfl)) (OpE.val (.int .i64 c.clean.modes) W (by have hw : IntKind.i64.wrap (c.clean.modes) = c.clean.modes := IntWalk.i64_in _ (by omega); exact run_eqv (by kernel_rfl) (congrArg (fun z => Value.int .i64 z) hw)) (hK _ W hB rfl (fun _ _ h => h)))
    · intro L ys W hB hF hP K hK
      show OpE _ _ _ W K
      exact OpE.known (j := 11) (v := .int .i64 c.clean.modes) (hF 11 (hP.1 rfl)) (OpE.val (.int .i64 (c.clean.modes % 4096)) W (run_eqv (by kernel_rfl) (congrArg (Value.int .i64) (Int.tmod_eq_emod_of_nonneg (a := c.clean.modes) (b := 4096) (by omega)))) (hK _ W hB rfl (fun _ _ h => h)))
    · intro L ys W hB hF hP K hK
      show OpE _ _ _ W K
      exact OpE.val (.pointer (some ⟨g_1, 24, none⟩)) W (by kernel_rfl) (hK _ W hB rfl (fun _ _ h => h))
    · intro L ys W hB hF hP K hK
      show OpE _ _ _ W K
      exact OpE.known (j := 13) (v := .pointer (some ⟨g_1, 24, none⟩)) (hF 13 (hP.1 rfl)) (OpE.load (g := g_1) (off := 24) (v := .bool c.clean.stream) rfl (by kernel_rfl) (hB.1.all 0 g_1 _ rfl) (by kernel_rfl) (hK _ W hB rfl (fun _ _ h => h)))
    · intro L ys W hB hF hP K hK
      show OpE _ _ _ W K
      exact OpE.known (j := 14) (v := .bool c.clean.stream) (hF 14 (hP.1 rfl)) (OpE.call 44 #[.bool c.clean.stream] W _ (by kernel_rfl) (flag_any c.clean.stream W) (fun x w' hx => by obtain ⟨rfl, hg⟩ := hx; exact ⟨_, rfl, hK _ w' ⟨hB.1.grow hg, hB.2.trans hg⟩ rfl (fun _ _ h => FW.gr HGR hg h)⟩))
    · intro L ys W hB hF hP K hK
      show OpE _ _ _ W K
      exact OpE.val (.pointer (some ⟨g_1, 25, none⟩)) W (by kernel_rfl) (hK _ W hB rfl (fun _ _ h => h))
    · intro L ys W hB hF hP K hK
      show OpE _ _ _ W K
      exact OpE.known (j := 16) (v := .pointer (some ⟨g_1, 25, none⟩)) (hF 16 (hP.1 rfl)) (OpE.load (g := g_1) (off := 25) (v := .int .i64 c.clean.status) rfl (by kernel_rfl) (hB.1.all 0 g_1 _ rfl) (by kernel_rfl) (hK _ W hB rfl (fun _ _ h => h)))
    · intro L ys W hB hF hP K hK
      show OpE _ _ _ W K
      exact OpE.val (.pointer (some ⟨g_1, 26, none⟩)) W (by kernel_rfl) (hK _ W hB rfl (fun _ _ h => h))
    · intro L ys W hB hF hP K hK
      show OpE _ _ _ W K
      exact OpE.known (j := 18) (v := .pointer (some ⟨g_1, 26, none⟩)) (hF 18 (hP.1 rfl)) (OpE.load (g := g_1) (off := 26) (v := .bool c.clean.below) rfl (by kernel_rfl) (hB.1.all 0 g_1 _ rfl) (by kernel_rfl) (hK _ W hB rfl (fun _ _ h => h)))
    · intro L ys W hB hF hP K hK
      show OpE _ _ _ W K
      exact OpE.known (j := 19) (v := .bool c.clean.below) (hF 19 (hP.1 rfl)) (OpE.call 44 #[.bool c.clean.below] W _ (by kernel_rfl) (flag_any c.clean.below W) (fun x w' hx => by obtain ⟨rfl, hg⟩ := hx; exact ⟨_, rfl, hK _ w' ⟨hB.1.grow hg, hB.2.trans hg⟩ rfl (fun _ _ h => FW.gr HGR hg h)⟩))
    · intro L ys W hB hF hP K hK
      show OpE _ _ _ W K
      exact OpE.val (.pointer (some ⟨g_9, 0, none⟩)) W (by kernel_rfl) (hK _ W hB rfl (fun _ _ h => h))
    · intro L ys W hB hF hP K hK
      show OpE _ _ _ W K
      exact OpE.known (j := 21) (v := .pointer (some ⟨g_9, 0, none⟩)) (hF 21 (hP.1 rfl)) (OpE.load (g := g_9) (off := 0) (v := .int .i64 c.clean.mt) rfl (by kernel_rfl) (hB.1.all 1 g_9 _ rfl) (by kernel_rfl) (hK _ W hB rfl (fun _ _ h => h)))
    · intro L ys W hB hF hP K hK
      show OpE _ _ _ W K
      exact OpE.val (.pointer (some ⟨g_9, 1, none⟩)) W (by kernel_rfl) (hK _ W hB rfl (fun _ _ h => h))
    · intro L ys W hB hF hP K hK
      show OpE _ _ _ W K
      exact OpE.known (j := 23) (v := .pointer (some ⟨g_9, 1, none⟩)) (hF 23 (hP.1 rfl)) (OpE.load (g := g_9) (off := 1) (v := .int .i64 c.clean.ml) rfl (by kernel_rfl) (hB.1.all 1 g_9 _ rfl) (by kernel_rfl) (hK _ W hB rfl (fun _ _ h => h)))
    · intro L ys W hB hF hP K hK
      show OpE _ _ _ W K
      exact OpE.val (.pointer (some ⟨g_9, 2, none⟩)) W (by kernel_rfl) (hK _ W hB rfl (fun _ _ h => h))
    · intro L ys W hB hF hP K hK
      show OpE _ _ _ W K
      exact OpE.known (j := 25) (v := .pointer (some ⟨g_9, 2, none⟩)) (hF 25 (hP.1 rfl)) (OpE.load (g := g_9) (off := 2) (v := .int .i64 c.clean.mb) rfl (by kernel_rfl) (hB.1.all 1 g_9 _ rfl) (by kernel_rfl) (hK _ W hB rfl (fun _ _ h => h)))
    · intro L ys W hB hF hP K hK
      show OpE _ _ _ W K
      exact OpE.val (.pointer (some ⟨g_9, 3, none⟩)) W (by kernel_rfl) (hK _ W hB rfl (fun _ _ h => h))
    · intro L ys W hB hF hP K hK
      show OpE _ _ _ W K
      exact OpE.known (j := 27) (v := .pointer (some ⟨g_9, 3, none⟩)) (hF 27 (hP.1 rfl)) (OpE.load (g := g_9) (off := 3) (v := .int .i64 c.clean.mr) rfl (by kernel_rfl) (hB.1.all 1 g_9 _ rfl) (by kernel_rfl) (hK _ W hB rfl (fun _ _ h => h)))
    · intro L ys W hB hF hP K hK
      show OpE _ _ _ W K
      exact OpE.val (.pointer (some ⟨g_1, 0, none⟩)) W (by kernel_rfl) (hK _ W hB rfl (fun _ _ h => h))
    · intro L ys W hB hF hP K hK
      show OpE _ _ _ W K
      exact OpE.known (j := 29) (v := .pointer (some ⟨g_1, 0, none⟩)) (hF 29 (hP.1 rfl)) (OpE.val (.pointer (some ⟨g_1, 5, none⟩)) W (by kernel_rfl) (hK _ W hB rfl (fun _ _ h => h)))
    · intro L ys W hB hF hP K hK
      show OpE _ _ _ W K
      exact OpE.known (j := 30) (v := .pointer (some ⟨g_1, 5, none⟩)) (hF 30 (hP.1 rfl)) (OpE.load (g := g_1) (off := 5) (v := .bool c.clean.origin) rfl (by kernel_rfl) (hB.1.all 0 g_1 _ rfl) (by kernel_rfl) (hK _ W hB rfl (fun _ _ h => h)))
    · intro L ys W hB hF hP K hK
      show OpE _ _ _ W K
      exact OpE.known (j := 31) (v := .bool c.clean.origin) (hF 31 (hP.1 rfl)) (OpE.call 44 #[.bool c.clean.origin] W _ (by kernel_rfl) (flag_any c.clean.origin W) (fun x w' hx => by obtain ⟨rfl, hg⟩ := hx; exact ⟨_, rfl, hK _ w' ⟨hB.1.grow hg, hB.2.trans hg⟩ rfl (fun _ _ h => FW.gr HGR hg h)⟩))
  · intro ys_17 w_14 hs_15 hF_16
    have hs_15 : Bk w w_14 [(g_1, .cells (cvA c.clean) 46 (0, 0)), (g_9, .cells #[.int .i64 c.clean.mt, .int .i64 c.clean.ml, .int .i64 c.clean.mb, .int .i64 c.clean.mr] 29 (0, 0))] := hs_15.1
    refine SL.knownY (j := 1) (v := .int .i64 c.clean.level) (show ys_17 1 = .int .i64 c.clean.level from hF_16 1 (by decide)) (SL.knownY (j := 4) (v := .int .i64 (flagZ c.clean.eight)) (show ys_17 4 = .int .i64 (flagZ c.clean.eight) from hF_16 4 (by decide)) (SL.knownY (j := 8) (v := .int .i64 (c.clean.modes / 4096)) (show ys_17 8 = .int .i64 (c.clean.modes / 4096) from hF_16 8 (by decide)) (SL.knownY (j := 12) (v := .int .i64 (c.clean.modes % 4096)) (show ys_17 12 = .int .i64 (c.clean.modes % 4096) from hF_16 12 (by decide)) (SL.knownY (j := 15) (v := .int .i64 (flagZ c.clean.stream)) (show ys_17 15 = .int .i64 (flagZ c.clean.stream) from hF_16 15 (by decide)) (SL.knownY (j := 17) (v := .int .i64 c.clean.status) (show ys_17 17 = .int .i64 c.clean.status from hF_16 17 (by decide)) (SL.knownY (j := 20) (v := .int .i64 (flagZ c.clean.below)) (show ys_17 20 = .int .i64 (flagZ c.clean.below) from hF_16 20 (by decide)) (SL.knownY (j := 22) (v := .int .i64 c.clean.mt) (show ys_17 22 = .int .i64 c.clean.mt from hF_16 22 (by decide)) (SL.knownY (j := 24) (v := .int .i64 c.clean.ml) (show ys_17 24 = .int .i64 c.clean.ml from hF_16 24 (by decide)) (SL.knownY (j := 26) (v := .int .i64 c.clean.mb) (show ys_17 26 = .int .i64 c.clean.mb from hF_16 26 (by decide)) (SL.knownY (j := 28) (v := .int .i64 c.clean.mr) (show ys_17 28 = .int .i64 c.clean.mr from hF_16 28 (by decide)) (SL.knownY (j := 32) (v := .int .i64 (flagZ c.clean.origin)) (show ys_17 32 = .int .i64 (flagZ c.clean.origin) from hF_16 32 (by decide)) (?_))))))))))))
    clear hF_16 HGR
    refine SL.new (mk := fun g => .slice (some ⟨g, 0, none⟩) 12 12) (C := #[.int .i64 c.clean.level, .int .i64 (flagZ c.clean.eight), .int .i64 (c.clean.modes / 4096), .int .i64 (c.clean.modes % 4096), .int .i64 (flagZ c.clean.stream), .int .i64 c.clean.status, .int .i64 (flagZ c.clean.below), .int .i64 c.clean.mt, .int .i64 c.clean.ml, .int .i64 c.clean.mb, .int .i64 c.clean.mr, .int .i64 (flagZ c.clean.origin)]) (T := 3) hs_15 rfl rfl (by kernel_rfl) (fun g_18 w_19 hs_20 => ?_)
    have hs_20 : Bk w w_19 [(g_1, .cells (cvA c.clean) 46 (0, 0)), (g_9, .cells #[.int .i64 c.clean.mt, .int .i64 c.clean.ml, .int .i64 c.clean.mb, .int .i64 c.clean.mr] 29 (0, 0)), (g_18, .cells #[.int .i64 c.clean.level, .int .i64 (flagZ c.clean.eight), .int .i64 (c.clean.modes / 4096), .int .i64 (c.clean.modes % 4096), .int .i64 (flagZ c.clean.stream), .int .i64 c.clean.status, .int .i64 (flagZ c.clean.below), .int .i64 c.clean.mt, .int .i64 c.clean.ml, .int .i64 c.clean.mb, .int .i64 c.clean.mr, .int .i64 (flagZ c.clean.origin)] 3 (0, 0))] := hs_20
    refine SL.v (.slice (some ⟨g_18, 0, none⟩) 12 12) ?_
    refine SL.nil ?_
    refine CW.ret ?_
    repeat with_reducible first | refine PThen.ret ?_ | refine PBlock.ret ?_
    refine PRet.tmp (t := 2) (v := .slice (some ⟨g_18, 0, none⟩) 12 12) rfl rfl (by kernel_rfl) ?_
    exact ⟨g_18, rfl, hs_20.all 2 g_18 _ rfl, hs_20.own 2 g_18 _ rfl, hs_20.gr⟩
set_option maxRecDepth 100000 in
set_option maxHeartbeats 4000000 in
theorem rnums_any (c : Cor) (w : World) (hok : c.Ok) : Calls Tryd.prog 52 #[.agg (cdA c)] w fun e w' => ∃ g, e = .returned (.slice (some ⟨g, 0, none⟩) 12 12) ∧ w'.heap[g]? = some (.cells (icells c.clean.nums).toArray 3 (0, 0)) ∧ w.heap.size ≤ g ∧ Gr w w' := by
  have hcm := hok.clean.modes
  refine calls_sx (n := 41) (args := [.agg (cdA c)]) Tryd.func52 rfl rfl rfl ?_
  have hs0 := Bk.init w
  refine CW.seq ?_
  refine CW.region ?_
  refine SL.new (mk := fun g => .pointer (some ⟨g, 0, none⟩)) (C := (cdA c)) (T := 33) hs0 rfl rfl (by kernel_rfl) (fun g_1 w_2 hs_3 => ?_)
  have hs_3 : Bk w w_2 [(g_1, .cells (cdA c) 33 (0, 0))] := hs_3
  refine SL.v (.slice none 0 0) ?_
  refine SL.nil ?_
  refine CW.seq ?_
  refine CW.region ?_
  refine SL.load (g := g_1) (off := 0) (v := .agg (cdA c)) rfl rfl rfl (by kernel_rfl) (hs_3.all 0 g_1 _ rfl) (by kernel_rfl) ?_
  refine SL.call (f := 11) (args := #[.agg (cdA c)]) (w1 := w_2) rfl rfl (by kernel_rfl) (rclean_any c w_2 hok) ?_
  rintro x w_4 ⟨rfl, hc_5⟩
  refine ⟨.agg (cdA c.clean), rfl, ?_⟩
  have hs_6 := hs_3.grow hc_5
  refine SL.store (i := 0) (g := g_1) (off := 0) (v := .agg (cdA c.clean)) (L' := [(g_1, .cells (cdA c.clean) 33 (0, 0))]) hs_6 rfl rfl rfl (by kernel_rfl) (by kernel_rfl) rfl (by kernel_rfl) (by kernel_rfl) rfl (by kernel_rfl) rfl (fun w_7 hs_8 => ?_)
  refine SL.nil ?_
  refine CW.seq ?_
  refine CW.region ?_
  refine SL.v (.pointer (some ⟨g_1, 13, none⟩)) ?_
  refine SL.v (.pointer (some ⟨g_1, 17, none⟩)) ?_
  refine SL.load (g := g_1) (off := 17) (v := .agg #[.int .i64 c.clean.mt, .int .i64 c.clean.ml, .int .i64 c.clean.mb, .int .i64 c.clean.mr]) rfl rfl rfl (by kernel_rfl) (hs_8.all 0 g_1 _ rfl) (by kernel_rfl) ?_
  refine SL.new (mk := fun g => .pointer (some ⟨g, 0, none⟩)) (C := #[.int .i64 0, .int .i64 0, .int .i64 0, .int .i64 0]) (T := 29) hs_8 rfl rfl (by kernel_rfl) (fun g_9 w_10 hs_11 => ?_)
  have hs_11 : Bk w w_10 [(g_1, .cells (cdA c.clean) 33 (0, 0)), (g_9, .cells #[.int .i64 0, .int .i64 0, .int .i64 0, .int .i64 0] 29 (0, 0))] := hs_11
  refine SL.store (i := 1) (g := g_9) (off := 0) (v := .agg #[.int .i64 c.clean.mt, .int .i64 c.clean.ml, .int .i64 c.clean.mb, .int .i64 c.clean.mr]) (L' := [(g_1, .cells (cdA c.clean) 33 (0, 0)), (g_9, .cells #[.int .i64 c.clean.mt, .int .i64 c.clean.ml, .int .i64 c.clean.mb, .int .i64 c.clean.mr] 29 (0, 0))]) hs_11 rfl rfl rfl (by kernel_rfl) (by kernel_rfl) rfl (by kernel_rfl) (by kernel_rfl) rfl (by kernel_rfl) rfl (fun w_12 hs_13 => ?_)
  refine SL.nil ?_
  refine CW.seq ?_
  have HGR : GrL [fun v _ => v = .pointer (some ⟨g_1, 22, none⟩), fun v _ => v = .int .i64 c.clean.level, fun v _ => v = .pointer (some ⟨g_1, 23, none⟩), fun v _ => v = .bool c.clean.eight, fun v _ => v = .int .i64 (flagZ c.clean.eight), fun v _ => v = .pointer (some ⟨g_1, 21, none⟩), fun v _ => v = .int .i64 c.clean.modes, fun v _ => v = .int .i64 (c.clean.modes / 4096), fun v _ => v = .pointer (some ⟨g_1, 21, none⟩), fun v _ => v = .int .i64 c.clean.modes, fun v _ => v = .int .i64 (c.clean.modes % 4096), fun v _ => v = .pointer (some ⟨g_1, 24, none⟩), fun v _ => v = .bool c.clean.stream, fun v _ => v = .int .i64 (flagZ c.clean.stream), fun v _ => v = .pointer (some ⟨g_1, 25, none⟩), fun v _ => v = .int .i64 c.clean.status, fun v _ => v = .pointer (some ⟨g_1, 26, none⟩), fun v _ => v = .bool c.clean.below, fun v _ => v = .int .i64 (flagZ c.clean.below), fun v _ => v = .pointer (some ⟨g_9, 0, none⟩), fun v _ => v = .int .i64 c.clean.mt, fun v _ => v = .pointer (some ⟨g_9, 1, none⟩), fun v _ => v = .int .i64 c.clean.ml, fun v _ => v = .pointer (some ⟨g_9, 2, none⟩), fun v _ => v = .int .i64 c.clean.mb, fun v _ => v = .pointer (some ⟨g_9, 3, none⟩), fun v _ => v = .int .i64 c.clean.mr, fun v _ => v = .pointer (some ⟨g_1, 0, none⟩), fun v _ => v = .pointer (some ⟨g_1, 5, none⟩), fun v _ => v = .bool c.clean.origin, fun v _ => v = .int .i64 (flagZ c.clean.origin)] := ⟨fun _ _ _ _ h => h, ⟨fun _ _ _ _ h => h, ⟨fun _ _ _ _ h => h, ⟨fun _ _ _ _ h => h, ⟨fun _ _ _ _ h => h, ⟨fun _ _ _ _ h => h, ⟨fun _ _ _ _ h => h, ⟨fun _ _ _ _ h => h, ⟨fun _ _ _ _ h => h, ⟨fun _ _ _ _ h => h, ⟨fun _ _ _ _ h => h, ⟨fun _ _ _ _ h => h, ⟨fun _ _ _ _ h => h, ⟨fun _ _ _ _ h => h, ⟨fun _ _ _ _ h => h, ⟨fun _ _ _ _ h => h, ⟨fun _ _ _ _ h => h, ⟨fun _ _ _ _ h => h, ⟨fun _ _ _ _ h => h, ⟨fun _ _ _ _ h => h, ⟨fun _ _ _ _ h => h, ⟨fun _ _ _ _ h => h, ⟨fun _ _ _ _ h => h, ⟨fun _ _ _ _ h => h, ⟨fun _ _ _ _ h => h, ⟨fun _ _ _ _ h => h, ⟨fun _ _ _ _ h => h, ⟨fun _ _ _ _ h => h, ⟨fun _ _ _ _ h => h, ⟨fun _ _ _ _ h => h, ⟨fun _ _ _ _ h => h, trivial⟩⟩⟩⟩⟩⟩⟩⟩⟩⟩⟩⟩⟩⟩⟩⟩⟩⟩⟩⟩⟩⟩⟩⟩⟩⟩⟩⟩⟩⟩⟩
  refine CW.draw 31 (FW [fun v _ => v = .pointer (some ⟨g_1, 22, none⟩), fun v _ => v = .int .i64 c.clean.level, fun v _ => v = .pointer (some ⟨g_1, 23, none⟩), fun v _ => v = .bool c.clean.eight, fun v _ => v = .int .i64 (flagZ c.clean.eight), fun v _ => v = .pointer (some ⟨g_1, 21, none⟩), fun v _ => v = .int .i64 c.clean.modes, fun v _ => v = .int .i64 (c.clean.modes / 4096), fun v _ => v = .pointer (some ⟨g_1, 21, none⟩), fun v _ => v = .int .i64 c.clean.modes, fun v _ => v = .int .i64 (c.clean.modes % 4096), fun v _ => v = .pointer (some ⟨g_1, 24, none⟩), fun v _ => v = .bool c.clean.stream, fun v _ => v = .int .i64 (flagZ c.clean.stream), fun v _ => v = .pointer (some ⟨g_1, 25, none⟩), fun v _ => v = .int .i64 c.clean.status, fun v _ => v = .pointer (some ⟨g_1, 26, none⟩), fun v _ => v = .bool c.clean.below, fun v _ => v = .int .i64 (flagZ c.clean.below), fun v _ => v = .pointer (some ⟨g_9, 0, none⟩), fun v _ => v = .int .i64 c.clean.mt, fun v _ => v = .pointer (some ⟨g_9, 1, none⟩), fun v _ => v = .int .i64 c.clean.ml, fun v _ => v = .pointer (some ⟨g_9, 2, none⟩), fun v _ => v = .int .i64 c.clean.mb, fun v _ => v = .pointer (some ⟨g_9, 3, none⟩), fun v _ => v = .int .i64 c.clean.mr, fun v _ => v = .pointer (some ⟨g_1, 0, none⟩), fun v _ => v = .pointer (some ⟨g_1, 5, none⟩), fun v _ => v = .bool c.clean.origin, fun v _ => v = .int .i64 (flagZ c.clean.origin)]) (fun W => Bk w W [(g_1, .cells (cdA c.clean) 33 (0, 0)), (g_9, .cells #[.int .i64 c.clean.mt, .int .i64 c.clean.ml, .int .i64 c.clean.mb, .int .i64 c.clean.mr] 29 (0, 0))] ∧ Gr w_12 W) (by kernel_rfl) (by kernel_rfl) (by kernel_rfl) (by kernel_rfl) (by kernel_rfl) ⟨hs_13.drew, (Gr.refl _).drew⟩ ?_ ?_
  · refine ⟨?_, ⟨?_, ⟨?_, ⟨?_, ⟨?_, ⟨?_, ⟨?_, ⟨?_, ⟨?_, ⟨?_, ⟨?_, ⟨?_, ⟨?_, ⟨?_, ⟨?_, ⟨?_, ⟨?_, ⟨?_, ⟨?_, ⟨?_, ⟨?_, ⟨?_, ⟨?_, ⟨?_, ⟨?_, ⟨?_, ⟨?_, ⟨?_, ⟨?_, ⟨?_, ⟨?_, trivial⟩⟩⟩⟩⟩⟩⟩⟩⟩⟩⟩⟩⟩⟩⟩⟩⟩⟩⟩⟩⟩⟩⟩⟩⟩⟩⟩⟩⟩⟩⟩
    · intro L ys W hB hF hP K hK
      show OpE _ _ _ W K
      exact OpE.val (.pointer (some ⟨g_1, 22, none⟩)) W (by kernel_rfl) (hK _ W hB rfl (fun _ _ h => h))
    · intro L ys W hB hF hP K hK
      show OpE _ _ _ W K
      exact OpE.known (j := 0) (v := .pointer (some ⟨g_1, 22, none⟩)) (hF 0 (hP.1 rfl)) (OpE.load (g := g_1) (off := 22) (v := .int .i64 c.clean.level) rfl (by kernel_rfl) (hB.1.all 0 g_1 _ rfl) (by kernel_rfl) (hK _ W hB rfl (fun _ _ h => h)))
    · intro L ys W hB hF hP K hK
      show OpE _ _ _ W K
      exact OpE.val (.pointer (some ⟨g_1, 23, none⟩)) W (by kernel_rfl) (hK _ W hB rfl (fun _ _ h => h))
    · intro L ys W hB hF hP K hK
      show OpE _ _ _ W K
      exact OpE.known (j := 2) (v := .pointer (some ⟨g_1, 23, none⟩)) (hF 2 (hP.1 rfl)) (OpE.load (g := g_1) (off := 23) (v := .bool c.clean.eight) rfl (by kernel_rfl) (hB.1.all 0 g_1 _ rfl) (by kernel_rfl) (hK _ W hB rfl (fun _ _ h => h)))
    · intro L ys W hB hF hP K hK
      show OpE _ _ _ W K
      exact OpE.known (j := 3) (v := .bool c.clean.eight) (hF 3 (hP.1 rfl)) (OpE.call 47 #[.bool c.clean.eight] W _ (by kernel_rfl) (one_any c.clean.eight W) (fun x w' hx => by obtain ⟨rfl, hg⟩ := hx; exact ⟨_, rfl, hK _ w' ⟨hB.1.grow hg, hB.2.trans hg⟩ rfl (fun _ _ h => FW.gr HGR hg h)⟩))
    · intro L ys W hB hF hP K hK
      show OpE _ _ _ W K
      exact OpE.val (.pointer (some ⟨g_1, 21, none⟩)) W (by kernel_rfl) (hK _ W hB rfl (fun _ _ h => h))
    · intro L ys W hB hF hP K hK
      show OpE _ _ _ W K
      exact OpE.known (j := 5) (v := .pointer (some ⟨g_1, 21, none⟩)) (hF 5 (hP.1 rfl)) (OpE.load (g := g_1) (off := 21) (v := .int .i64 c.clean.modes) rfl (by kernel_rfl) (hB.1.all 0 g_1 _ rfl) (by kernel_rfl) (hK _ W hB rfl (fun _ _ h => h)))
    · intro L ys W hB hF hP K hK
      show OpE _ _ _ W K
      exact OpE.known (j := 6) (v := .int .i64 c.clean.modes) (hF 6 (hP.1 rfl)) (OpE.val (.int .i64 (c.clean.modes / 4096)) W (by have hw : IntKind.i64.wrap (Int.tdiv c.clean.modes 4096) = c.clean.modes / 4096 := (by rw [Int.tdiv_eq_ediv_of_nonneg (by omega)]; exact IntWalk.i64_in _ (by omega)); exact run_eqv (by kernel_rfl) (congrArg (Value.int .i64) hw)) (hK _ W hB rfl (fun _ _ h => h)))
    · intro L ys W hB hF hP K hK
      show OpE _ _ _ W K
      exact OpE.val (.pointer (some ⟨g_1, 21, none⟩)) W (by kernel_rfl) (hK _ W hB rfl (fun _ _ h => h))
    · intro L ys W hB hF hP K hK
      show OpE _ _ _ W K
      exact OpE.known (j := 8) (v := .pointer (some ⟨g_1, 21, none⟩)) (hF 8 (hP.1 rfl)) (OpE.load (g := g_1) (off := 21) (v := .int .i64 c.clean.modes) rfl (by kernel_rfl) (hB.1.all 0 g_1 _ rfl) (by kernel_rfl) (hK _ W hB rfl (fun _ _ h => h)))
    · intro L ys W hB hF hP K hK
      show OpE _ _ _ W K
      exact OpE.known (j := 9) (v := .int .i64 c.clean.modes) (hF 9 (hP.1 rfl)) (OpE.val (.int .i64 (c.clean.modes % 4096)) W (run_eqv (by kernel_rfl) (congrArg (Value.int .i64) (Int.tmod_eq_emod_of_nonneg (a := c.clean.modes) (b := 4096) (by omega)))) (hK _ W hB rfl (fun _ _ h => h)))
    · intro L ys W hB hF hP K hK
      show OpE _ _ _ W K
      exact OpE.val (.pointer (some ⟨g_1, 24, none⟩)) W (by kernel_rfl) (hK _ W hB rfl (fun _ _ h => h))
    · intro L ys W hB hF hP K hK
      show OpE _ _ _ W K
      exact OpE.known (j := 11) (v := .pointer (some ⟨g_1, 24, none⟩)) (hF 11 (hP.1 rfl)) (OpE.load (g := g_1) (off := 24) (v := .bool c.clean.stream) rfl (by kernel_rfl) (hB.1.all 0 g_1 _ rfl) (by kernel_rfl) (hK _ W hB rfl (fun _ _ h => h)))
    · intro L ys W hB hF hP K hK
      show OpE _ _ _ W K
      exact OpE.known (j := 12) (v := .bool c.clean.stream) (hF 12 (hP.1 rfl)) (OpE.call 47 #[.bool c.clean.stream] W _ (by kernel_rfl) (one_any c.clean.stream W) (fun x w' hx => by obtain ⟨rfl, hg⟩ := hx; exact ⟨_, rfl, hK _ w' ⟨hB.1.grow hg, hB.2.trans hg⟩ rfl (fun _ _ h => FW.gr HGR hg h)⟩))
    · intro L ys W hB hF hP K hK
      show OpE _ _ _ W K
      exact OpE.val (.pointer (some ⟨g_1, 25, none⟩)) W (by kernel_rfl) (hK _ W hB rfl (fun _ _ h => h))
    · intro L ys W hB hF hP K hK
      show OpE _ _ _ W K
      exact OpE.known (j := 14) (v := .pointer (some ⟨g_1, 25, none⟩)) (hF 14 (hP.1 rfl)) (OpE.load (g := g_1) (off := 25) (v := .int .i64 c.clean.status) rfl (by kernel_rfl) (hB.1.all 0 g_1 _ rfl) (by kernel_rfl) (hK _ W hB rfl (fun _ _ h => h)))
    · intro L ys W hB hF hP K hK
      show OpE _ _ _ W K
      exact OpE.val (.pointer (some ⟨g_1, 26, none⟩)) W (by kernel_rfl) (hK _ W hB rfl (fun _ _ h => h))
    · intro L ys W hB hF hP K hK
      show OpE _ _ _ W K
      exact OpE.known (j := 16) (v := .pointer (some ⟨g_1, 26, none⟩)) (hF 16 (hP.1 rfl)) (OpE.load (g := g_1) (off := 26) (v := .bool c.clean.below) rfl (by kernel_rfl) (hB.1.all 0 g_1 _ rfl) (by kernel_rfl) (hK _ W hB rfl (fun _ _ h => h)))
    · intro L ys W hB hF hP K hK
      show OpE _ _ _ W K
      exact OpE.known (j := 17) (v := .bool c.clean.below) (hF 17 (hP.1 rfl)) (OpE.call 47 #[.bool c.clean.below] W _ (by kernel_rfl) (one_any c.clean.below W) (fun x w' hx => by obtain ⟨rfl, hg⟩ := hx; exact ⟨_, rfl, hK _ w' ⟨hB.1.grow hg, hB.2.trans hg⟩ rfl (fun _ _ h => FW.gr HGR hg h)⟩))
    · intro L ys W hB hF hP K hK
      show OpE _ _ _ W K
      exact OpE.val (.pointer (some ⟨g_9, 0, none⟩)) W (by kernel_rfl) (hK _ W hB rfl (fun _ _ h => h))
    · intro L ys W hB hF hP K hK
      show OpE _ _ _ W K
      exact OpE.known (j := 19) (v := .pointer (some ⟨g_9, 0, none⟩)) (hF 19 (hP.1 rfl)) (OpE.load (g := g_9) (off := 0) (v := .int .i64 c.clean.mt) rfl (by kernel_rfl) (hB.1.all 1 g_9 _ rfl) (by kernel_rfl) (hK _ W hB rfl (fun _ _ h => h)))
    · intro L ys W hB hF hP K hK
      show OpE _ _ _ W K
      exact OpE.val (.pointer (some ⟨g_9, 1, none⟩)) W (by kernel_rfl) (hK _ W hB rfl (fun _ _ h => h))
    · intro L ys W hB hF hP K hK
      show OpE _ _ _ W K
      exact OpE.known (j := 21) (v := .pointer (some ⟨g_9, 1, none⟩)) (hF 21 (hP.1 rfl)) (OpE.load (g := g_9) (off := 1) (v := .int .i64 c.clean.ml) rfl (by kernel_rfl) (hB.1.all 1 g_9 _ rfl) (by kernel_rfl) (hK _ W hB rfl (fun _ _ h => h)))
    · intro L ys W hB hF hP K hK
      show OpE _ _ _ W K
      exact OpE.val (.pointer (some ⟨g_9, 2, none⟩)) W (by kernel_rfl) (hK _ W hB rfl (fun _ _ h => h))
    · intro L ys W hB hF hP K hK
      show OpE _ _ _ W K
      exact OpE.known (j := 23) (v := .pointer (some ⟨g_9, 2, none⟩)) (hF 23 (hP.1 rfl)) (OpE.load (g := g_9) (off := 2) (v := .int .i64 c.clean.mb) rfl (by kernel_rfl) (hB.1.all 1 g_9 _ rfl) (by kernel_rfl) (hK _ W hB rfl (fun _ _ h => h)))
    · intro L ys W hB hF hP K hK
      show OpE _ _ _ W K
      exact OpE.val (.pointer (some ⟨g_9, 3, none⟩)) W (by kernel_rfl) (hK _ W hB rfl (fun _ _ h => h))
    · intro L ys W hB hF hP K hK
      show OpE _ _ _ W K
      exact OpE.known (j := 25) (v := .pointer (some ⟨g_9, 3, none⟩)) (hF 25 (hP.1 rfl)) (OpE.load (g := g_9) (off := 3) (v := .int .i64 c.clean.mr) rfl (by kernel_rfl) (hB.1.all 1 g_9 _ rfl) (by kernel_rfl) (hK _ W hB rfl (fun _ _ h => h)))
    · intro L ys W hB hF hP K hK
      show OpE _ _ _ W K
      exact OpE.val (.pointer (some ⟨g_1, 0, none⟩)) W (by kernel_rfl) (hK _ W hB rfl (fun _ _ h => h))
    · intro L ys W hB hF hP K hK
      show OpE _ _ _ W K
      exact OpE.known (j := 27) (v := .pointer (some ⟨g_1, 0, none⟩)) (hF 27 (hP.1 rfl)) (OpE.val (.pointer (some ⟨g_1, 5, none⟩)) W (by kernel_rfl) (hK _ W hB rfl (fun _ _ h => h)))
    · intro L ys W hB hF hP K hK
      show OpE _ _ _ W K
      exact OpE.known (j := 28) (v := .pointer (some ⟨g_1, 5, none⟩)) (hF 28 (hP.1 rfl)) (OpE.load (g := g_1) (off := 5) (v := .bool c.clean.origin) rfl (by kernel_rfl) (hB.1.all 0 g_1 _ rfl) (by kernel_rfl) (hK _ W hB rfl (fun _ _ h => h)))
    · intro L ys W hB hF hP K hK
      show OpE _ _ _ W K
      exact OpE.known (j := 29) (v := .bool c.clean.origin) (hF 29 (hP.1 rfl)) (OpE.call 47 #[.bool c.clean.origin] W _ (by kernel_rfl) (one_any c.clean.origin W) (fun x w' hx => by obtain ⟨rfl, hg⟩ := hx; exact ⟨_, rfl, hK _ w' ⟨hB.1.grow hg, hB.2.trans hg⟩ rfl (fun _ _ h => FW.gr HGR hg h)⟩))
  · intro ys_17 w_14 hs_15 hF_16
    have hs_15 : Bk w w_14 [(g_1, .cells (cdA c.clean) 33 (0, 0)), (g_9, .cells #[.int .i64 c.clean.mt, .int .i64 c.clean.ml, .int .i64 c.clean.mb, .int .i64 c.clean.mr] 29 (0, 0))] := hs_15.1
    refine SL.knownY (j := 1) (v := .int .i64 c.clean.level) (show ys_17 1 = .int .i64 c.clean.level from hF_16 1 (by decide)) (SL.knownY (j := 4) (v := .int .i64 (flagZ c.clean.eight)) (show ys_17 4 = .int .i64 (flagZ c.clean.eight) from hF_16 4 (by decide)) (SL.knownY (j := 7) (v := .int .i64 (c.clean.modes / 4096)) (show ys_17 7 = .int .i64 (c.clean.modes / 4096) from hF_16 7 (by decide)) (SL.knownY (j := 10) (v := .int .i64 (c.clean.modes % 4096)) (show ys_17 10 = .int .i64 (c.clean.modes % 4096) from hF_16 10 (by decide)) (SL.knownY (j := 13) (v := .int .i64 (flagZ c.clean.stream)) (show ys_17 13 = .int .i64 (flagZ c.clean.stream) from hF_16 13 (by decide)) (SL.knownY (j := 15) (v := .int .i64 c.clean.status) (show ys_17 15 = .int .i64 c.clean.status from hF_16 15 (by decide)) (SL.knownY (j := 18) (v := .int .i64 (flagZ c.clean.below)) (show ys_17 18 = .int .i64 (flagZ c.clean.below) from hF_16 18 (by decide)) (SL.knownY (j := 20) (v := .int .i64 c.clean.mt) (show ys_17 20 = .int .i64 c.clean.mt from hF_16 20 (by decide)) (SL.knownY (j := 22) (v := .int .i64 c.clean.ml) (show ys_17 22 = .int .i64 c.clean.ml from hF_16 22 (by decide)) (SL.knownY (j := 24) (v := .int .i64 c.clean.mb) (show ys_17 24 = .int .i64 c.clean.mb from hF_16 24 (by decide)) (SL.knownY (j := 26) (v := .int .i64 c.clean.mr) (show ys_17 26 = .int .i64 c.clean.mr from hF_16 26 (by decide)) (SL.knownY (j := 30) (v := .int .i64 (flagZ c.clean.origin)) (show ys_17 30 = .int .i64 (flagZ c.clean.origin) from hF_16 30 (by decide)) (?_))))))))))))
    clear hF_16 HGR
    refine SL.new (mk := fun g => .slice (some ⟨g, 0, none⟩) 12 12) (C := #[.int .i64 c.clean.level, .int .i64 (flagZ c.clean.eight), .int .i64 (c.clean.modes / 4096), .int .i64 (c.clean.modes % 4096), .int .i64 (flagZ c.clean.stream), .int .i64 c.clean.status, .int .i64 (flagZ c.clean.below), .int .i64 c.clean.mt, .int .i64 c.clean.ml, .int .i64 c.clean.mb, .int .i64 c.clean.mr, .int .i64 (flagZ c.clean.origin)]) (T := 3) hs_15 rfl rfl (by kernel_rfl) (fun g_18 w_19 hs_20 => ?_)
    have hs_20 : Bk w w_19 [(g_1, .cells (cdA c.clean) 33 (0, 0)), (g_9, .cells #[.int .i64 c.clean.mt, .int .i64 c.clean.ml, .int .i64 c.clean.mb, .int .i64 c.clean.mr] 29 (0, 0)), (g_18, .cells #[.int .i64 c.clean.level, .int .i64 (flagZ c.clean.eight), .int .i64 (c.clean.modes / 4096), .int .i64 (c.clean.modes % 4096), .int .i64 (flagZ c.clean.stream), .int .i64 c.clean.status, .int .i64 (flagZ c.clean.below), .int .i64 c.clean.mt, .int .i64 c.clean.ml, .int .i64 c.clean.mb, .int .i64 c.clean.mr, .int .i64 (flagZ c.clean.origin)] 3 (0, 0))] := hs_20
    refine SL.v (.slice (some ⟨g_18, 0, none⟩) 12 12) ?_
    refine SL.nil ?_
    refine CW.ret ?_
    repeat with_reducible first | refine PThen.ret ?_ | refine PBlock.ret ?_
    refine PRet.tmp (t := 2) (v := .slice (some ⟨g_18, 0, none⟩) 12 12) rfl rfl (by kernel_rfl) ?_
    exact ⟨g_18, rfl, hs_20.all 2 g_18 _ rfl, hs_20.own 2 g_18 _ rfl, hs_20.gr⟩
end Go.Proofs.YtfkecgkfcldffaaDoor
