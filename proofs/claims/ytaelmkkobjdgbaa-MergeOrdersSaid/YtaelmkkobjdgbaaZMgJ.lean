/-
  Own of an item, walked (gen_mgi.py).
  Lists of items in memory: facts of what is only read.
-/
import Derived.Test.YtaelmkkobjdgbaaZMgH
import Derived.Test.YtaelmkkobjdgbaaZAp0
namespace Go.Proofs.Ytaelmkkobjdgbaa
set_option linter.unusedSimpArgs false
set_option linter.unusedVariables false
open Go.RowKit
set_option linter.unusedVariables false

/-- An item with other data. -/
def Itm.with (x : Itm) (a : Option Addr) (c : Nat) : Itm := ⟨x.at_, x.kd, a, c, x.k0, x.k1, x.k2, x.k3, x.rw_, x.cl, x.bs⟩
set_option maxRecDepth 100000 in
theorem own22_any (x : Itm) (w : World) : Calls Try.prog 22 #[.agg #[.int .i64 x.k0, .int .u8 x.k1, .bool x.k2, .bool x.k3]] w fun e w' => e = .returned (.agg #[.int .i64 x.k0, .int .u8 x.k1, .bool x.k2, .bool x.k3]) ∧ Gr w w' := by
  refine calls_sx (n := 12) (args := [.agg #[.int .i64 x.k0, .int .u8 x.k1, .bool x.k2, .bool x.k3]]) Try.func22 rfl rfl rfl ?_
  have hs0 := SH.none w
  refine CW.seq ?_
  refine CW.region ?_
  refine SL.newH (mk := fun g => .pointer (some ⟨g, 0, none⟩)) (C := #[.int .i64 x.k0, .int .u8 x.k1, .bool x.k2, .bool x.k3]) (T := 28) hs0 rfl rfl (by kernel_rfl) (fun g_1 w_2 hs_3 => ?_)
  have hs_3 : SH [] w w_2 [pt g_1 #[.int .i64 x.k0, .int .u8 x.k1, .bool x.k2, .bool x.k3] 28] := hs_3
  refine SL.newH (mk := fun g => .pointer (some ⟨g, 0, none⟩)) (C := #[.int .i64 0, .int .u8 0, .bool false, .bool false]) (T := 35) hs_3 rfl rfl (by kernel_rfl) (fun g_4 w_5 hs_6 => ?_)
  have hs_6 : SH [] w w_5 [pt g_1 #[.int .i64 x.k0, .int .u8 x.k1, .bool x.k2, .bool x.k3] 28, pt g_4 #[.int .i64 0, .int .u8 0, .bool false, .bool false] 35] := hs_6
  refine SL.nil ?_
  refine CW.seq ?_
  refine CW.region ?_
  refine SL.v (.pointer (some ⟨g_1, 0, none⟩)) ?_
  refine SL.load (g := g_1) (off := 0) (v := .int .i64 x.k0) rfl rfl rfl (by kernel_rfl) (hs_6.pt_at (i := 0) rfl) (by kernel_rfl) ?_
  refine SL.v (.pointer (some ⟨g_1, 1, none⟩)) ?_
  refine SL.load (g := g_1) (off := 1) (v := .int .u8 x.k1) rfl rfl rfl (by kernel_rfl) (hs_6.pt_at (i := 0) rfl) (by kernel_rfl) ?_
  refine SL.v (.pointer (some ⟨g_1, 2, none⟩)) ?_
  refine SL.load (g := g_1) (off := 2) (v := .bool x.k2) rfl rfl rfl (by kernel_rfl) (hs_6.pt_at (i := 0) rfl) (by kernel_rfl) ?_
  refine SL.v (.pointer (some ⟨g_1, 3, none⟩)) ?_
  refine SL.load (g := g_1) (off := 3) (v := .bool x.k3) rfl rfl rfl (by kernel_rfl) (hs_6.pt_at (i := 0) rfl) (by kernel_rfl) ?_
  refine SL.v (.agg #[.int .i64 x.k0, .int .u8 x.k1, .bool x.k2, .bool x.k3]) ?_
  refine SL.storeH (i := 1) (g := g_4) (off := 0) (v := .agg #[.int .i64 x.k0, .int .u8 x.k1, .bool x.k2, .bool x.k3]) (L' := [pt g_1 #[.int .i64 x.k0, .int .u8 x.k1, .bool x.k2, .bool x.k3] 28, pt g_4 #[.int .i64 x.k0, .int .u8 x.k1, .bool x.k2, .bool x.k3] 35]) hs_6 rfl rfl rfl (by kernel_rfl) (by kernel_rfl) rfl (by kernel_rfl) (by kernel_rfl) rfl (by kernel_rfl) rfl (fun w_7 hs_8 => ?_)
  refine SL.nil ?_
  refine CW.ret ?_
  repeat with_reducible first | refine PThen.ret ?_ | refine PBlock.ret ?_
  refine PRet.cell (t := 2) (ty := 35) (g := g_4) (v := .agg #[.int .i64 x.k0, .int .u8 x.k1, .bool x.k2, .bool x.k3]) rfl rfl (by kernel_rfl) (hs_8.pt_at (i := 1) rfl) (by kernel_rfl) ?_
  exact ⟨rfl, hs_8.gr⟩
set_option maxRecDepth 100000 in
set_option maxHeartbeats 4000000 in
theorem own25_any (x : Itm) (w : World) (hd : DataAt w x.da x.dc x.bs) (hl : x.bs.length ≤ 1000000) : Calls Try.prog 17 #[.agg (itC x).toArray] w fun e w' => ∃ a c, e = .returned (.agg (itC (x.with a c)).toArray) ∧ SH [] w w' [rowH 5 1 a x.bs.length c (bcells x.bs)] := by
  show Calls _ _ #[.agg #[.int .i64 x.at_, .int .i64 x.kd, .slice x.da x.bs.length x.dc, .int .i64 x.k0, .int .u8 x.k1, .bool x.k2, .bool x.k3, .int .i64 x.rw_, .int .i64 x.cl]] w _
  refine calls_sx (n := 19) (args := [.agg #[.int .i64 x.at_, .int .i64 x.kd, .slice x.da x.bs.length x.dc, .int .i64 x.k0, .int .u8 x.k1, .bool x.k2, .bool x.k3, .int .i64 x.rw_, .int .i64 x.cl]]) Try.func17 rfl rfl rfl ?_
  have hs0 := SH.none w
  refine CW.seq ?_
  refine CW.region ?_
  refine SL.newH (mk := fun g => .pointer (some ⟨g, 0, none⟩)) (C := #[.int .i64 x.at_, .int .i64 x.kd, .slice x.da x.bs.length x.dc, .int .i64 x.k0, .int .u8 x.k1, .bool x.k2, .bool x.k3, .int .i64 x.rw_, .int .i64 x.cl]) (T := 30) hs0 rfl rfl (by kernel_rfl) (fun g_1 w_2 hs_3 => ?_)
  have hs_3 : SH [] w w_2 [pt g_1 #[.int .i64 x.at_, .int .i64 x.kd, .slice x.da x.bs.length x.dc, .int .i64 x.k0, .int .u8 x.k1, .bool x.k2, .bool x.k3, .int .i64 x.rw_, .int .i64 x.cl] 30] := hs_3
  refine SL.newH (mk := fun g => .pointer (some ⟨g, 0, none⟩)) (C := #[.int .i64 0, .int .i64 0, .slice none 0 0, .int .i64 0, .int .u8 0, .bool false, .bool false, .int .i64 0, .int .i64 0]) (T := 37) hs_3 rfl rfl (by kernel_rfl) (fun g_4 w_5 hs_6 => ?_)
  have hs_6 : SH [] w w_5 [pt g_1 #[.int .i64 x.at_, .int .i64 x.kd, .slice x.da x.bs.length x.dc, .int .i64 x.k0, .int .u8 x.k1, .bool x.k2, .bool x.k3, .int .i64 x.rw_, .int .i64 x.cl] 30, pt g_4 #[.int .i64 0, .int .i64 0, .slice none 0 0, .int .i64 0, .int .u8 0, .bool false, .bool false, .int .i64 0, .int .i64 0] 37] := hs_6
  refine SL.nil ?_
  refine CW.seq ?_
  have HGR : GrL [fun v _ => v = .pointer (some ⟨g_1, 0, none⟩), fun v _ => v = .int .i64 x.at_, fun v _ => v = .pointer (some ⟨g_1, 1, none⟩), fun v _ => v = .int .i64 x.kd, NewB w_5 (fun g => .slice (some ⟨g, 0, none⟩) 0 0) (.cells #[] 5 (0, 0)), fun v _ => v = .pointer (some ⟨g_1, 2, none⟩), fun v _ => v = .slice x.da x.bs.length x.dc, AppB w_5 5 (x.bs.length) (bcells x.bs), fun v _ => v = .pointer (some ⟨g_1, 3, none⟩), fun v _ => v = .agg #[.int .i64 x.k0, .int .u8 x.k1, .bool x.k2, .bool x.k3], fun v _ => v = .agg #[.int .i64 x.k0, .int .u8 x.k1, .bool x.k2, .bool x.k3], fun v _ => v = .pointer (some ⟨g_1, 7, none⟩), fun v _ => v = .int .i64 x.rw_, fun v _ => v = .pointer (some ⟨g_1, 8, none⟩), fun v _ => v = .int .i64 x.cl] := ⟨fun _ _ _ _ h => h, ⟨fun _ _ _ _ h => h, ⟨fun _ _ _ _ h => h, ⟨fun _ _ _ _ h => h, ⟨fun _ _ _ hg h => NewB.gr hg h, ⟨fun _ _ _ _ h => h, ⟨fun _ _ _ _ h => h, ⟨fun _ _ _ hg h => AppB.gr hg h, ⟨fun _ _ _ _ h => h, ⟨fun _ _ _ _ h => h, ⟨fun _ _ _ _ h => h, ⟨fun _ _ _ _ h => h, ⟨fun _ _ _ _ h => h, ⟨fun _ _ _ _ h => h, ⟨fun _ _ _ _ h => h, trivial⟩⟩⟩⟩⟩⟩⟩⟩⟩⟩⟩⟩⟩⟩⟩
  refine CW.draw 15 (FW [fun v _ => v = .pointer (some ⟨g_1, 0, none⟩), fun v _ => v = .int .i64 x.at_, fun v _ => v = .pointer (some ⟨g_1, 1, none⟩), fun v _ => v = .int .i64 x.kd, NewB w_5 (fun g => .slice (some ⟨g, 0, none⟩) 0 0) (.cells #[] 5 (0, 0)), fun v _ => v = .pointer (some ⟨g_1, 2, none⟩), fun v _ => v = .slice x.da x.bs.length x.dc, AppB w_5 5 (x.bs.length) (bcells x.bs), fun v _ => v = .pointer (some ⟨g_1, 3, none⟩), fun v _ => v = .agg #[.int .i64 x.k0, .int .u8 x.k1, .bool x.k2, .bool x.k3], fun v _ => v = .agg #[.int .i64 x.k0, .int .u8 x.k1, .bool x.k2, .bool x.k3], fun v _ => v = .pointer (some ⟨g_1, 7, none⟩), fun v _ => v = .int .i64 x.rw_, fun v _ => v = .pointer (some ⟨g_1, 8, none⟩), fun v _ => v = .int .i64 x.cl]) (fun W => Gr w_5 W) (by kernel_rfl) (by kernel_rfl) (by kernel_rfl) (by kernel_rfl) (by kernel_rfl) (Gr.refl _).drew ?_ ?_
  · refine ⟨?_, ⟨?_, ⟨?_, ⟨?_, ⟨?_, ⟨?_, ⟨?_, ⟨?_, ⟨?_, ⟨?_, ⟨?_, ⟨?_, ⟨?_, ⟨?_, ⟨?_, trivial⟩⟩⟩⟩⟩⟩⟩⟩⟩⟩⟩⟩⟩⟩⟩
    · intro L ys W hB hF hP K hK
      show OpE _ _ _ W K
      exact OpE.val (.pointer (some ⟨g_1, 0, none⟩)) W (by kernel_rfl) (hK _ W hB rfl (fun _ _ h => h))
    · intro L ys W hB hF hP K hK
      show OpE _ _ _ W K
      exact OpE.known (j := 0) (v := .pointer (some ⟨g_1, 0, none⟩)) (hF 0 (hP.1 rfl)) (OpE.load (g := g_1) (off := 0) (v := .int .i64 x.at_) rfl (by kernel_rfl) ((hs_6.grow hB).pt_at (i := 0) rfl) (by kernel_rfl) (hK _ W hB rfl (fun _ _ h => h)))
    · intro L ys W hB hF hP K hK
      show OpE _ _ _ W K
      exact OpE.val (.pointer (some ⟨g_1, 1, none⟩)) W (by kernel_rfl) (hK _ W hB rfl (fun _ _ h => h))
    · intro L ys W hB hF hP K hK
      show OpE _ _ _ W K
      exact OpE.known (j := 2) (v := .pointer (some ⟨g_1, 1, none⟩)) (hF 2 (hP.1 rfl)) (OpE.load (g := g_1) (off := 1) (v := .int .i64 x.kd) rfl (by kernel_rfl) ((hs_6.grow hB).pt_at (i := 0) rfl) (by kernel_rfl) (hK _ W hB rfl (fun _ _ h => h)))
    · intro L ys W hB hF hP K hK
      show OpE _ _ _ W K
      exact OpE.new (mk := fun g => .slice (some ⟨g, 0, none⟩) 0 0) (C := #[]) (T := 5) (by kernel_rfl) (hK _ _ (hB.alloc _) ⟨W.heap.size, rfl, heap_alloc_new _ _, hB.size⟩ (fun _ _ h => FW.gr HGR ((Gr.refl W).alloc _) h))
    · intro L ys W hB hF hP K hK
      show OpE _ _ _ W K
      exact OpE.val (.pointer (some ⟨g_1, 2, none⟩)) W (by kernel_rfl) (hK _ W hB rfl (fun _ _ h => h))
    · intro L ys W hB hF hP K hK
      show OpE _ _ _ W K
      exact OpE.known (j := 5) (v := .pointer (some ⟨g_1, 2, none⟩)) (hF 5 (hP.1 rfl)) (OpE.load (g := g_1) (off := 2) (v := .slice x.da x.bs.length x.dc) rfl (by kernel_rfl) ((hs_6.grow hB).pt_at (i := 0) rfl) (by kernel_rfl) (hK _ W hB rfl (fun _ _ h => h)))
    · intro L ys W hB hF hP K hK
      obtain ⟨gq4, hvq4, hbq4, hgq4⟩ := hF 4 (hP.1 rfl)
      show OpE _ _ _ W K
      obtain ⟨a_, c_, w_, hr_, hg_, hat_, hnew_⟩ := run_app0 (P := Try.prog) (t := 26) (tx := 26) (ty := 26) (z := .int .u8 0) (bytes := 1) (yv := .slice x.da x.bs.length x.dc) (m := x.bs.length) (news := bcells x.bs) (by kernel_rfl) (by kernel_rfl) (by kernel_rfl) (by kernel_rfl) hbq4 (srcD (el := 5) (by kernel_rfl) (hd.gr (hs_6.grow hB).gr)) (by omega)
      exact OpE.known (j := 4) (v := .slice (some ⟨gq4, 0, none⟩) 0 0) hvq4 (OpE.known (j := 6) (v := .slice x.da x.bs.length x.dc) (hF 6 (hP.2.1 rfl)) (OpE.val (.slice a_ (x.bs.length) c_) w_ (run_appop (v := .slice (some ⟨gq4, 0, none⟩) 0 0) (yv := .slice x.da x.bs.length x.dc) rfl (by kernel_rfl) (by kernel_rfl) hr_) (hK _ w_ (hB.trans hg_) ⟨a_, c_, rfl, hat_, fun g hg => (hnew_ g hg).elim (Nat.le_trans hB.size) (fun e => by rw [e]; exact hgq4)⟩ (fun _ _ h => FW.gr HGR hg_ h))))
    · intro L ys W hB hF hP K hK
      show OpE _ _ _ W K
      exact OpE.val (.pointer (some ⟨g_1, 3, none⟩)) W (by kernel_rfl) (hK _ W hB rfl (fun _ _ h => h))
    · intro L ys W hB hF hP K hK
      show OpE _ _ _ W K
      exact OpE.known (j := 8) (v := .pointer (some ⟨g_1, 3, none⟩)) (hF 8 (hP.1 rfl)) (OpE.load (g := g_1) (off := 3) (v := .agg #[.int .i64 x.k0, .int .u8 x.k1, .bool x.k2, .bool x.k3]) rfl (by kernel_rfl) ((hs_6.grow hB).pt_at (i := 0) rfl) (by kernel_rfl) (hK _ W hB rfl (fun _ _ h => h)))
    · intro L ys W hB hF hP K hK
      show OpE _ _ _ W K
      exact OpE.known (j := 9) (v := .agg #[.int .i64 x.k0, .int .u8 x.k1, .bool x.k2, .bool x.k3]) (hF 9 (hP.1 rfl)) (OpE.call 22 #[.agg #[.int .i64 x.k0, .int .u8 x.k1, .bool x.k2, .bool x.k3]] W _ (by kernel_rfl) (own22_any x W) (fun x w' hx => by obtain ⟨rfl, hg⟩ := hx; exact ⟨_, rfl, hK _ w' (hB.trans hg) rfl (fun _ _ h => FW.gr HGR hg h)⟩))
    · intro L ys W hB hF hP K hK
      show OpE _ _ _ W K
      exact OpE.val (.pointer (some ⟨g_1, 7, none⟩)) W (by kernel_rfl) (hK _ W hB rfl (fun _ _ h => h))
    · intro L ys W hB hF hP K hK
      show OpE _ _ _ W K
      exact OpE.known (j := 11) (v := .pointer (some ⟨g_1, 7, none⟩)) (hF 11 (hP.1 rfl)) (OpE.load (g := g_1) (off := 7) (v := .int .i64 x.rw_) rfl (by kernel_rfl) ((hs_6.grow hB).pt_at (i := 0) rfl) (by kernel_rfl) (hK _ W hB rfl (fun _ _ h => h)))
    · intro L ys W hB hF hP K hK
      show OpE _ _ _ W K
      exact OpE.val (.pointer (some ⟨g_1, 8, none⟩)) W (by kernel_rfl) (hK _ W hB rfl (fun _ _ h => h))
    · intro L ys W hB hF hP K hK
      show OpE _ _ _ W K
      exact OpE.known (j := 13) (v := .pointer (some ⟨g_1, 8, none⟩)) (hF 13 (hP.1 rfl)) (OpE.load (g := g_1) (off := 8) (v := .int .i64 x.cl) rfl (by kernel_rfl) ((hs_6.grow hB).pt_at (i := 0) rfl) (by kernel_rfl) (hK _ W hB rfl (fun _ _ h => h)))
  · intro ys_10 w_7 hs_8 hF_9
    have hg_11 := hs_8
    have hs_8 : SH [] w w_7 [pt g_1 #[.int .i64 x.at_, .int .i64 x.kd, .slice x.da x.bs.length x.dc, .int .i64 x.k0, .int .u8 x.k1, .bool x.k2, .bool x.k3, .int .i64 x.rw_, .int .i64 x.cl] 30, pt g_4 #[.int .i64 0, .int .i64 0, .slice none 0 0, .int .i64 0, .int .u8 0, .bool false, .bool false, .int .i64 0, .int .i64 0] 37] := hs_6.grow hg_11
    obtain ⟨a_13, c_14, hvq7, haq7, hgq7⟩ := hF_9 7 (by decide)
    have hs_12 := hs_6.freshP hg_11 haq7 hgq7
    have hs_12 : SH [] w w_7 [pt g_1 #[.int .i64 x.at_, .int .i64 x.kd, .slice x.da x.bs.length x.dc, .int .i64 x.k0, .int .u8 x.k1, .bool x.k2, .bool x.k3, .int .i64 x.rw_, .int .i64 x.cl] 30, pt g_4 #[.int .i64 0, .int .i64 0, .slice none 0 0, .int .i64 0, .int .u8 0, .bool false, .bool false, .int .i64 0, .int .i64 0] 37, rowH 5 1 a_13 (x.bs.length) c_14 (bcells x.bs)] := hs_12
    refine SL.knownY (j := 1) (v := .int .i64 x.at_) (show ys_10 1 = .int .i64 x.at_ from hF_9 1 (by decide)) (SL.knownY (j := 3) (v := .int .i64 x.kd) (show ys_10 3 = .int .i64 x.kd from hF_9 3 (by decide)) (SL.knownY (j := 7) (v := .slice a_13 x.bs.length c_14) hvq7 (SL.knownY (j := 10) (v := .agg #[.int .i64 x.k0, .int .u8 x.k1, .bool x.k2, .bool x.k3]) (show ys_10 10 = .agg #[.int .i64 x.k0, .int .u8 x.k1, .bool x.k2, .bool x.k3] from hF_9 10 (by decide)) (SL.knownY (j := 12) (v := .int .i64 x.rw_) (show ys_10 12 = .int .i64 x.rw_ from hF_9 12 (by decide)) (SL.knownY (j := 14) (v := .int .i64 x.cl) (show ys_10 14 = .int .i64 x.cl from hF_9 14 (by decide)) (?_))))))
    clear hF_9 HGR
    refine SL.v (.agg #[.int .i64 x.at_, .int .i64 x.kd, .slice a_13 x.bs.length c_14, .int .i64 x.k0, .int .u8 x.k1, .bool x.k2, .bool x.k3, .int .i64 x.rw_, .int .i64 x.cl]) ?_
    refine SL.storeH (i := 1) (g := g_4) (off := 0) (v := .agg #[.int .i64 x.at_, .int .i64 x.kd, .slice a_13 x.bs.length c_14, .int .i64 x.k0, .int .u8 x.k1, .bool x.k2, .bool x.k3, .int .i64 x.rw_, .int .i64 x.cl]) (L' := [pt g_1 #[.int .i64 x.at_, .int .i64 x.kd, .slice x.da x.bs.length x.dc, .int .i64 x.k0, .int .u8 x.k1, .bool x.k2, .bool x.k3, .int .i64 x.rw_, .int .i64 x.cl] 30, pt g_4 #[.int .i64 x.at_, .int .i64 x.kd, .slice a_13 x.bs.length c_14, .int .i64 x.k0, .int .u8 x.k1, .bool x.k2, .bool x.k3, .int .i64 x.rw_, .int .i64 x.cl] 37, rowH 5 1 a_13 (x.bs.length) c_14 (bcells x.bs)]) hs_12 rfl rfl rfl (by kernel_rfl) (by kernel_rfl) rfl (by kernel_rfl) (by kernel_rfl) rfl (by kernel_rfl) rfl (fun w_16 hs_17 => ?_)
    refine SL.nil ?_
    refine CW.ret ?_
    repeat with_reducible first | refine PThen.ret ?_ | refine PBlock.ret ?_
    refine PRet.cell (t := 2) (ty := 37) (g := g_4) (v := .agg #[.int .i64 x.at_, .int .i64 x.kd, .slice a_13 x.bs.length c_14, .int .i64 x.k0, .int .u8 x.k1, .bool x.k2, .bool x.k3, .int .i64 x.rw_, .int .i64 x.cl]) rfl rfl (by kernel_rfl) (hs_17.pt_at (i := 1) rfl) (by kernel_rfl) ?_
    exact ⟨a_13, c_14, rfl, hs_17.pick [2] rfl⟩
end Go.Proofs.Ytaelmkkobjdgbaa

namespace Go.Proofs.Ytaelmkkobjdgbaa
set_option linter.unusedSimpArgs false
set_option linter.unusedVariables false
open Go.RowKit
set_option linter.unusedVariables false

def xcells (l : List Itm) : List Value := flC itC l
theorem itC_len (p : Itm) : (itC p).length = 9 := rfl
theorem xcells_app (l m : List Itm) : xcells l ++ xcells m = xcells (l ++ m) := flC_app l m
def lC (e : LE) : Value := .slice e.a e.xs.length e.c
def lcells (l : List LE) : List Value := l.map lC
theorem lcells_app (l m : List LE) : lcells l ++ lcells m = lcells (l ++ m) := by simp [lcells]
/-- Items lie there. -/
def RowAt (w : World) (b off : Nat) (xs : List Itm) : Prop := ∃ C T fr, w.heap[b]? = some (.cells C T fr) ∧ ∀ i, i < xs.length → (C.toList.drop (off + i * 9)).take 9 = itC (xs.getD i itm0)
theorem RowAt.gr {w w' : World} {b off : Nat} {xs : List Itm} (h : RowAt w b off xs) (hg : Gr w w') : RowAt w' b off xs := by
  obtain ⟨C, T, fr, hb, hi⟩ := h
  exact ⟨C, T, fr, hg.blk hb, hi⟩
theorem RowAt.blk {w : World} {b off : Nat} {xs : List Itm} (h : RowAt w b off xs) : w.heap[b]? = some (.cells (blkC w b) (blkT w b) (blkF w b)) := by
  obtain ⟨C, T, fr, hb, _⟩ := h
  unfold blkC blkT blkF
  rw [hb]
theorem RowAt.many {w : World} {b off : Nat} {xs : List Itm} (h : RowAt w b off xs) {i : Nat} (h0 : i < xs.length) {j m : Nat} {cs : List Value} (hj : ((itC (xs.getD i itm0)).drop j).take m = cs) (hm : j + m ≤ 9) : ((blkC w b).toList.drop (off + i * 9 + j)).take m = cs := by
  obtain ⟨C, T, fr, hb, hi⟩ := h
  rw [blkC_eq hb]
  have := hi i h0
  rw [← hj, ← this, List.drop_take, List.take_take, List.drop_drop]
  congr 1
  omega
theorem RowAt.one {w : World} {b off : Nat} {xs : List Itm} (h : RowAt w b off xs) {i : Nat} (h0 : i < xs.length) {j : Nat} {v : Value} (hj : (itC (xs.getD i itm0))[j]? = some v) : (blkC w b)[off + i * 9 + j]? = some v := by
  obtain ⟨C, T, fr, hb, hi⟩ := h
  rw [blkC_eq hb]
  have h1 := hi i h0
  have hlt : j < 9 := (List.getElem?_eq_some_iff.1 hj).1
  rw [← h1, List.getElem?_take, if_pos hlt, List.getElem?_drop, Array.getElem?_toList] at hj
  exact hj
/-- Lists of items lie there, with their data. -/
def LF (Ls : List LE) (w : World) : Prop := ∀ e ∈ Ls, (0 < e.xs.length → ∃ b off, e.a = some ⟨b, off, none⟩ ∧ RowAt w b off e.xs) ∧ ∀ x ∈ e.xs, DataAt w x.da x.dc x.bs
theorem LF.gr {Ls : List LE} {w w' : World} (h : LF Ls w) (hg : Gr w w') : LF Ls w' := fun e he => ⟨fun h0 => by
  obtain ⟨b, off, h1, h2⟩ := (h e he).1 h0
  exact ⟨b, off, h1, h2.gr hg⟩, fun x hx => ((h e he).2 x hx).gr hg⟩
/-- The row of lists lies there. -/
def OutAt (w : World) (a : Option Addr) (Ls : List LE) : Prop := 0 < Ls.length → ∃ b off C T fr, a = some ⟨b, off, none⟩ ∧ w.heap[b]? = some (.cells C T fr) ∧ ∀ k, k < Ls.length → C[off + k]? = some (lC (Ls.getD k le0))
theorem OutAt.gr {w w' : World} {a : Option Addr} {Ls : List LE} (h : OutAt w a Ls) (hg : Gr w w') : OutAt w' a Ls := fun h0 => by
  obtain ⟨b, off, C, T, fr, h1, h2, h3⟩ := h h0
  exact ⟨b, off, C, T, fr, h1, hg.blk h2, h3⟩
theorem getD_mem {Ls : List LE} {k : Nat} (h : k < Ls.length) : Ls.getD k le0 ∈ Ls := by
  rw [List.getD_eq_getElem?_getD, List.getElem?_eq_getElem h]
  exact List.getElem_mem h
theorem getDx_mem {xs : List Itm} {k : Nat} (h : k < xs.length) : xs.getD k itm0 ∈ xs := by
  rw [List.getD_eq_getElem?_getD, List.getElem?_eq_getElem h]
  exact List.getElem_mem h
/-- One's own row of lists. -/
theorem outAt_row {w : World} {T n c : Nat} {a : Option Addr} {Ls : List LE} (h : w.ownsRow 0 T 1 (.slice a n c) n (lcells Ls)) (hn : n = Ls.length) : OutAt w a Ls := fun h0 => by
  obtain ⟨h1, h2 | ⟨g, cap, cur, hv, _, h4, h5, h6, h7, h8⟩⟩ := h
  · omega
  · simp only [Value.slice.injEq] at hv
    obtain ⟨rfl, _, rfl⟩ := hv
    refine ⟨g, 0, cur, T, (0, 0), rfl, h4, fun k hk => ?_⟩
    have h9 : (lcells Ls)[k]? = some (lC (Ls.getD k le0)) := by
      unfold lcells
      rw [List.getElem?_map, List.getD_eq_getElem?_getD, List.getElem?_eq_getElem hk]
      rfl
    rw [← h8, List.getElem?_take] at h9
    split at h9
    · rw [Nat.zero_add, ← Array.getElem?_toList]; exact h9
    · cases h9
theorem rowAt_row {w : World} {T n c : Nat} {a : Option Addr} {xs : List Itm} (h : w.ownsRow 0 T 9 (.slice a n c) n (xcells xs)) (hn : n = xs.length) (h0 : 0 < xs.length) : n ≤ c ∧ ∃ b off, a = some ⟨b, off, none⟩ ∧ RowAt w b off xs := by
  obtain ⟨h1, h2 | ⟨g, cap, cur, hv, _, h4, h5, h6, h7, h8⟩⟩ := h
  · omega
  · simp only [Value.slice.injEq] at hv
    obtain ⟨rfl, _, rfl⟩ := hv
    refine ⟨h5, g, 0, rfl, cur, T, (0, 0), h4, fun i hi => ?_⟩
    have h9 : ((xcells xs).drop (i * 9)).take 9 = itC (xs.getD i itm0) := by
      unfold xcells
      rw [flC_drop itC_len xs i itm0 hi, List.take_left' (itC_len _)]
    rw [← h9, ← h8, List.drop_take, List.take_take, Nat.zero_add]
    congr 1
    have : (i + 1) * 9 ≤ n * 9 := Nat.mul_le_mul_right 9 (by omega)
    omega
theorem dataAt_row {w : World} {T n c : Nat} {a : Option Addr} {bs : List Int} (h : w.ownsRow 0 T 1 (.slice a n c) n (bcells bs)) (hn : n = bs.length) : DataAt w a c bs := by
  obtain ⟨h1, h2 | ⟨g, cap, cur, hv, _, h4, h5, h6, h7, h8⟩⟩ := h
  · obtain ⟨hv, h0⟩ := h2
    simp only [Value.slice.injEq] at hv
    exact .inl ⟨hv.1, List.eq_nil_of_length_eq_zero (by omega), hv.2.2⟩
  · simp only [Value.slice.injEq] at hv
    obtain ⟨rfl, _, rfl⟩ := hv
    exact .inr (.inr ⟨g, 0, cur, T, (0, 0), rfl, h4, by rw [List.drop_zero, ← hn, ← h8, Nat.mul_one]⟩)
theorem allH_at {l : List HA} {w : World} {f : List Nat} (h : HSt l w f) : ∀ A ∈ l, ∃ f1, A.at_ w f1 := by
  induction l generalizing f with
  | nil => intro A hA; simp at hA
  | cons B l ih =>
    obtain ⟨f1, f2, rfl, h1, h2, h3⟩ := h
    intro A hA
    rcases List.mem_cons.1 hA with rfl | hA
    · exact ⟨f1, h1⟩
    · exact ih h2 A hA
/-- The memory of a list of items. -/
def rowP (T : TypeId) (e : LE) : HA := rowH T 9 e.a e.xs.length e.c (xcells e.xs)
theorem lf_of {U : List Nat} {w0 w : World} {As : List HA} {T : TypeId} {Ls : List LE} (h : SH U w0 w As) {i : Nat} (hi : As[i]? = some (allH (Ls.map (rowP T)))) (hd : ∀ e ∈ Ls, ∀ x ∈ e.xs, DataAt w x.da x.dc x.bs) : LF Ls w ∧ ∀ e ∈ Ls, 0 < e.xs.length → e.xs.length ≤ e.c := by
  obtain ⟨f, hf⟩ := h.get hi
  have hall := allH_at (l := Ls.map (rowP T)) hf
  refine ⟨fun e he => ⟨fun h0 => ?_, hd e he⟩, fun e he h0 => ?_⟩ <;> obtain ⟨f1, h1⟩ := hall _ (List.mem_map_of_mem he)
  · exact (rowAt_row h1.1 rfl h0).2
  · exact (rowAt_row h1.1 rfl h0).1
theorem run_ixS {P : Program} {w : World} {o : Oper} {e : Nat → Value} {t : TypeId} {x y : Operand} {len cap size i g off : Nat} {q : IntKind} {I : Int} {a : Option Addr} (ha : a = some ⟨g, off, none⟩) (ho : o.op = .indexAddr t x y) (hx : evE e x = .slice a len cap) (hy : evE e y = .int q I) (hI : I = (i : Int)) (ht : P.underlying t = some (.slice (P.elem t))) (hs : (P.info? (P.elem t)).map (·.size) = some size) (hi : i < len) :
    (execOp (evE e) o).run P w = .ok (.value (.pointer (some ⟨g, off + i * size, none⟩))) w := by
  subst ha
  exact run_ix (w := w) ho hx hy hI ht hs hi
end Go.Proofs.Ytaelmkkobjdgbaa
