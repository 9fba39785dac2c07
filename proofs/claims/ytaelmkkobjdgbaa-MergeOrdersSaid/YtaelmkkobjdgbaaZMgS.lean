/-
  Told, Same of items, Steps, walked (gen_mgq.py).
  Steps, walked (gen_mgr.py).
  The document's Merge: the plain law.
-/
import Derived.Test.YtaelmkkobjdgbaaZMgP
import Derived.Test.YtaelmkkobjdgbaaZSq
namespace Go.Proofs.Ytaelmkkobjdgbaa
set_option linter.unusedSimpArgs false
set_option linter.unusedVariables false
open Go.RowKit
set_option linter.unusedVariables false

theorem conv_data {w : World} {a : Option Addr} {c : Nat} {bs : List Int} (h : DataAt w a c bs) : (convert 26 9 (.slice a bs.length c)).run Try.prog w = .ok (.string (strOf bs)) w := by
  rcases h with ⟨rfl, rfl, rfl⟩ | ⟨x, rfl, rfl⟩ | ⟨b, off, C, T, fr, rfl, hb, hcut⟩
  · exact run_convert_bytes_nil w _ 5 Try.underlying26 Try.underlying5 0 0 _ Try.underlying9
  · show (convert _ _ (.slice (some x) 0 c)).run _ w = _
    rw [run_convert_bytes_string w _ _ 5 _ 0 c Try.underlying26 Try.underlying5 Try.underlying9]
    simp [Conv.bytesToString, loadCells]
    rfl
  · refine run_convert_bytes_arg w _ 5 Try.underlying26 Try.underlying5 b off bs.length c bs rfl (fun i hi => ?_) _ Try.underlying9
    have h9 : (bcells bs)[i]? = some (.int .u8 (bs.getD i 0)) := by
      unfold bcells
      rw [List.getElem?_map, List.getD_eq_getElem?_getD, List.getElem?_eq_getElem hi]
      rfl
    rw [← hcut, List.getElem?_take, if_pos hi, List.getElem?_drop, Array.getElem?_toList] at h9
    unfold World.cell?
    simp only [hb]
    simpa using h9
/-- A key's numbers are in their ranges. -/
def KW (x : Itm) : Prop := (Lit.int .i64 x.k0).wf = true ∧ (Lit.int .u8 x.k1).wf = true
theorem key_lits {x : Itm} (h : KW x) : ∀ z ∈ ([.int .i64 x.k0, .int .u8 x.k1, .bool x.k2, .bool x.k3] : List Lit), litOk z := fun z hz => by
  simp at hz
  rcases hz with rfl | rfl | rfl | rfl
  · exact h.1
  · exact h.2
  · trivial
  · trivial
set_option maxRecDepth 100000 in
theorem told_any (x : Itm) (w : World) : Calls Try.prog 13 #[.agg (itC x).toArray] w fun e w' => e = .returned (.agg (itC x).toArray) ∧ Gr w w' := by
  show Calls _ _ #[.agg #[.int .i64 x.at_, .int .i64 x.kd, .slice x.da x.bs.length x.dc, .int .i64 x.k0, .int .u8 x.k1, .bool x.k2, .bool x.k3, .int .i64 x.rw_, .int .i64 x.cl]] w _
  refine calls_sx (n := 27) (args := [.agg #[.int .i64 x.at_, .int .i64 x.kd, .slice x.da x.bs.length x.dc, .int .i64 x.k0, .int .u8 x.k1, .bool x.k2, .bool x.k3, .int .i64 x.rw_, .int .i64 x.cl]]) Try.func13 rfl rfl rfl ?_
  have hs0 := SH.none w
  refine CW.seq ?_
  refine CW.region ?_
  refine SL.newH (mk := fun g => .pointer (some ⟨g, 0, none⟩)) (C := #[.int .i64 x.at_, .int .i64 x.kd, .slice x.da x.bs.length x.dc, .int .i64 x.k0, .int .u8 x.k1, .bool x.k2, .bool x.k3, .int .i64 x.rw_, .int .i64 x.cl]) (T := 37) hs0 rfl rfl (by kernel_rfl) (fun g_1 w_2 hs_3 => ?_)
  have hs_3 : SH [] w w_2 [pt g_1 #[.int .i64 x.at_, .int .i64 x.kd, .slice x.da x.bs.length x.dc, .int .i64 x.k0, .int .u8 x.k1, .bool x.k2, .bool x.k3, .int .i64 x.rw_, .int .i64 x.cl] 37] := hs_3
  refine SL.newH (mk := fun g => .pointer (some ⟨g, 0, none⟩)) (C := #[.int .i64 0, .int .i64 0, .slice none 0 0, .int .i64 0, .int .u8 0, .bool false, .bool false, .int .i64 0, .int .i64 0]) (T := 30) hs_3 rfl rfl (by kernel_rfl) (fun g_4 w_5 hs_6 => ?_)
  have hs_6 : SH [] w w_5 [pt g_1 #[.int .i64 x.at_, .int .i64 x.kd, .slice x.da x.bs.length x.dc, .int .i64 x.k0, .int .u8 x.k1, .bool x.k2, .bool x.k3, .int .i64 x.rw_, .int .i64 x.cl] 37, pt g_4 #[.int .i64 0, .int .i64 0, .slice none 0 0, .int .i64 0, .int .u8 0, .bool false, .bool false, .int .i64 0, .int .i64 0] 30] := hs_6
  refine SL.nil ?_
  refine CW.seq ?_
  refine CW.region ?_
  refine SL.v (.pointer (some ⟨g_1, 0, none⟩)) ?_
  refine SL.load (g := g_1) (off := 0) (v := .int .i64 x.at_) rfl rfl rfl (by kernel_rfl) (hs_6.pt_at (i := 0) rfl) (by kernel_rfl) ?_
  refine SL.v (.pointer (some ⟨g_1, 1, none⟩)) ?_
  refine SL.load (g := g_1) (off := 1) (v := .int .i64 x.kd) rfl rfl rfl (by kernel_rfl) (hs_6.pt_at (i := 0) rfl) (by kernel_rfl) ?_
  refine SL.v (.pointer (some ⟨g_1, 2, none⟩)) ?_
  refine SL.load (g := g_1) (off := 2) (v := .slice x.da x.bs.length x.dc) rfl rfl rfl (by kernel_rfl) (hs_6.pt_at (i := 0) rfl) (by kernel_rfl) ?_
  refine SL.v (.pointer (some ⟨g_1, 3, none⟩)) ?_
  refine SL.v (.pointer (some ⟨g_1, 3, none⟩)) ?_
  refine SL.load (g := g_1) (off := 3) (v := .int .i64 x.k0) rfl rfl rfl (by kernel_rfl) (hs_6.pt_at (i := 0) rfl) (by kernel_rfl) ?_
  refine SL.v (.pointer (some ⟨g_1, 3, none⟩)) ?_
  refine SL.v (.pointer (some ⟨g_1, 4, none⟩)) ?_
  refine SL.load (g := g_1) (off := 4) (v := .int .u8 x.k1) rfl rfl rfl (by kernel_rfl) (hs_6.pt_at (i := 0) rfl) (by kernel_rfl) ?_
  refine SL.v (.pointer (some ⟨g_1, 3, none⟩)) ?_
  refine SL.v (.pointer (some ⟨g_1, 5, none⟩)) ?_
  refine SL.load (g := g_1) (off := 5) (v := .bool x.k2) rfl rfl rfl (by kernel_rfl) (hs_6.pt_at (i := 0) rfl) (by kernel_rfl) ?_
  refine SL.v (.pointer (some ⟨g_1, 3, none⟩)) ?_
  refine SL.v (.pointer (some ⟨g_1, 6, none⟩)) ?_
  refine SL.load (g := g_1) (off := 6) (v := .bool x.k3) rfl rfl rfl (by kernel_rfl) (hs_6.pt_at (i := 0) rfl) (by kernel_rfl) ?_
  refine SL.v (.agg #[.int .i64 x.k0, .int .u8 x.k1, .bool x.k2, .bool x.k3]) ?_
  refine SL.v (.pointer (some ⟨g_1, 7, none⟩)) ?_
  refine SL.load (g := g_1) (off := 7) (v := .int .i64 x.rw_) rfl rfl rfl (by kernel_rfl) (hs_6.pt_at (i := 0) rfl) (by kernel_rfl) ?_
  refine SL.v (.pointer (some ⟨g_1, 8, none⟩)) ?_
  refine SL.load (g := g_1) (off := 8) (v := .int .i64 x.cl) rfl rfl rfl (by kernel_rfl) (hs_6.pt_at (i := 0) rfl) (by kernel_rfl) ?_
  refine SL.v (.agg #[.int .i64 x.at_, .int .i64 x.kd, .slice x.da x.bs.length x.dc, .int .i64 x.k0, .int .u8 x.k1, .bool x.k2, .bool x.k3, .int .i64 x.rw_, .int .i64 x.cl]) ?_
  refine SL.storeH (i := 1) (g := g_4) (off := 0) (v := .agg #[.int .i64 x.at_, .int .i64 x.kd, .slice x.da x.bs.length x.dc, .int .i64 x.k0, .int .u8 x.k1, .bool x.k2, .bool x.k3, .int .i64 x.rw_, .int .i64 x.cl]) (L' := [pt g_1 #[.int .i64 x.at_, .int .i64 x.kd, .slice x.da x.bs.length x.dc, .int .i64 x.k0, .int .u8 x.k1, .bool x.k2, .bool x.k3, .int .i64 x.rw_, .int .i64 x.cl] 37, pt g_4 #[.int .i64 x.at_, .int .i64 x.kd, .slice x.da x.bs.length x.dc, .int .i64 x.k0, .int .u8 x.k1, .bool x.k2, .bool x.k3, .int .i64 x.rw_, .int .i64 x.cl] 30]) hs_6 rfl rfl rfl (by kernel_rfl) (by kernel_rfl) rfl (by kernel_rfl) (by kernel_rfl) rfl (by kernel_rfl) rfl (fun w_7 hs_8 => ?_)
  refine SL.nil ?_
  refine CW.ret ?_
  repeat with_reducible first | refine PThen.ret ?_ | refine PBlock.ret ?_
  refine PRet.cell (t := 2) (ty := 30) (g := g_4) (v := .agg #[.int .i64 x.at_, .int .i64 x.kd, .slice x.da x.bs.length x.dc, .int .i64 x.k0, .int .u8 x.k1, .bool x.k2, .bool x.k3, .int .i64 x.rw_, .int .i64 x.cl]) rfl rfl (by kernel_rfl) (hs_8.pt_at (i := 1) rfl) (by kernel_rfl) ?_
  exact ⟨rfl, hs_8.gr⟩
set_option maxRecDepth 100000 in
set_option maxHeartbeats 4000000 in
theorem same_eq (x : Itm) (a : Option Addr) (c : Nat) (w : World) (hd : DataAt w x.da x.dc x.bs) (hy : DataAt w a c x.bs) (hkw : KW x) : Calls Try.prog 12 #[.agg (itC x).toArray, .agg (itC (x.with a c)).toArray] w fun e w' => e = .returned (.bool true) ∧ Gr w w' := by
  show Calls _ _ #[.agg #[.int .i64 x.at_, .int .i64 x.kd, .slice x.da x.bs.length x.dc, .int .i64 x.k0, .int .u8 x.k1, .bool x.k2, .bool x.k3, .int .i64 x.rw_, .int .i64 x.cl], .agg #[.int .i64 x.at_, .int .i64 x.kd, .slice a x.bs.length c, .int .i64 x.k0, .int .u8 x.k1, .bool x.k2, .bool x.k3, .int .i64 x.rw_, .int .i64 x.cl]] w _
  refine calls_sx (n := 47) (args := [.agg #[.int .i64 x.at_, .int .i64 x.kd, .slice x.da x.bs.length x.dc, .int .i64 x.k0, .int .u8 x.k1, .bool x.k2, .bool x.k3, .int .i64 x.rw_, .int .i64 x.cl], .agg #[.int .i64 x.at_, .int .i64 x.kd, .slice a x.bs.length c, .int .i64 x.k0, .int .u8 x.k1, .bool x.k2, .bool x.k3, .int .i64 x.rw_, .int .i64 x.cl]]) Try.func12 rfl rfl rfl ?_
  have hs0 := SH.none w
  refine CW.seq ?_
  refine CW.region ?_
  refine SL.newH (mk := fun g => .pointer (some ⟨g, 0, none⟩)) (C := #[.int .i64 x.at_, .int .i64 x.kd, .slice x.da x.bs.length x.dc, .int .i64 x.k0, .int .u8 x.k1, .bool x.k2, .bool x.k3, .int .i64 x.rw_, .int .i64 x.cl]) (T := 30) hs0 rfl rfl (by kernel_rfl) (fun g_1 w_2 hs_3 => ?_)
  have hs_3 : SH [] w w_2 [pt g_1 #[.int .i64 x.at_, .int .i64 x.kd, .slice x.da x.bs.length x.dc, .int .i64 x.k0, .int .u8 x.k1, .bool x.k2, .bool x.k3, .int .i64 x.rw_, .int .i64 x.cl] 30] := hs_3
  refine SL.newH (mk := fun g => .pointer (some ⟨g, 0, none⟩)) (C := #[.int .i64 x.at_, .int .i64 x.kd, .slice a x.bs.length c, .int .i64 x.k0, .int .u8 x.k1, .bool x.k2, .bool x.k3, .int .i64 x.rw_, .int .i64 x.cl]) (T := 30) hs_3 rfl rfl (by kernel_rfl) (fun g_4 w_5 hs_6 => ?_)
  have hs_6 : SH [] w w_5 [pt g_1 #[.int .i64 x.at_, .int .i64 x.kd, .slice x.da x.bs.length x.dc, .int .i64 x.k0, .int .u8 x.k1, .bool x.k2, .bool x.k3, .int .i64 x.rw_, .int .i64 x.cl] 30, pt g_4 #[.int .i64 x.at_, .int .i64 x.kd, .slice a x.bs.length c, .int .i64 x.k0, .int .u8 x.k1, .bool x.k2, .bool x.k3, .int .i64 x.rw_, .int .i64 x.cl] 30] := hs_6
  refine SL.v (.bool false) ?_
  refine SL.nil ?_
  refine CW.seq ?_
  refine CW.region ?_
  refine SL.v (.pointer (some ⟨g_1, 0, none⟩)) ?_
  refine SL.load (g := g_1) (off := 0) (v := .int .i64 x.at_) rfl rfl rfl (by kernel_rfl) (hs_6.pt_at (i := 0) rfl) (by kernel_rfl) ?_
  refine SL.v (.pointer (some ⟨g_4, 0, none⟩)) ?_
  refine SL.load (g := g_4) (off := 0) (v := .int .i64 x.at_) rfl rfl rfl (by kernel_rfl) (hs_6.pt_at (i := 1) rfl) (by kernel_rfl) ?_
  refine SL.val (v := .bool true) (w' := w_5) rfl rfl (run_eqv (by kernel_rfl) (congrArg Value.bool (show (x.at_ == x.at_) = (true) from (beq_self_eq_true _)))) ?_
  refine SL.v (.bool true) ?_
  refine SL.go ?_
  refine SL.v (.pointer (some ⟨g_1, 1, none⟩)) ?_
  refine SL.go ?_
  refine SL.load (g := g_1) (off := 1) (v := .int .i64 x.kd) rfl rfl rfl (by kernel_rfl) (hs_6.pt_at (i := 0) rfl) (by kernel_rfl) ?_
  refine SL.go ?_
  refine SL.v (.pointer (some ⟨g_4, 1, none⟩)) ?_
  refine SL.go ?_
  refine SL.load (g := g_4) (off := 1) (v := .int .i64 x.kd) rfl rfl rfl (by kernel_rfl) (hs_6.pt_at (i := 1) rfl) (by kernel_rfl) ?_
  refine SL.go ?_
  refine SL.val (v := .bool true) (w' := w_5) rfl rfl (run_eqv (by kernel_rfl) (congrArg Value.bool (show (x.kd == x.kd) = (true) from (beq_self_eq_true _)))) ?_
  refine SL.v (.bool true) ?_
  refine SL.v (.bool true) ?_
  refine SL.go ?_
  refine SL.v (.pointer (some ⟨g_1, 2, none⟩)) ?_
  refine SL.go ?_
  refine SL.load (g := g_1) (off := 2) (v := .slice x.da x.bs.length x.dc) rfl rfl rfl (by kernel_rfl) (hs_6.pt_at (i := 0) rfl) (by kernel_rfl) ?_
  refine SL.go ?_
  refine SL.val (v := .string (strOf x.bs)) (w' := w_5) rfl rfl (run_conv rfl (by kernel_rfl) (conv_data (hd.gr hs_6.gr))) ?_
  refine SL.go ?_
  refine SL.v (.pointer (some ⟨g_4, 2, none⟩)) ?_
  refine SL.go ?_
  refine SL.load (g := g_4) (off := 2) (v := .slice a x.bs.length c) rfl rfl rfl (by kernel_rfl) (hs_6.pt_at (i := 1) rfl) (by kernel_rfl) ?_
  refine SL.go ?_
  refine SL.val (v := .string (strOf x.bs)) (w' := w_5) rfl rfl (run_conv rfl (by kernel_rfl) (conv_data (hy.gr hs_6.gr))) ?_
  refine SL.go ?_
  refine SL.val (v := .bool true) (w' := w_5) rfl rfl (run_streqB (a := strOf x.bs) (b := strOf x.bs) (c := true) rfl (by kernel_rfl) (by kernel_rfl) (seqB_self _)) ?_
  refine SL.v (.bool true) ?_
  refine SL.v (.bool true) ?_
  refine SL.go ?_
  refine SL.v (.pointer (some ⟨g_1, 3, none⟩)) ?_
  refine SL.go ?_
  refine SL.load (g := g_1) (off := 3) (v := .agg #[.int .i64 x.k0, .int .u8 x.k1, .bool x.k2, .bool x.k3]) rfl rfl rfl (by kernel_rfl) (hs_6.pt_at (i := 0) rfl) (by kernel_rfl) ?_
  refine SL.go ?_
  refine SL.v (.pointer (some ⟨g_4, 3, none⟩)) ?_
  refine SL.go ?_
  refine SL.load (g := g_4) (off := 3) (v := .agg #[.int .i64 x.k0, .int .u8 x.k1, .bool x.k2, .bool x.k3]) rfl rfl rfl (by kernel_rfl) (hs_6.pt_at (i := 1) rfl) (by kernel_rfl) ?_
  refine SL.go ?_
  refine SL.val (v := .bool true) (w' := w_5) rfl rfl (run_eql_op (xs := #[.int .i64 x.k0, .int .u8 x.k1, .bool x.k2, .bool x.k3]) (ys := #[.int .i64 x.k0, .int .u8 x.k1, .bool x.k2, .bool x.k3]) (b := true) rfl (by kernel_rfl) (by kernel_rfl) (by kernel_rfl) (run_eql_flat (x := .agg #[.int .i64 x.k0, .int .u8 x.k1, .bool x.k2, .bool x.k3]) (y := .agg #[.int .i64 x.k0, .int .u8 x.k1, .bool x.k2, .bool x.k3]) (b := true) (m := 6) (lx := [.int .i64 x.k0, .int .u8 x.k1, .bool x.k2, .bool x.k3]) (ly := [.int .i64 x.k0, .int .u8 x.k1, .bool x.k2, .bool x.k3]) (by kernel_rfl) (by kernel_rfl) (by kernel_rfl) (by kernel_rfl) (by kernel_rfl) (by kernel_rfl) (key_lits hkw) (key_lits hkw) ⟨fun _ => rfl, fun _ => rfl⟩)) ?_
  refine SL.v (.bool true) ?_
  refine SL.v (.bool true) ?_
  refine SL.go ?_
  refine SL.v (.pointer (some ⟨g_1, 7, none⟩)) ?_
  refine SL.go ?_
  refine SL.load (g := g_1) (off := 7) (v := .int .i64 x.rw_) rfl rfl rfl (by kernel_rfl) (hs_6.pt_at (i := 0) rfl) (by kernel_rfl) ?_
  refine SL.go ?_
  refine SL.v (.pointer (some ⟨g_4, 7, none⟩)) ?_
  refine SL.go ?_
  refine SL.load (g := g_4) (off := 7) (v := .int .i64 x.rw_) rfl rfl rfl (by kernel_rfl) (hs_6.pt_at (i := 1) rfl) (by kernel_rfl) ?_
  refine SL.go ?_
  refine SL.val (v := .bool true) (w' := w_5) rfl rfl (run_eqv (by kernel_rfl) (congrArg Value.bool (show (x.rw_ == x.rw_) = (true) from (beq_self_eq_true _)))) ?_
  refine SL.v (.bool true) ?_
  refine SL.v (.bool true) ?_
  refine SL.go ?_
  refine SL.v (.pointer (some ⟨g_1, 8, none⟩)) ?_
  refine SL.go ?_
  refine SL.load (g := g_1) (off := 8) (v := .int .i64 x.cl) rfl rfl rfl (by kernel_rfl) (hs_6.pt_at (i := 0) rfl) (by kernel_rfl) ?_
  refine SL.go ?_
  refine SL.v (.pointer (some ⟨g_4, 8, none⟩)) ?_
  refine SL.go ?_
  refine SL.load (g := g_4) (off := 8) (v := .int .i64 x.cl) rfl rfl rfl (by kernel_rfl) (hs_6.pt_at (i := 1) rfl) (by kernel_rfl) ?_
  refine SL.go ?_
  refine SL.val (v := .bool true) (w' := w_5) rfl rfl (run_eqv (by kernel_rfl) (congrArg Value.bool (show (x.cl == x.cl) = (true) from (beq_self_eq_true _)))) ?_
  refine SL.v (.bool true) ?_
  refine SL.v (.bool true) ?_
  refine SL.nil ?_
  refine CW.ret ?_
  repeat with_reducible first | refine PThen.ret ?_ | refine PBlock.ret ?_
  refine PRet.tmp (t := 4) (v := .bool true) rfl rfl (by kernel_rfl) ?_
  exact ⟨rfl, hs_6.gr⟩
end Go.Proofs.Ytaelmkkobjdgbaa

namespace Go.Proofs.Ytaelmkkobjdgbaa
set_option linter.unusedSimpArgs false
set_option linter.unusedVariables false
open Go.RowKit
set_option linter.unusedVariables false

/-- How often the source changes, up to the k-th. -/
def chg (l : List Pl) : Nat → Nat
  | 0 => 0
  | k + 1 => chg l k + (if 0 < k ∧ (l.getD k pl0).n ≠ (l.getD (k - 1) pl0).n then 1 else 0)
theorem chg_le (l : List Pl) : ∀ k, chg l k ≤ k
  | 0 => Nat.le_refl _
  | k + 1 => by
    have := chg_le l k
    unfold chg
    split <;> omega
theorem chg_ne {l : List Pl} {k : Nat} (h0 : 0 < k) (h : ¬ (l.getD k pl0).n = (l.getD (k - 1) pl0).n) : chg l (k + 1) = chg l k + 1 := by
  show chg l k + _ = _
  rw [if_pos ⟨h0, h⟩]
theorem chg_eq {l : List Pl} {k : Nat} (h : k = 0 ∨ (l.getD k pl0).n = (l.getD (k - 1) pl0).n) : chg l (k + 1) = chg l k := by
  show chg l k + _ = _
  rw [if_neg (fun h2 => by rcases h with h | h; omega; exact h2.2 h)]
  rfl
theorem chg_congr {l m : List Pl} (h : ∀ i, (l.getD i pl0).n = (m.getD i pl0).n) : ∀ k, chg l k = chg m k
  | 0 => rfl
  | k + 1 => by
    unfold chg
    rw [chg_congr h k, h k, h (k - 1)]
set_option maxRecDepth 100000 in
set_option maxHeartbeats 4000000 in
theorem rsteps_tr (a : Option Addr) (c : Nat) (l : List Pl) (w : World) (hn : l.length ≤ 1000000) : Tr Try.prog 11 #[.slice a (l).length c] w [rowH 46 10 a (l).length c (pcells l)] (fun v Q => v = .int .i64 ((chg l l.length : Nat) : Int) ∧ Q = [rowH 46 10 a (l).length c (pcells l)]) := by
  refine Tr.of fun U hs0 => ?_
  refine calls_sx (n := 26) (args := [.slice a ((l).length) c]) Try.func11 rfl rfl rfl ?_
  refine CW.seq ?_
  refine CW.region ?_
  refine SL.v (.int .i64 0) ?_
  refine SL.nil ?_
  refine CW.seq ?_
  refine CW.region ?_
  refine SL.v (.int .i64 0) ?_
  refine SL.nil ?_
  refine CW.seq ?_
  refine CW.seq ?_
  refine CW.region ?_
  refine SL.v (.int .i64 1) ?_
  refine SL.nil ?_
  refine CW.block ?_
  refine CW.loopI (fun m_ e9 w9 => ∃ (i : Nat), ∃ (t : Nat), m_ = l.length - i ∧ SH U w w9 [rowH 46 10 a (l).length c (pcells l)] ∧ (1 ≤ i) ∧ (i ≤ l.length ∨ i = 1) ∧ (t = chg l i) ∧ e9 0 = .slice a ((l).length) c ∧ e9 2 = .int .i64 0 ∧ e9 3 = .int .i64 ((t : Nat) : Int) ∧ e9 4 = .int .i64 ((i : Nat) : Int)) ⟨_, 1, 0, rfl, hs0, (Nat.le_refl _), (.inr rfl), rfl, (by kernel_rfl), (by kernel_rfl), (by kernel_rfl), (by kernel_rfl)⟩ ?_
  rintro m_1 e_2 w_3 ⟨i, t, hm_5, hs_4, hi1, hi, ht, hv_6, hv_7, hv_8, hv_9⟩
  obtain ⟨e_10, rfl⟩ : ∃ e_10, e_2 = put1 (put1 (put1 (put1 e_10 0 (.slice a ((l).length) c)) 2 (.int .i64 0)) 3 (.int .i64 ((t : Nat) : Int))) 4 (.int .i64 ((i : Nat) : Int)) := ⟨e_2, (put_self hv_9).trans (congrArg (fun z => put1 z 4 (.int .i64 ((i : Nat) : Int))) ((put_self hv_8).trans (congrArg (fun z => put1 z 3 (.int .i64 ((t : Nat) : Int))) ((put_self hv_7).trans (congrArg (fun z => put1 z 2 (.int .i64 0)) (put_self hv_6))))))⟩
  clear hv_6 hv_7 hv_8 hv_9
  have hcl_ := chg_le l i
  refine CW.seq ?_
  refine CW.seq ?_
  refine CW.region ?_
  refine SL.v (.int .i64 ((i : Nat) : Int)) ?_
  refine SL.v (.slice a ((l).length) c) ?_
  refine SL.val (v := .int .i64 (((l).length : Nat) : Int)) (w' := w_3) rfl rfl (by kernel_rfl) ?_
  refine SL.v (.bool (decide (((i : Nat) : Int) < (((l).length : Nat) : Int)))) ?_
  refine SL.nil ?_
  rcases Bool.eq_false_or_eq_true (decide (((i : Nat) : Int) < (((l).length : Nat) : Int))) with hb_11 | hb_11
  · try rw [hb_11]
    have hqhb_11 := of_decide_eq_true hb_11
    refine CW.cond_true (by kernel_rfl) ?_
    refine CW.skip ?_
    refine CW.seq ?_
    refine CW.block ?_
    refine CW.seq ?_
    obtain ⟨g_12, ha_13⟩ := hs_4.row_some (i := 0) rfl (show 0 < (l).length by omega)
    have HGR : GrL [fun v _ => v = .slice a ((l).length) c, fun v _ => v = .int .i64 ((i : Nat) : Int), fun v _ => v = .pointer (some ⟨g_12, i * 10, none⟩), fun v _ => v = .pointer (some ⟨g_12, i * 10 + 9, none⟩), fun v _ => v = .int .i64 (((l.getD i pl0).n : Nat) : Int), fun v _ => v = .slice a ((l).length) c, fun v _ => v = .int .i64 ((i : Nat) : Int), fun v _ => v = .int .i64 ((i - 1 : Nat) : Int), fun v _ => v = .pointer (some ⟨g_12, (i - 1) * 10, none⟩), fun v _ => v = .pointer (some ⟨g_12, (i - 1) * 10 + 9, none⟩), fun v _ => v = .int .i64 (((l.getD (i - 1) pl0).n : Nat) : Int)] := ⟨fun _ _ _ _ h => h, ⟨fun _ _ _ _ h => h, ⟨fun _ _ _ _ h => h, ⟨fun _ _ _ _ h => h, ⟨fun _ _ _ _ h => h, ⟨fun _ _ _ _ h => h, ⟨fun _ _ _ _ h => h, ⟨fun _ _ _ _ h => h, ⟨fun _ _ _ _ h => h, ⟨fun _ _ _ _ h => h, ⟨fun _ _ _ _ h => h, trivial⟩⟩⟩⟩⟩⟩⟩⟩⟩⟩⟩
    refine CW.draw 11 (FW [fun v _ => v = .slice a ((l).length) c, fun v _ => v = .int .i64 ((i : Nat) : Int), fun v _ => v = .pointer (some ⟨g_12, i * 10, none⟩), fun v _ => v = .pointer (some ⟨g_12, i * 10 + 9, none⟩), fun v _ => v = .int .i64 (((l.getD i pl0).n : Nat) : Int), fun v _ => v = .slice a ((l).length) c, fun v _ => v = .int .i64 ((i : Nat) : Int), fun v _ => v = .int .i64 ((i - 1 : Nat) : Int), fun v _ => v = .pointer (some ⟨g_12, (i - 1) * 10, none⟩), fun v _ => v = .pointer (some ⟨g_12, (i - 1) * 10 + 9, none⟩), fun v _ => v = .int .i64 (((l.getD (i - 1) pl0).n : Nat) : Int)]) (fun W => Gr w_3 W) (by kernel_rfl) (by kernel_rfl) (by kernel_rfl) (by kernel_rfl) (by kernel_rfl) (Gr.refl _).drew ?_ ?_
    · refine ⟨?_, ⟨?_, ⟨?_, ⟨?_, ⟨?_, ⟨?_, ⟨?_, ⟨?_, ⟨?_, ⟨?_, ⟨?_, trivial⟩⟩⟩⟩⟩⟩⟩⟩⟩⟩⟩
      · intro L ys W hB hF hP K hK
        show OpE _ _ _ W K
        exact OpE.val (.slice a ((l).length) c) W (by kernel_rfl) (hK _ W hB rfl (fun _ _ h => h))
      · intro L ys W hB hF hP K hK
        show OpE _ _ _ W K
        exact OpE.val (.int .i64 ((i : Nat) : Int)) W (by kernel_rfl) (hK _ W hB rfl (fun _ _ h => h))
      · intro L ys W hB hF hP K hK
        show OpE _ _ _ W K
        exact OpE.known (j := 0) (v := .slice a ((l).length) c) (hF 0 (hP.1 rfl)) (OpE.known (j := 1) (v := .int .i64 ((i : Nat) : Int)) (hF 1 (hP.2.1 rfl)) (OpE.val (.pointer (some ⟨g_12, i * 10, none⟩)) W (run_ixR (len := (l).length) (cap := c) (q := .i64) (I := ((i : Nat) : Int)) (i := i) (size := 10) ha_13 rfl (by kernel_rfl) (by kernel_rfl) rfl (by kernel_rfl) (by kernel_rfl) (by omega)) (hK _ W hB rfl (fun _ _ h => h))))
      · intro L ys W hB hF hP K hK
        show OpE _ _ _ W K
        exact OpE.known (j := 2) (v := .pointer (some ⟨g_12, i * 10, none⟩)) (hF 2 (hP.1 rfl)) (OpE.val (.pointer (some ⟨g_12, i * 10 + 9, none⟩)) W (by kernel_rfl) (hK _ W hB rfl (fun _ _ h => h)))
      · intro L ys W hB hF hP K hK
        show OpE _ _ _ W K
        exact OpE.known (j := 3) (v := .pointer (some ⟨g_12, i * 10 + 9, none⟩)) (hF 3 (hP.1 rfl)) (OpE.load (g := g_12) (off := i * 10 + 9) (v := .int .i64 (((l.getD i pl0).n : Nat) : Int)) rfl (by kernel_rfl) ((hs_4.grow hB).row_blk (i := 0) ha_13 rfl) (ldV_one (by kernel_rfl) (by kernel_rfl) ((hs_4.grow hB).row_one (i := 0) ha_13 rfl (pcells_get (i := i) (j := 9) (by omega) rfl))) (hK _ W hB rfl (fun _ _ h => h)))
      · intro L ys W hB hF hP K hK
        show OpE _ _ _ W K
        exact OpE.val (.slice a ((l).length) c) W (by kernel_rfl) (hK _ W hB rfl (fun _ _ h => h))
      · intro L ys W hB hF hP K hK
        show OpE _ _ _ W K
        exact OpE.val (.int .i64 ((i : Nat) : Int)) W (by kernel_rfl) (hK _ W hB rfl (fun _ _ h => h))
      · intro L ys W hB hF hP K hK
        show OpE _ _ _ W K
        exact OpE.known (j := 6) (v := .int .i64 ((i : Nat) : Int)) (hF 6 (hP.1 rfl)) (OpE.val (.int .i64 ((i - 1 : Nat) : Int)) W (by have hw : IntKind.i64.wrap (((i : Nat) : Int) - 1) = ((i - 1 : Nat) : Int) := (IntWalk.i64_in _ (by omega)).trans (by omega); exact run_eqv (by kernel_rfl) (congrArg (fun z => Value.int .i64 z) hw)) (hK _ W hB rfl (fun _ _ h => h)))
      · intro L ys W hB hF hP K hK
        show OpE _ _ _ W K
        exact OpE.known (j := 5) (v := .slice a ((l).length) c) (hF 5 (hP.1 rfl)) (OpE.known (j := 7) (v := .int .i64 ((i - 1 : Nat) : Int)) (hF 7 (hP.2.1 rfl)) (OpE.val (.pointer (some ⟨g_12, (i - 1) * 10, none⟩)) W (run_ixR (len := (l).length) (cap := c) (q := .i64) (I := ((i - 1 : Nat) : Int)) (i := i - 1) (size := 10) ha_13 rfl (by kernel_rfl) (by kernel_rfl) rfl (by kernel_rfl) (by kernel_rfl) (by omega)) (hK _ W hB rfl (fun _ _ h => h))))
      · intro L ys W hB hF hP K hK
        show OpE _ _ _ W K
        exact OpE.known (j := 8) (v := .pointer (some ⟨g_12, (i - 1) * 10, none⟩)) (hF 8 (hP.1 rfl)) (OpE.val (.pointer (some ⟨g_12, (i - 1) * 10 + 9, none⟩)) W (by kernel_rfl) (hK _ W hB rfl (fun _ _ h => h)))
      · intro L ys W hB hF hP K hK
        show OpE _ _ _ W K
        exact OpE.known (j := 9) (v := .pointer (some ⟨g_12, (i - 1) * 10 + 9, none⟩)) (hF 9 (hP.1 rfl)) (OpE.load (g := g_12) (off := (i - 1) * 10 + 9) (v := .int .i64 (((l.getD (i - 1) pl0).n : Nat) : Int)) rfl (by kernel_rfl) ((hs_4.grow hB).row_blk (i := 0) ha_13 rfl) (ldV_one (by kernel_rfl) (by kernel_rfl) ((hs_4.grow hB).row_one (i := 0) ha_13 rfl (pcells_get (i := i - 1) (j := 9) (by omega) rfl))) (hK _ W hB rfl (fun _ _ h => h)))
    · intro ys_17 w_14 hs_15 hF_16
      have hg_18 := hs_15
      have hs_15 : SH U w w_14 [rowH 46 10 a (l).length c (pcells l)] := hs_4.grow hg_18
      refine SL.knownY (j := 4) (v := .int .i64 (((l.getD i pl0).n : Nat) : Int)) (show ys_17 4 = .int .i64 (((l.getD i pl0).n : Nat) : Int) from hF_16 4 (by decide)) (SL.knownY (j := 10) (v := .int .i64 (((l.getD (i - 1) pl0).n : Nat) : Int)) (show ys_17 10 = .int .i64 (((l.getD (i - 1) pl0).n : Nat) : Int) from hF_16 10 (by decide)) (?_))
      clear hF_16 HGR
      refine SL.v (.bool (!((((l.getD i pl0).n : Nat) : Int) == (((l.getD (i - 1) pl0).n : Nat) : Int)))) ?_
      refine SL.nil ?_
      rcases Bool.eq_false_or_eq_true ((((l.getD i pl0).n : Nat) : Int) == (((l.getD (i - 1) pl0).n : Nat) : Int)) with hb_19 | hb_19
      · try rw [hb_19]
        have hqhb_19 := eq_of_beq hb_19
        refine CW.cond_false (by kernel_rfl) ?_
        refine CW.skip ?_
        refine CW.region ?_
        refine SL.v (.int .i64 ((i : Nat) : Int)) ?_
        refine SL.val (v := .int .i64 ((i + 1 : Nat) : Int)) (w' := w_14) rfl rfl (by have hw : IntKind.i64.wrap (((i : Nat) : Int) + 1) = ((i + 1 : Nat) : Int) := (IntWalk.i64_in _ (by omega)).trans (by omega); exact run_eqv (by kernel_rfl) (congrArg (fun z => Value.int .i64 z) hw)) ?_
        refine SL.v (.int .i64 ((i + 1 : Nat) : Int)) ?_
        refine SL.nil ?_
        exact ⟨_, ⟨i + 1, t, rfl, hs_15, (by omega), (by omega), (by rw [chg_eq (.inr (by omega))]; exact ht), (by kernel_rfl), (by kernel_rfl), (by kernel_rfl), (by kernel_rfl)⟩, by omega⟩
      · try rw [hb_19]
        have hqhb_19 := beq_false_ne hb_19
        refine CW.cond_true (by kernel_rfl) ?_
        refine CW.region ?_
        refine SL.v (.int .i64 ((t : Nat) : Int)) ?_
        refine SL.val (v := .int .i64 ((t + 1 : Nat) : Int)) (w' := w_14) rfl rfl (by have hw : IntKind.i64.wrap (((t : Nat) : Int) + 1) = ((t + 1 : Nat) : Int) := (IntWalk.i64_in _ (by omega)).trans (by omega); exact run_eqv (by kernel_rfl) (congrArg (fun z => Value.int .i64 z) hw)) ?_
        refine SL.v (.int .i64 ((t + 1 : Nat) : Int)) ?_
        refine SL.nil ?_
        refine CW.region ?_
        refine SL.v (.int .i64 ((i : Nat) : Int)) ?_
        refine SL.val (v := .int .i64 ((i + 1 : Nat) : Int)) (w' := w_14) rfl rfl (by have hw : IntKind.i64.wrap (((i : Nat) : Int) + 1) = ((i + 1 : Nat) : Int) := (IntWalk.i64_in _ (by omega)).trans (by omega); exact run_eqv (by kernel_rfl) (congrArg (fun z => Value.int .i64 z) hw)) ?_
        refine SL.v (.int .i64 ((i + 1 : Nat) : Int)) ?_
        refine SL.nil ?_
        exact ⟨_, ⟨i + 1, t + 1, rfl, hs_15, (by omega), (by omega), (by rw [chg_ne (by omega) (by omega), ht]), (by kernel_rfl), (by kernel_rfl), (by kernel_rfl), (by kernel_rfl)⟩, by omega⟩
  · try rw [hb_11]
    have hqhb_11 := of_decide_eq_false hb_11
    refine CW.cond_false (by kernel_rfl) ?_
    refine CW.exit ?_
    repeat with_reducible first | refine PThen.exit ?_ | refine PBlock.out rfl ?_
    with_reducible refine PBlock.here ?_
    repeat with_reducible refine PBlock.normal ?_
    refine CW.seq ?_
    refine CW.region ?_
    refine SL.v (.int .i64 ((t : Nat) : Int)) ?_
    refine SL.v (.int .i64 ((t : Nat) : Int)) ?_
    refine SL.nil ?_
    refine CW.ret ?_
    repeat with_reducible first | refine PThen.ret ?_ | refine PBlock.ret ?_
    refine PRet.tmp (t := 2) (v := .int .i64 ((t : Nat) : Int)) rfl rfl (by kernel_rfl) ?_
    have he_ : chg l i = chg l l.length := by
      rcases Nat.eq_zero_or_pos l.length with h0 | h0
      · rw [h0, show i = 1 by omega]; rfl
      · rw [show i = l.length by omega]
    rw [he_] at ht
    subst ht
    exact ⟨_, _, rfl, ⟨rfl, rfl⟩, hs_4.pick [0] rfl⟩
set_option maxRecDepth 100000 in
set_option maxHeartbeats 4000000 in
theorem msteps_f (ao : Option Addr) (co : Nat) (O : List LE) (w : World) (hO : OutAt w ao O) (hLI : LI O w) (hn9 : O.length ≤ 1000) (ht9 : totQ (headsF 0 O) ≤ 100000) : Calls Try.prog 10 #[.slice ao O.length co] w fun e w' => ∃ ps, e = .returned (.int .i64 ((chg ps ps.length : Nat) : Int)) ∧ MRel (headsF 0 O) (ordP ps) ∧ Gr w w' := by
  refine calls_sx (n := 28) (args := [.slice ao O.length co]) Try.func10 rfl rfl rfl ?_
  have hs0 := SH.none w
  refine CW.seq ?_
  refine CW.region ?_
  refine SL.v (.int .i64 0) ?_
  refine SL.nil ?_
  refine CW.seq ?_
  refine CW.region ?_
  refine SL.v (.int .i64 0) ?_
  refine SL.v (.int .i64 (-1)) ?_
  refine SL.nil ?_
  refine CW.seq ?_
  refine CW.seq ?_
  refine CW.region ?_
  refine SL.v (.slice ao O.length co) ?_
  refine SL.callH (f := 7) (args := #[.slice ao O.length co]) (Pre := []) (Rest := []) [] hs0 rfl rfl (by kernel_rfl) rfl (merge_f ao co O w (hO.gr hs0.gr) (hLI.gr hs0.gr) hn9 ht9) ?_
  rintro v_ Q_ w_6 ⟨a_1, c_2, ps_3, rfl, hr_4, hl_5, rfl⟩ hs_8
  have hs_8 : SH [] w w_6 [rowH 39 10 a_1 (ps_3).length c_2 (pcells ps_3), allH ((ps_3).map clH)] := hs_8
  have hpl9 : ps_3.length ≤ 100000 := by rw [hl_5]; exact ht9
  refine SL.val (v := .int .i64 (((ps_3).length : Nat) : Int)) (w' := w_6) rfl rfl (by kernel_rfl) ?_
  refine SL.v (.int .i64 0) ?_
  refine SL.nil ?_
  refine CW.block ?_
  have hs_9 := hs_8.pick [0] rfl
  refine CW.loopI (fun m_ e9 w9 => ∃ (k : Nat), ∃ (t : Nat), ∃ (last : Int), m_ = ps_3.length - k ∧ SH [] w w9 [rowH 39 10 a_1 (ps_3).length c_2 (pcells ps_3)] ∧ (k ≤ ps_3.length) ∧ (t = chg ps_3 k) ∧ ((k = 0 ∧ last = -1) ∨ (0 < k ∧ last = (((ps_3.getD (k - 1) pl0).n : Nat) : Int))) ∧ e9 2 = .int .i64 0 ∧ e9 3 = .int .i64 ((t : Nat) : Int) ∧ e9 4 = .int .i64 last ∧ e9 8 = .slice a_1 ((ps_3).length) c_2 ∧ e9 9 = .int .i64 (((ps_3).length : Nat) : Int) ∧ e9 10 = .int .i64 ((k : Nat) : Int)) ⟨_, 0, 0, (-1), rfl, hs_9, (Nat.zero_le _), rfl, (.inl ⟨rfl, rfl⟩), (by kernel_rfl), (by kernel_rfl), (by kernel_rfl), (by kernel_rfl), (by kernel_rfl), (by kernel_rfl)⟩ ?_
  rintro m_10 e_11 w_12 ⟨k, t, last, hm_14, hs_13, hk, ht, hla, hv_15, hv_16, hv_17, hv_18, hv_19, hv_20⟩
  obtain ⟨e_21, rfl⟩ : ∃ e_21, e_11 = put1 (put1 (put1 (put1 (put1 (put1 e_21 2 (.int .i64 0)) 3 (.int .i64 ((t : Nat) : Int))) 4 (.int .i64 last)) 8 (.slice a_1 ((ps_3).length) c_2)) 9 (.int .i64 (((ps_3).length : Nat) : Int))) 10 (.int .i64 ((k : Nat) : Int)) := ⟨e_11, (put_self hv_20).trans (congrArg (fun z => put1 z 10 (.int .i64 ((k : Nat) : Int))) ((put_self hv_19).trans (congrArg (fun z => put1 z 9 (.int .i64 (((ps_3).length : Nat) : Int))) ((put_self hv_18).trans (congrArg (fun z => put1 z 8 (.slice a_1 ((ps_3).length) c_2)) ((put_self hv_17).trans (congrArg (fun z => put1 z 4 (.int .i64 last)) ((put_self hv_16).trans (congrArg (fun z => put1 z 3 (.int .i64 ((t : Nat) : Int))) (put_self hv_15))))))))))⟩
  clear hv_15 hv_16 hv_17 hv_18 hv_19 hv_20
  have hcl_ := chg_le ps_3 k
  refine CW.seq ?_
  refine CW.region ?_
  refine SL.v (.bool (decide (((k : Nat) : Int) < (((ps_3).length : Nat) : Int)))) ?_
  refine SL.nil ?_
  refine CW.seq ?_
  rcases Bool.eq_false_or_eq_true (decide (((k : Nat) : Int) < (((ps_3).length : Nat) : Int))) with hb_22 | hb_22
  · try rw [hb_22]
    have hqhb_22 := of_decide_eq_true hb_22
    refine CW.cond_true (by kernel_rfl) ?_
    refine CW.skip ?_
    refine CW.seq ?_
    refine CW.block ?_
    refine CW.seq ?_
    refine CW.region ?_
    obtain ⟨g_23, ha_24⟩ := hs_13.row_some (i := 0) rfl (show 0 < (ps_3).length by omega)
    refine SL.val (v := .pointer (some ⟨g_23, k * 10, none⟩)) (w' := w_12) rfl rfl (run_ixR (len := (ps_3).length) (cap := c_2) (q := .i64) (I := ((k : Nat) : Int)) (i := k) (size := 10) ha_24 rfl (by kernel_rfl) (by kernel_rfl) rfl (by kernel_rfl) (by kernel_rfl) (by omega)) ?_
    refine SL.load (g := g_23) (off := k * 10) (v := .agg #[.int .i64 ((ps_3.getD k pl0).x.at_), .int .i64 ((ps_3.getD k pl0).x.kd), .slice ((ps_3.getD k pl0).a) ((ps_3.getD k pl0).x.bs.length) ((ps_3.getD k pl0).c), .int .i64 ((ps_3.getD k pl0).x.k0), .int .u8 ((ps_3.getD k pl0).x.k1), .bool ((ps_3.getD k pl0).x.k2), .bool ((ps_3.getD k pl0).x.k3), .int .i64 ((ps_3.getD k pl0).x.rw_), .int .i64 ((ps_3.getD k pl0).x.cl), .int .i64 (((ps_3.getD k pl0).n : Nat) : Int)]) rfl rfl rfl (by kernel_rfl) (hs_13.row_blk (i := 0) ha_24 rfl) (ldV_row (k := 10) (by kernel_rfl) (by kernel_rfl) (hs_13.row_many (i := 0) ha_24 rfl (pcells_part (i := k) (j := 0) (by omega) rfl rfl) rfl) rfl rfl) ?_
    refine SL.newH (mk := fun g => .pointer (some ⟨g, 0, none⟩)) (C := #[.int .i64 0, .int .i64 0, .slice none 0 0, .int .i64 0, .int .u8 0, .bool false, .bool false, .int .i64 0, .int .i64 0, .int .i64 0]) (T := 39) hs_13 rfl rfl (by kernel_rfl) (fun g_25 w_26 hs_27 => ?_)
    have hs_27 : SH [] w w_26 [rowH 39 10 a_1 (ps_3).length c_2 (pcells ps_3), pt g_25 #[.int .i64 0, .int .i64 0, .slice none 0 0, .int .i64 0, .int .u8 0, .bool false, .bool false, .int .i64 0, .int .i64 0, .int .i64 0] 39] := hs_27
    refine SL.storeH (i := 1) (g := g_25) (off := 0) (v := .agg #[.int .i64 ((ps_3.getD k pl0).x.at_), .int .i64 ((ps_3.getD k pl0).x.kd), .slice ((ps_3.getD k pl0).a) ((ps_3.getD k pl0).x.bs.length) ((ps_3.getD k pl0).c), .int .i64 ((ps_3.getD k pl0).x.k0), .int .u8 ((ps_3.getD k pl0).x.k1), .bool ((ps_3.getD k pl0).x.k2), .bool ((ps_3.getD k pl0).x.k3), .int .i64 ((ps_3.getD k pl0).x.rw_), .int .i64 ((ps_3.getD k pl0).x.cl), .int .i64 (((ps_3.getD k pl0).n : Nat) : Int)]) (L' := [rowH 39 10 a_1 (ps_3).length c_2 (pcells ps_3), pt g_25 #[.int .i64 ((ps_3.getD k pl0).x.at_), .int .i64 ((ps_3.getD k pl0).x.kd), .slice ((ps_3.getD k pl0).a) ((ps_3.getD k pl0).x.bs.length) ((ps_3.getD k pl0).c), .int .i64 ((ps_3.getD k pl0).x.k0), .int .u8 ((ps_3.getD k pl0).x.k1), .bool ((ps_3.getD k pl0).x.k2), .bool ((ps_3.getD k pl0).x.k3), .int .i64 ((ps_3.getD k pl0).x.rw_), .int .i64 ((ps_3.getD k pl0).x.cl), .int .i64 (((ps_3.getD k pl0).n : Nat) : Int)] 39]) hs_27 rfl rfl rfl (by kernel_rfl) (by kernel_rfl) rfl (by kernel_rfl) (by kernel_rfl) rfl (by kernel_rfl) rfl (fun w_28 hs_29 => ?_)
    refine SL.nil ?_
    refine CW.seq ?_
    refine CW.seq ?_
    refine CW.region ?_
    refine SL.v (.int .i64 last) ?_
    refine SL.v (.bool (decide (0 ≤ last))) ?_
    refine SL.v (.bool (decide (0 ≤ last))) ?_
    rcases Bool.eq_false_or_eq_true (decide (0 ≤ last)) with hb_30 | hb_30
    · try rw [hb_30]
      have hqhb_30 := of_decide_eq_true hb_30
      refine SL.go ?_
      refine SL.v (.pointer (some ⟨g_25, 9, none⟩)) ?_
      refine SL.go ?_
      refine SL.load (g := g_25) (off := 9) (v := .int .i64 (((ps_3.getD k pl0).n : Nat) : Int)) rfl rfl rfl (by kernel_rfl) (hs_29.pt_at (i := 1) rfl) (by kernel_rfl) ?_
      refine SL.go ?_
      refine SL.v (.int .i64 last) ?_
      refine SL.go ?_
      refine SL.v (.bool (!((((ps_3.getD k pl0).n : Nat) : Int) == last))) ?_
      refine SL.v (.bool (!((((ps_3.getD k pl0).n : Nat) : Int) == last))) ?_
      refine SL.nil ?_
      rcases Bool.eq_false_or_eq_true ((((ps_3.getD k pl0).n : Nat) : Int) == last) with hb_31 | hb_31
      · try rw [hb_31]
        have hqhb_31 := eq_of_beq hb_31
        refine CW.cond_false (by kernel_rfl) ?_
        refine CW.skip ?_
        refine CW.region ?_
        refine SL.v (.pointer (some ⟨g_25, 9, none⟩)) ?_
        refine SL.load (g := g_25) (off := 9) (v := .int .i64 (((ps_3.getD k pl0).n : Nat) : Int)) rfl rfl rfl (by kernel_rfl) (hs_29.pt_at (i := 1) rfl) (by kernel_rfl) ?_
        refine SL.v (.int .i64 (((ps_3.getD k pl0).n : Nat) : Int)) ?_
        refine SL.nil ?_
        refine CW.region ?_
        refine SL.val (v := .int .i64 ((k + 1 : Nat) : Int)) (w' := w_28) rfl rfl (by have hw : IntKind.i64.wrap (((k : Nat) : Int) + 1) = ((k + 1 : Nat) : Int) := (IntWalk.i64_in _ (by omega)).trans (by omega); exact run_eqv (by kernel_rfl) (congrArg (fun z => Value.int .i64 z) hw)) ?_
        refine SL.v (.int .i64 ((k + 1 : Nat) : Int)) ?_
        refine SL.nil ?_
        exact ⟨_, ⟨k + 1, t, (((ps_3.getD k pl0).n : Nat) : Int), rfl, (hs_29.pick [0] rfl), (by omega), (by rw [chg_eq (.inr (by omega))]; exact ht), (.inr ⟨Nat.succ_pos _, by rw [Nat.add_sub_cancel]⟩), (by kernel_rfl), (by kernel_rfl), (by kernel_rfl), (by kernel_rfl), (by kernel_rfl), (by kernel_rfl)⟩, by omega⟩
      · try rw [hb_31]
        have hqhb_31 := beq_false_ne hb_31
        refine CW.cond_true (by kernel_rfl) ?_
        refine CW.region ?_
        refine SL.v (.int .i64 ((t : Nat) : Int)) ?_
        refine SL.val (v := .int .i64 ((t + 1 : Nat) : Int)) (w' := w_28) rfl rfl (by have hw : IntKind.i64.wrap (((t : Nat) : Int) + 1) = ((t + 1 : Nat) : Int) := (IntWalk.i64_in _ (by omega)).trans (by omega); exact run_eqv (by kernel_rfl) (congrArg (fun z => Value.int .i64 z) hw)) ?_
        refine SL.v (.int .i64 ((t + 1 : Nat) : Int)) ?_
        refine SL.nil ?_
        refine CW.region ?_
        refine SL.v (.pointer (some ⟨g_25, 9, none⟩)) ?_
        refine SL.load (g := g_25) (off := 9) (v := .int .i64 (((ps_3.getD k pl0).n : Nat) : Int)) rfl rfl rfl (by kernel_rfl) (hs_29.pt_at (i := 1) rfl) (by kernel_rfl) ?_
        refine SL.v (.int .i64 (((ps_3.getD k pl0).n : Nat) : Int)) ?_
        refine SL.nil ?_
        refine CW.region ?_
        refine SL.val (v := .int .i64 ((k + 1 : Nat) : Int)) (w' := w_28) rfl rfl (by have hw : IntKind.i64.wrap (((k : Nat) : Int) + 1) = ((k + 1 : Nat) : Int) := (IntWalk.i64_in _ (by omega)).trans (by omega); exact run_eqv (by kernel_rfl) (congrArg (fun z => Value.int .i64 z) hw)) ?_
        refine SL.v (.int .i64 ((k + 1 : Nat) : Int)) ?_
        refine SL.nil ?_
        exact ⟨_, ⟨k + 1, t + 1, (((ps_3.getD k pl0).n : Nat) : Int), rfl, (hs_29.pick [0] rfl), (by omega), (by rw [chg_ne (by omega) (by omega), ht]), (.inr ⟨Nat.succ_pos _, by rw [Nat.add_sub_cancel]⟩), (by kernel_rfl), (by kernel_rfl), (by kernel_rfl), (by kernel_rfl), (by kernel_rfl), (by kernel_rfl)⟩, by omega⟩
    · try rw [hb_30]
      have hqhb_30 := of_decide_eq_false hb_30
      refine SL.no false ?_
      refine SL.no false ?_
      refine SL.no false ?_
      refine SL.no false ?_
      refine SL.v (.bool false) ?_
      refine SL.nil ?_
      refine CW.cond_false (by kernel_rfl) ?_
      refine CW.skip ?_
      refine CW.region ?_
      refine SL.v (.pointer (some ⟨g_25, 9, none⟩)) ?_
      refine SL.load (g := g_25) (off := 9) (v := .int .i64 (((ps_3.getD k pl0).n : Nat) : Int)) rfl rfl rfl (by kernel_rfl) (hs_29.pt_at (i := 1) rfl) (by kernel_rfl) ?_
      refine SL.v (.int .i64 (((ps_3.getD k pl0).n : Nat) : Int)) ?_
      refine SL.nil ?_
      refine CW.region ?_
      refine SL.val (v := .int .i64 ((k + 1 : Nat) : Int)) (w' := w_28) rfl rfl (by have hw : IntKind.i64.wrap (((k : Nat) : Int) + 1) = ((k + 1 : Nat) : Int) := (IntWalk.i64_in _ (by omega)).trans (by omega); exact run_eqv (by kernel_rfl) (congrArg (fun z => Value.int .i64 z) hw)) ?_
      refine SL.v (.int .i64 ((k + 1 : Nat) : Int)) ?_
      refine SL.nil ?_
      exact ⟨_, ⟨k + 1, t, (((ps_3.getD k pl0).n : Nat) : Int), rfl, (hs_29.pick [0] rfl), (by omega), (by rw [chg_eq (.inl (by omega))]; exact ht), (.inr ⟨Nat.succ_pos _, by rw [Nat.add_sub_cancel]⟩), (by kernel_rfl), (by kernel_rfl), (by kernel_rfl), (by kernel_rfl), (by kernel_rfl), (by kernel_rfl)⟩, by omega⟩
  · try rw [hb_22]
    have hqhb_22 := of_decide_eq_false hb_22
    refine CW.cond_false (by kernel_rfl) ?_
    refine CW.exit ?_
    repeat with_reducible first | refine PThen.exit ?_ | refine PBlock.out rfl ?_
    with_reducible refine PBlock.here ?_
    repeat with_reducible refine PBlock.normal ?_
    refine CW.seq ?_
    refine CW.region ?_
    refine SL.v (.int .i64 ((t : Nat) : Int)) ?_
    refine SL.v (.int .i64 ((t : Nat) : Int)) ?_
    refine SL.nil ?_
    refine CW.ret ?_
    repeat with_reducible first | refine PThen.ret ?_ | refine PBlock.ret ?_
    refine PRet.tmp (t := 2) (v := .int .i64 ((t : Nat) : Int)) rfl rfl (by kernel_rfl) ?_
    have hk_ : k = ps_3.length := by omega
    rw [hk_] at ht
    subst ht
    exact ⟨ps_3, rfl, hr_4, hs_13.gr⟩
end Go.Proofs.Ytaelmkkobjdgbaa

namespace Go.Proofs.Ytaelmkkobjdgbaa
set_option linter.unusedSimpArgs false
set_option linter.unusedVariables false
open Go.RowKit
set_option linter.unusedVariables false

/-! ### one's own row of lists -/
def lC1 (e : LE) : List Value := [lC e]
def ncells (l : List LE) : List Value := flC lC1 l
theorem lC1_len (p : LE) : (lC1 p).length = 1 := rfl
theorem ncells_len (l : List LE) : (ncells l).length = l.length * 1 := flC_len lC1_len l
theorem ncells_app (l m : List LE) : ncells l ++ ncells m = ncells (l ++ m) := flC_app l m
theorem ncells_get {l : List LE} {i j : Nat} {v : Value} (h : i < l.length) (hj : (lC1 (l.getD i le0))[j]? = some v) : (ncells l)[i * 1 + j]? = some v := by
  unfold ncells
  exact flC_get (f := lC1) (d := le0) lC1_len h hj
theorem ncells_one (l : List LE) : ∀ v ∈ ncells l, v.oneCell' = true := flC_one (fun x v hv => by
  simp [lC1] at hv
  subst hv
  rfl) l
theorem ncells_eq : ∀ l : List LE, ncells l = lcells l
  | [] => rfl
  | e :: l => by
    have ih := ncells_eq l
    show lC1 e ++ ncells l = lC e :: lcells l
    rw [ih]
    rfl
theorem srcF {P : Program} {w : World} {t el : TypeId} (ht : P.underlying t = some (.slice el)) {a : Option Addr} {c : Nat} {Ls : List LE} (h : OutAt w a Ls) : Src P 1 t (.slice a Ls.length c) Ls.length (ncells Ls) w := by
  rcases Nat.eq_zero_or_pos Ls.length with h0 | h0
  · have : Ls = [] := List.eq_nil_of_length_eq_zero h0
    subst this
    cases a with
    | none => exact Src.ofNil w ht c
    | some x => exact Src.ofSlice w ht x 0 c [] rfl (fun j v hj => by simp at hj) (by simp)
  · obtain ⟨b, off, C, T, fr, rfl, hb, hc⟩ := h h0
    refine srcH ht hb ?_ (by rw [ncells_len]) (ncells_one Ls)
    rw [ncells_eq, Nat.mul_one]
    refine List.ext_getElem? fun k => ?_
    rw [List.getElem?_take, List.getElem?_drop, Array.getElem?_toList]
    unfold lcells
    rw [List.getElem?_map]
    by_cases hk : k < Ls.length
    · rw [if_pos hk, hc k hk, List.getD_eq_getElem?_getD, List.getElem?_eq_getElem hk]
      rfl
    · rw [if_neg hk, List.getElem?_eq_none (by omega)]
      rfl
/-! ### what is left of a list -/
def LE.tl (e : LE) : LE := ⟨some ⟨(e.a.getD ⟨0, 0, none⟩).block, if e.c = 1 then (e.a.getD ⟨0, 0, none⟩).off else (e.a.getD ⟨0, 0, none⟩).off + 9, none⟩, e.c - 1, e.xs.tail⟩
theorem LE.qe_tl (e : LE) (n : Nat) : e.tl.qe n = tailE (e.qe n) := rfl
def LFc (Ls : List LE) (w : World) : Prop := LF Ls w ∧ ∀ e ∈ Ls, 0 < e.xs.length → e.xs.length ≤ e.c
theorem lfc_set {Ls : List LE} {w : World} {n : Nat} (h : LFc Ls w) (hn : n < Ls.length) (h0 : 0 < (Ls.getD n le0).xs.length) : LFc (Ls.set n (Ls.getD n le0).tl) w := by
  obtain ⟨h1, h2⟩ := h
  have hm := getD_mem hn
  obtain ⟨ha, hd⟩ := h1 _ hm
  obtain ⟨b, off, hb, hr⟩ := ha h0
  have hc := h2 _ hm h0
  have hl : (Ls.getD n le0).tl.xs.length = (Ls.getD n le0).xs.length - 1 := List.length_tail
  refine ⟨fun e he => ?_, fun e he h3 => ?_⟩
  · rcases List.mem_or_eq_of_mem_set he with he | rfl
    · exact h1 e he
    · refine ⟨fun h3 => ⟨b, off + 9, ?_, ?_⟩, fun x hx => hd x (List.mem_of_mem_tail hx)⟩
      · show some (⟨((Ls.getD n le0).a.getD ⟨0, 0, none⟩).block, if (Ls.getD n le0).c = 1 then ((Ls.getD n le0).a.getD ⟨0, 0, none⟩).off else ((Ls.getD n le0).a.getD ⟨0, 0, none⟩).off + 9, none⟩ : Addr) = _
        rw [if_neg (by omega), hb]
        rfl
      · obtain ⟨C, T, fr, hC, hi⟩ := hr
        refine ⟨C, T, fr, hC, fun i hi2 => ?_⟩
        show _ = itC ((Ls.getD n le0).xs.tail.getD i itm0)
        rw [tail_getD, ← hi (i + 1) (by omega)]
        congr 2
        omega
  · rcases List.mem_or_eq_of_mem_set he with he | rfl
    · exact h2 e he h3
    · show (Ls.getD n le0).xs.tail.length ≤ (Ls.getD n le0).c - 1
      have : (Ls.getD n le0).xs.tail.length = (Ls.getD n le0).xs.length - 1 := List.length_tail
      omega
theorem heads_split {Ls : List LE} {n : Nat} (hn : n < Ls.length) (E : LE) : headsF 0 (Ls.set n E) = headsF 0 (Ls.take n) ++ (if 0 < E.xs.length then E.qe n :: headsF (n + 1) (Ls.drop (n + 1)) else headsF (n + 1) (Ls.drop (n + 1))) := by
  rw [List.set_eq_take_append_cons_drop, if_pos hn, headsF_app, List.length_take, Nat.min_eq_left (by omega), Nat.zero_add]
  rfl
theorem heads_at {Ls : List LE} {n : Nat} (hn : n < Ls.length) (h0 : 0 < (Ls.getD n le0).xs.length) : headsF 0 Ls = headsF 0 (Ls.take n) ++ ((Ls.getD n le0).qe n :: headsF (n + 1) (Ls.drop (n + 1))) := by
  have h := heads_split hn (Ls.getD n le0)
  rw [if_pos h0] at h
  rw [← h]
  congr 1
  rw [List.getD_eq_getElem?_getD, List.getElem?_eq_getElem hn, Option.getD_some, List.set_getElem_self]
theorem headsF_mem : ∀ {l : List LE} {n : Nat} {f : QE}, f ∈ headsF n l → ∃ z, z < l.length ∧ 0 < (l.getD z le0).xs.length ∧ f = (l.getD z le0).qe (n + z)
  | [], n, f, h => by simp [headsF] at h
  | e :: l, n, f, h => by
    have key : f ∈ headsF (n + 1) l → ∃ z, z < (e :: l).length ∧ 0 < ((e :: l).getD z le0).xs.length ∧ f = ((e :: l).getD z le0).qe (n + z) := fun h => by
      obtain ⟨z, h1, h2, h3⟩ := headsF_mem h
      refine ⟨z + 1, by rw [List.length_cons]; omega, h2, ?_⟩
      rw [show n + (z + 1) = n + 1 + z by omega]
      exact h3
    unfold headsF at h
    split at h
    · rename_i hx
      rcases List.mem_cons.1 h with rfl | h
      · exact ⟨0, by simp, hx, rfl⟩
      · exact key h
    · exact key h
theorem heads_nil {l : List LE} (h : ∀ z, z < l.length → ¬ 0 < (l.getD z le0).xs.length) : headsF 0 l = [] := by
  refine List.eq_nil_iff_forall_not_mem.2 fun f hf => ?_
  obtain ⟨z, h1, h2, _⟩ := headsF_mem hf
  exact h z h1 h2
def atL (Ls : List LE) (z : Nat) : Int := ((Ls.getD z le0).xs.getD 0 itm0).at_
theorem heads_tot {Ls : List LE} {n : Nat} (hn : n < Ls.length) (h0 : 0 < (Ls.getD n le0).xs.length) : totQ (headsF 0 Ls) = totQ (headsF 0 (Ls.set n (Ls.getD n le0).tl)) + 1 := by
  have hl : (Ls.getD n le0).tl.xs.length = (Ls.getD n le0).xs.length - 1 := List.length_tail
  rw [heads_at hn h0, heads_split hn]
  have e : ∀ a b : List QE, totQ (a ++ b) = totQ a + totQ b := fun a b => by unfold totQ; rw [List.map_append, List.sum_append]
  have e1 : ((Ls.getD n le0).qe n).xs.length = (Ls.getD n le0).xs.length := rfl
  have e2 : ((Ls.getD n le0).tl.qe n).xs.length = (Ls.getD n le0).tl.xs.length := rfl
  rw [e, totQ_cons, e1]
  split
  · rw [e, totQ_cons, e2]; omega
  · rw [e]; omega
theorem mrel_take {Ls : List LE} {n : Nat} {l : List (Itm × Nat)} (hn : n < Ls.length) (h0 : 0 < (Ls.getD n le0).xs.length)
    (hmin : ∀ z, z < Ls.length → 0 < (Ls.getD z le0).xs.length → (z < n → atL Ls n < atL Ls z) ∧ (n ≤ z → atL Ls n ≤ atL Ls z))
    (h : MRel (headsF 0 (Ls.set n (Ls.getD n le0).tl)) l) : MRel (headsF 0 Ls) (((Ls.getD n le0).xs.getD 0 itm0, n) :: l) := by
  refine MRel.cons (e := (Ls.getD n le0).qe n) (r := headsF 0 (Ls.take n) ++ headsF (n + 1) (Ls.drop (n + 1))) ?_ (fun f hf => ?_) ?_
  · rw [heads_at hn h0]
    exact List.perm_middle
  · obtain ⟨z, h1, h2, rfl⟩ := headsF_mem hf
    rw [keyLt_false, Nat.zero_add]
    obtain ⟨h3, h4⟩ := hmin z h1 h2
    show ¬ (atL Ls z < atL Ls n ∨ (atL Ls z = atL Ls n ∧ z < n))
    omega
  · rw [heads_split hn] at h
    refine h.perm ?_
    rw [← LE.qe_tl]
    show (if 0 < (Ls.getD n le0).tl.xs.length then _ else _ : List QE).Perm _
    split
    · exact List.perm_middle.symm
    · exact List.Perm.refl _
theorem MRel.from {q : List QE} {l : List (Itm × Nat)} (h : MRel q l) : (∀ e ∈ q, 0 < e.xs.length) → ∀ p ∈ l, ∃ e ∈ q, p.1 ∈ e.xs ∧ p.2 = e.n := by
  induction h with
  | nil => intro _ p hp; simp at hp
  | @cons q r e l hp hmin h ih =>
    intro hq p hx
    have he : e ∈ q := hp.mem_iff.2 (by simp)
    rcases List.mem_cons.1 hx with rfl | hx
    · exact ⟨e, he, getDx_mem (hq e he), rfl⟩
    · have key : ∀ f ∈ (if 0 < (tailE e).xs.length then tailE e :: r else r), (f = tailE e ∧ 0 < (tailE e).xs.length) ∨ f ∈ q := fun f hf => by
        split at hf
        · rename_i h1
          rcases List.mem_cons.1 hf with rfl | hf
          · exact .inl ⟨rfl, h1⟩
          · exact .inr (hp.mem_iff.2 (List.mem_cons_of_mem _ hf))
        · exact .inr (hp.mem_iff.2 (List.mem_cons_of_mem _ hf))
      obtain ⟨f, hf, h1, h2⟩ := ih (fun f hf => by
        rcases key f hf with ⟨rfl, h3⟩ | h3
        · exact h3
        · exact hq f h3) p hx
      rcases key f hf with ⟨rfl, _⟩ | h3
      · exact ⟨e, he, List.mem_of_mem_tail h1, h2⟩
      · exact ⟨f, h3, h1, h2⟩
def bI : Nat → Int
  | 0 => -1
  | n + 1 => (n : Int)
theorem bI_cases (n : Nat) : (n = 0 ∧ bI n = -1) ∨ (0 < n ∧ bI n = ((n - 1 : Nat) : Int)) := by
  cases n with
  | zero => exact .inl ⟨rfl, rfl⟩
  | succ n => exact .inr ⟨Nat.succ_pos _, rfl⟩
/-! ### the order is one -/
def bqE (e : QE) : List Itm × Nat := (e.xs.map Itm.bare, e.n)
def bpP (p : Itm × Nat) : Itm × Nat := (p.1.bare, p.2)
theorem bare_head {xs ys : List Itm} (h : xs.map Itm.bare = ys.map Itm.bare) : (xs.getD 0 itm0).bare = (ys.getD 0 itm0).bare := by
  cases xs with
  | nil => cases ys with
    | nil => rfl
    | cons y ys => simp at h
  | cons x xs => cases ys with
    | nil => simp at h
    | cons y ys => simpa using (List.cons.inj h).1
theorem bq_key {e f : QE} (h : bqE e = bqE f) : e.at_ = f.at_ ∧ e.n = f.n := by
  obtain ⟨h1, h2⟩ := Prod.mk.inj h
  exact ⟨by have h3 := congrArg Itm.at_ (bare_head h1); exact h3, h2⟩
theorem MRel.uniq2 : ∀ {q q' : List QE} {l l' : List (Itm × Nat)}, MRel q l → MRel q' l' → (q'.map bqE).Perm (q.map bqE) → numsD q → l.map bpP = l'.map bpP := by
  intro q q' l l' h
  induction h generalizing q' l' with
  | nil =>
    intro h' hp _
    have hq : q' = [] := by
      have := hp.length_eq
      rw [List.length_map] at this
      exact List.eq_nil_of_length_eq_zero (by simpa using this)
    subst hq
    cases h' with
    | nil => rfl
    | cons hp _ _ => exact absurd hp.length_eq (by simp)
  | @cons q r e l hp hmin h ih =>
    intro h' hpp hd
    have hnn : numsD q' := by
      have e1 : ∀ q : List QE, q.map (fun e => e.n) = (q.map bqE).map Prod.snd := fun q => by rw [List.map_map]; rfl
      unfold numsD at hd ⊢
      rw [e1] at hd ⊢
      exact ((hpp.map _).nodup_iff).2 hd
    cases h' with
    | nil =>
      have h1 := hpp.length_eq
      have h2 := hp.length_eq
      simp at h1 h2
      omega
    | @cons _ r' e' l' hp' hmin' h' =>
      have he : e ∈ q := hp.mem_iff.2 (by simp)
      have he' : e' ∈ q' := hp'.mem_iff.2 (by simp)
      obtain ⟨f', hf', hfe'⟩ := List.mem_map.1 (hpp.mem_iff.2 (List.mem_map_of_mem he))
      obtain ⟨f, hf, hfe⟩ := List.mem_map.1 (hpp.mem_iff.1 (List.mem_map_of_mem he'))
      have k1 := hmin f hf
      have k2 := hmin' f' hf'
      rw [keyLt_false] at k1 k2
      obtain ⟨a1, a2⟩ := bq_key hfe
      obtain ⟨b1, b2⟩ := bq_key hfe'
      have hn : f'.n = e'.n := by omega
      have hee : f' = e' := by
        obtain ⟨i, hi, rfl⟩ := List.mem_iff_getElem.1 hf'
        obtain ⟨j, hj, rfl⟩ := List.mem_iff_getElem.1 he'
        have := (List.getElem_inj (i := i) (j := j) (h₀ := by simpa using hi) (h₁ := by simpa using hj) hnn).1 (by simpa using hn)
        subst this
        rfl
      subst hee
      obtain ⟨x1, x2⟩ := Prod.mk.inj hfe'
      have hr : (r'.map bqE).Perm (r.map bqE) := by
        have p1 := (hp'.symm.map bqE).trans (hpp.trans (hp.map bqE))
        rw [List.map_cons, List.map_cons, hfe'] at p1
        exact (List.perm_cons _).1 p1
      have hlen : f'.xs.length = e.xs.length := by simpa using congrArg List.length x1
      have ht : bqE (tailE f') = bqE (tailE e) := by
        show (f'.xs.tail.map Itm.bare, f'.n) = (e.xs.tail.map Itm.bare, e.n)
        rw [List.map_tail, List.map_tail, x1, x2]
      have htl : (tailE f').xs.length = (tailE e).xs.length := by
        show f'.xs.tail.length = e.xs.tail.length
        rw [List.length_tail, List.length_tail, hlen]
      have hd1 : numsD (e :: r) := by
        unfold numsD at hd ⊢
        exact ((hp.map _).nodup_iff).1 hd
      have hrec := ih h' (by
        rw [htl]
        split
        · rw [List.map_cons, List.map_cons, ht]; exact hr.cons _
        · exact hr) (by
        split
        · exact hd1
        · unfold numsD at hd1 ⊢
          rw [List.map_cons, List.nodup_cons] at hd1
          exact hd1.2)
      rw [List.map_cons, List.map_cons, hrec]
      congr 1
      show ((e.xs.getD 0 itm0).bare, e.n) = ((f'.xs.getD 0 itm0).bare, f'.n)
      rw [bare_head x1, x2]
theorem heads_bq : ∀ {O F : List LE} {n : Nat}, O.map bareL = F.map bareL → (headsF n O).map bqE = (headsF n F).map bqE
  | [], [], n, _ => rfl
  | [], f :: F, n, h => by simp at h
  | o :: O, [], n, h => by simp at h
  | o :: O, f :: F, n, h => by
    rw [List.map_cons, List.map_cons] at h
    obtain ⟨h1, h2⟩ := List.cons.inj h
    have ih := heads_bq (n := n + 1) h2
    have hl : o.xs.length = f.xs.length := by simpa [bareL] using congrArg List.length h1
    unfold headsF
    rw [hl]
    split
    · rw [List.map_cons, List.map_cons, ih]
      congr 1
      show (o.xs.map Itm.bare, n) = (f.xs.map Itm.bare, n)
      exact Prod.ext h1 rfl
    · exact ih
theorem row0_ent (g : Nat) (T : TypeId) : Ent [pt g #[] T] (fun R => R = [rowH T 1 (some ⟨g, 0, none⟩) 0 0 []]) := fun w fp h => by
  obtain ⟨f1, f2, rfl, ⟨h1, hb⟩, h2, h3⟩ := h
  subst h1
  exact ⟨_, _, rfl, ⟨[g], f2, rfl, ⟨⟨rfl, .inr ⟨g, 0, #[], rfl, Nat.zero_le _, hb, Nat.le_refl _, Nat.zero_le _, rfl, rfl⟩⟩, rfl⟩, h2, h3⟩, fun k hk => hk⟩
end Go.Proofs.Ytaelmkkobjdgbaa
