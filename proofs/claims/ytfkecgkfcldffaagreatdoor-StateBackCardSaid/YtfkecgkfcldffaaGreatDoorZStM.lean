/-
 The fixed fact of law19; a state that comes in; the laws StateCleans and StateSettings (gen_stm.py).
-/
import Derived.MakeChecks
import Derived.Test.YtfkecgkfcldffaaGreatDoorRows
import Derived.Test.YtfkecgkfcldffaaGreatDoorZLaid
import Derived.Test.YtfkecgkfcldffaaGreatDoorZStI
import Derived.Test.YtfkecgkfcldffaaGreatDoorZStL
import Derived.Test.YtfkecgkfcldffaaGreatDoorZStJ
import Derived.Test.YtfkecgkfcldffaaGreatDoorZFl
namespace Go.Proofs.YtfkecgkfcldffaaGreatDoor
set_option linter.unusedSimpArgs false
set_option linter.unusedVariables false
open Go.ChangeShapes Go.WideShapes Go.RowKit
set_option linter.unusedVariables false

theorem tabT_met19 {w : World} {rest : List (String × DataW Unit)} (h : laidMet Tryz.prog (("internal/strconv.uint64pow10", Rows.laid_internal_strconv_uint64pow10) :: rest) w) : tabT w :=
 tabIs_head2 (g := 1) (by rfl) (by kernel_rfl) (by kernel_rfl) Tryz.underlying184 (by kernel_rfl) (by kernel_rfl) (by kernel_rfl) h
/-- What is known of a state that comes in: all but that its modes fit. -/
structure Cor.In (c : Cor) : Prop where
 ok : ∀ m, 0 ≤ m ∧ m < 4294967296 → ({ c with modes := m } : Cor).Ok
theorem i6w {x : Int} (h : -9223372036854775808 ≤ x ∧ x ≤ 9223372036854775807) : I6 x := h
set_option maxRecDepth 100000 in
theorem open_cor {H : Type} {enc : TypeId × Value → H} {w : World} {base b0 : Nat} {spare : Nat → Bool} {held : Bool} {r : Reach} {v : Value} {d : DataW H} {p : List MemPlace} {X : Prop}
  (hv : Value.okWide Tryz.prog w r b0 33 v) (h : DataW.Trod enc Tryz.prog w base spare held 33 v d p) (hs : X) : ∃ c : Cor, v = c.d ∧ c.In := by
 obtain ⟨cs, rfl, hsz⟩ := okWide_struct Tryz.underlying33 hv
 obtain ⟨l⟩ := cs
 have hC : Tryz.prog.cellsOf 33 = 29 := by kernel_rfl
 match l, hsz.trans hC with
 | [x0, x1, x2, x3, x4, x5, x6, x7, x8, x9, x10, x11, x12, x13, x14, x15, x16, x17, x18, x19, x20, x21, x22, x23, x24, x25, x26, x27, x28], _ =>
  obtain ⟨fuel, hf⟩ := h
  obtain ⟨y0, e0, n0, f0, g0⟩ := flat_at 8 _ 0 (some .i64) fuel _ _ (by kernel_rfl) hf
  obtain rfl : x0 = _ := (Option.some.inj e0).trans f0
  have g0 := bounds_i64 g0
  obtain ⟨y1, e1, n1, f1, g1⟩ := flat_at 8 _ 1 (some .i64) fuel _ _ (by kernel_rfl) hf
  obtain rfl : x1 = _ := (Option.some.inj e1).trans f1
  have g1 := bounds_i64 g1
  obtain ⟨y2, e2, n2, f2, g2⟩ := flat_at 8 _ 2 (some .u8) fuel _ _ (by kernel_rfl) hf
  obtain rfl : x2 = _ := (Option.some.inj e2).trans f2
  have g2 := bounds_u8 g2
  obtain ⟨y3, e3, n3, f3⟩ := flat_at 8 _ 3 none fuel _ _ (by kernel_rfl) hf
  obtain rfl : x3 = _ := (Option.some.inj e3).trans f3
  obtain ⟨y4, e4, n4, f4⟩ := flat_at 8 _ 4 none fuel _ _ (by kernel_rfl) hf
  obtain rfl : x4 = _ := (Option.some.inj e4).trans f4
  obtain ⟨y5, e5, n5, f5⟩ := flat_at 8 _ 5 none fuel _ _ (by kernel_rfl) hf
  obtain rfl : x5 = _ := (Option.some.inj e5).trans f5
  obtain ⟨y6, e6, n6, f6, g6⟩ := flat_at 8 _ 6 (some .i64) fuel _ _ (by kernel_rfl) hf
  obtain rfl : x6 = _ := (Option.some.inj e6).trans f6
  have g6 := bounds_i64 g6
  obtain ⟨y7, e7, n7, f7, g7⟩ := flat_at 8 _ 7 (some .i64) fuel _ _ (by kernel_rfl) hf
  obtain rfl : x7 = _ := (Option.some.inj e7).trans f7
  have g7 := bounds_i64 g7
  obtain ⟨y8, e8, n8, f8, g8⟩ := flat_at 8 _ 8 (some .i64) fuel _ _ (by kernel_rfl) hf
  obtain rfl : x8 = _ := (Option.some.inj e8).trans f8
  have g8 := bounds_i64 g8
  obtain ⟨y9, e9, n9, f9, g9⟩ := flat_at 8 _ 9 (some .i64) fuel _ _ (by kernel_rfl) hf
  obtain rfl : x9 = _ := (Option.some.inj e9).trans f9
  have g9 := bounds_i64 g9
  obtain ⟨y10, e10, n10, f10, g10⟩ := flat_at 8 _ 10 (some .i64) fuel _ _ (by kernel_rfl) hf
  obtain rfl : x10 = _ := (Option.some.inj e10).trans f10
  have g10 := bounds_i64 g10
  obtain ⟨y11, e11, n11, f11, g11⟩ := flat_at 8 _ 11 (some .i64) fuel _ _ (by kernel_rfl) hf
  obtain rfl : x11 = _ := (Option.some.inj e11).trans f11
  have g11 := bounds_i64 g11
  obtain ⟨y12, e12, n12, f12, g12⟩ := flat_at 8 _ 12 (some .i64) fuel _ _ (by kernel_rfl) hf
  obtain rfl : x12 = _ := (Option.some.inj e12).trans f12
  have g12 := bounds_i64 g12
  obtain ⟨y13, e13, n13, f13, g13⟩ := flat_at 8 _ 13 (some .i64) fuel _ _ (by kernel_rfl) hf
  obtain rfl : x13 = _ := (Option.some.inj e13).trans f13
  have g13 := bounds_i64 g13
  obtain ⟨y14, e14, n14, f14, g14⟩ := flat_at 8 _ 14 (some .i64) fuel _ _ (by kernel_rfl) hf
  obtain rfl : x14 = _ := (Option.some.inj e14).trans f14
  have g14 := bounds_i64 g14
  obtain ⟨y15, e15, n15, f15, g15⟩ := flat_at 8 _ 15 (some .i64) fuel _ _ (by kernel_rfl) hf
  obtain rfl : x15 = _ := (Option.some.inj e15).trans f15
  have g15 := bounds_i64 g15
  obtain ⟨y16, e16, n16, f16, g16⟩ := flat_at 8 _ 16 (some .i64) fuel _ _ (by kernel_rfl) hf
  obtain rfl : x16 = _ := (Option.some.inj e16).trans f16
  have g16 := bounds_i64 g16
  obtain ⟨y17, e17, n17, f17, g17⟩ := flat_at 8 _ 17 (some .i64) fuel _ _ (by kernel_rfl) hf
  obtain rfl : x17 = _ := (Option.some.inj e17).trans f17
  have g17 := bounds_i64 g17
  obtain ⟨y18, e18, n18, f18, g18⟩ := flat_at 8 _ 18 (some .i64) fuel _ _ (by kernel_rfl) hf
  obtain rfl : x18 = _ := (Option.some.inj e18).trans f18
  have g18 := bounds_i64 g18
  obtain ⟨y19, e19, n19, f19, g19⟩ := flat_at 8 _ 19 (some .i64) fuel _ _ (by kernel_rfl) hf
  obtain rfl : x19 = _ := (Option.some.inj e19).trans f19
  have g19 := bounds_i64 g19
  obtain ⟨y20, e20, n20, f20, g20⟩ := flat_at 8 _ 20 (some .i64) fuel _ _ (by kernel_rfl) hf
  obtain rfl : x20 = _ := (Option.some.inj e20).trans f20
  have g20 := bounds_i64 g20
  obtain ⟨y21, e21, n21, f21, g21⟩ := flat_at 8 _ 21 (some .i64) fuel _ _ (by kernel_rfl) hf
  obtain rfl : x21 = _ := (Option.some.inj e21).trans f21
  have g21 := bounds_i64 g21
  obtain ⟨y22, e22, n22, f22, g22⟩ := flat_at 8 _ 22 (some .i64) fuel _ _ (by kernel_rfl) hf
  obtain rfl : x22 = _ := (Option.some.inj e22).trans f22
  have g22 := bounds_i64 g22
  obtain ⟨y23, e23, n23, f23⟩ := flat_at 8 _ 23 none fuel _ _ (by kernel_rfl) hf
  obtain rfl : x23 = _ := (Option.some.inj e23).trans f23
  obtain ⟨y24, e24, n24, f24⟩ := flat_at 8 _ 24 none fuel _ _ (by kernel_rfl) hf
  obtain rfl : x24 = _ := (Option.some.inj e24).trans f24
  obtain ⟨y25, e25, n25, f25, g25⟩ := flat_at 8 _ 25 (some .i64) fuel _ _ (by kernel_rfl) hf
  obtain rfl : x25 = _ := (Option.some.inj e25).trans f25
  have g25 := bounds_i64 g25
  obtain ⟨y26, e26, n26, f26⟩ := flat_at 8 _ 26 none fuel _ _ (by kernel_rfl) hf
  obtain rfl : x26 = _ := (Option.some.inj e26).trans f26
  obtain ⟨y27, e27, n27, f27, g27⟩ := flat_at 8 _ 27 (some .i64) fuel _ _ (by kernel_rfl) hf
  obtain rfl : x27 = _ := (Option.some.inj e27).trans f27
  have g27 := bounds_i64 g27
  obtain ⟨y28, e28, n28, f28, g28⟩ := flat_at 8 _ 28 (some .i64) fuel _ _ (by kernel_rfl) hf
  obtain rfl : x28 = _ := (Option.some.inj e28).trans f28
  have g28 := bounds_i64 g28
  refine ⟨⟨n0, n1, n2, n3, n4, n5, n6, n7, n8, n9, n10, n11, n12, n13, n14, n15, n16, n17, n18, n19, n20, n21, n22, n23, n24, n25, n26, n27, n28⟩, rfl, ⟨fun m hm => ?_⟩⟩
  exact ⟨i6w g0, i6w g1, by simpa using (by omega : 0 ≤ n2 ∧ n2 < 256), ⟨i6w g6, i6w g7, i6w g8, i6w g9⟩, i6w g10, i6w g11, i6w g12, ⟨i6w g13, i6w g14, i6w g15, i6w g16⟩, ⟨i6w g17, i6w g18, i6w g19, i6w g20⟩, hm, i6w g22, i6w g25, i6w g27, i6w g28⟩
theorem new_ok0 : (newC 24 80 3).Ok := newC_ok 24 80 3 (by unfold I6; omega) (by unfold I6; omega) (by unfold I6; omega)
theorem new_num0 : ∀ n ∈ (newC 24 80 3).clean.nums, 0 ≤ n ∧ n ≤ 65535 := by decide +kernel
theorem aw_cur : seqB (curS (newC 24 80 3)) ⟨#[49, 59, 49, 59, 49, 59, 64, 59, 64, 59, 64, 59, 48, 59, 50, 59, 64, 59, 66, 66, 37, 53, 37, 53]⟩ = true := by decide +kernel
theorem aw_rep : seqB (strOf (fmtGo (newC 24 80 3).clean.nums)) ⟨#[53, 59, 48, 59, 48, 59, 50, 57, 52, 56, 59, 48, 59, 48, 59, 48, 59, 48, 59, 48, 59, 50, 52, 59, 56, 48, 59, 48]⟩ = true := by decide +kernel
theorem aw_set : seqB (strOf (fmtR [(newC 24 80 3).clean.mt + 1, (newC 24 80 3).clean.mb]) ++ ⟨#[114]⟩) ⟨#[49, 59, 50, 52, 114]⟩ = true := by decide +kernel
set_option maxRecDepth 100000 in
set_option maxHeartbeats 4000000 in
theorem awake_19 (w : World) (hT : tabT w) : Calls Tryz.prog 5 #[] w fun e w' => e = .returned (.bool true) ∧ Gr w w' := by
 refine calls_sx (n := 25) (args := []) Tryz.func5 rfl rfl rfl ?_
 have hs0 := SH.none w
 refine CW.seq ?_
 refine CW.region ?_
 refine SL.v (.bool false) ?_
 refine SL.nil ?_
 refine CW.seq ?_
 refine CW.region ?_
 refine SL.call (f := 16) (args := #[iv 24, iv 80, iv 3]) (w1 := w) rfl rfl (by kernel_rfl) (snew_any 24 80 3 w) ?_
 rintro x w_1 ⟨rfl, hc_2⟩
 refine ⟨_, rfl, ?_⟩
 have hs_3 := hs0.grow hc_2
 refine SL.newH (mk := fun g => pv g 0) (C := czA) (T := 45) hs_3 rfl rfl (by kernel_rfl) (fun g_4 w_5 hs_6 => ?_)
 have hs_6 : SH [] w w_5 [pt g_4 czA 45] := hs_6
 refine SL.storeH (i := 0) (g := g_4) (off := 0) (v := .agg (cvA (newC 24 80 3))) (L' := [pt g_4 (cvA (newC 24 80 3)) 45]) hs_6 rfl rfl rfl (by kernel_rfl) (by kernel_rfl) rfl (by kernel_rfl) (by kernel_rfl) rfl (by kernel_rfl) rfl (fun w_7 hs_8 => ?_)
 refine SL.nil ?_
 refine CW.seq ?_
 refine CW.region ?_
 refine SL.load (g := g_4) (off := 0) (v := .agg (cvA (newC 24 80 3))) rfl rfl rfl (by kernel_rfl) (hs_8.pt_at (i := 0) rfl) (by kernel_rfl) ?_
 refine SL.call (f := 17) (args := #[.agg (cvA (newC 24 80 3)), .string ⟨#[114]⟩]) (w1 := w_7) rfl rfl (by kernel_rfl) (set_1 (newC 24 80 3) w_7 new_ok0 (hT.gr hs_8.gr)) ?_
 rintro x w_9 ⟨rfl, hc_10⟩
 refine ⟨_, rfl, ?_⟩
 have hs_11 := hs_8.grow hc_10
 refine SL.v (.tuple #[.string (strOf (fmtR [(newC 24 80 3).clean.mt + 1, (newC 24 80 3).clean.mb]) ++ ⟨#[114]⟩), .bool true]) ?_
 refine SL.v (.string (strOf (fmtR [(newC 24 80 3).clean.mt + 1, (newC 24 80 3).clean.mb]) ++ ⟨#[114]⟩)) ?_
 refine SL.v (.bool true) ?_
 refine SL.v (.string (strOf (fmtR [(newC 24 80 3).clean.mt + 1, (newC 24 80 3).clean.mb]) ++ ⟨#[114]⟩)) ?_
 refine SL.v (.bool true) ?_
 refine SL.nil ?_
 refine CW.seq ?_
 refine CW.region ?_
 refine SL.load (g := g_4) (off := 0) (v := .agg (cvA (newC 24 80 3))) rfl rfl rfl (by kernel_rfl) (hs_11.pt_at (i := 0) rfl) (by kernel_rfl) ?_
 refine SL.call (f := 8) (args := #[.agg (cvA (newC 24 80 3))]) (w1 := w_9) rfl rfl (by kernel_rfl) (cur_any (newC 24 80 3) w_9 new_ok0 (hT.gr hs_11.gr)) ?_
 rintro x w_12 ⟨rfl, hc_13⟩
 refine ⟨_, rfl, ?_⟩
 have hs_14 := hs_11.grow hc_13
 refine SL.val (v := .bool (seqB (curS (newC 24 80 3)) ⟨#[49, 59, 49, 59, 49, 59, 64, 59, 64, 59, 64, 59, 48, 59, 50, 59, 64, 59, 66, 66, 37, 53, 37, 53]⟩)) (w' := w_12) rfl rfl (run_streqB (a := curS (newC 24 80 3)) (b := ⟨#[49, 59, 49, 59, 49, 59, 64, 59, 64, 59, 64, 59, 48, 59, 50, 59, 64, 59, 66, 66, 37, 53, 37, 53]⟩) (c := seqB (curS (newC 24 80 3)) ⟨#[49, 59, 49, 59, 49, 59, 64, 59, 64, 59, 64, 59, 48, 59, 50, 59, 64, 59, 66, 66, 37, 53, 37, 53]⟩) rfl (by kernel_rfl) (by kernel_rfl) rfl) ?_
 refine SL.v (.bool (seqB (curS (newC 24 80 3)) ⟨#[49, 59, 49, 59, 49, 59, 64, 59, 64, 59, 64, 59, 48, 59, 50, 59, 64, 59, 66, 66, 37, 53, 37, 53]⟩)) ?_
 have hb_15 : (seqB (curS (newC 24 80 3)) ⟨#[49, 59, 49, 59, 49, 59, 64, 59, 64, 59, 64, 59, 48, 59, 50, 59, 64, 59, 66, 66, 37, 53, 37, 53]⟩) = true := aw_cur
 rw [hb_15]
 refine SL.go ?_
 refine SL.load (g := g_4) (off := 0) (v := .agg (cvA (newC 24 80 3))) rfl rfl rfl (by kernel_rfl) (hs_14.pt_at (i := 0) rfl) (by kernel_rfl) ?_
 refine SL.go ?_
 refine SL.call (f := 15) (args := #[.agg (cvA (newC 24 80 3))]) (w1 := w_12) rfl rfl (by kernel_rfl) (rep_any (newC 24 80 3) w_12 new_ok0 (hT.gr hs_14.gr) new_num0) ?_
 rintro x w_16 ⟨rfl, hc_17⟩
 refine ⟨_, rfl, ?_⟩
 have hs_18 := hs_14.grow hc_17
 refine SL.go ?_
 refine SL.val (v := .bool (seqB (strOf (fmtGo (newC 24 80 3).clean.nums)) ⟨#[53, 59, 48, 59, 48, 59, 50, 57, 52, 56, 59, 48, 59, 48, 59, 48, 59, 48, 59, 48, 59, 50, 52, 59, 56, 48, 59, 48]⟩)) (w' := w_16) rfl rfl (run_streqB (a := strOf (fmtGo (newC 24 80 3).clean.nums)) (b := ⟨#[53, 59, 48, 59, 48, 59, 50, 57, 52, 56, 59, 48, 59, 48, 59, 48, 59, 48, 59, 48, 59, 50, 52, 59, 56, 48, 59, 48]⟩) (c := seqB (strOf (fmtGo (newC 24 80 3).clean.nums)) ⟨#[53, 59, 48, 59, 48, 59, 50, 57, 52, 56, 59, 48, 59, 48, 59, 48, 59, 48, 59, 48, 59, 50, 52, 59, 56, 48, 59, 48]⟩) rfl (by kernel_rfl) (by kernel_rfl) rfl) ?_
 refine SL.v (.bool (seqB (strOf (fmtGo (newC 24 80 3).clean.nums)) ⟨#[53, 59, 48, 59, 48, 59, 50, 57, 52, 56, 59, 48, 59, 48, 59, 48, 59, 48, 59, 48, 59, 50, 52, 59, 56, 48, 59, 48]⟩)) ?_
 refine SL.v (.bool (seqB (strOf (fmtGo (newC 24 80 3).clean.nums)) ⟨#[53, 59, 48, 59, 48, 59, 50, 57, 52, 56, 59, 48, 59, 48, 59, 48, 59, 48, 59, 48, 59, 50, 52, 59, 56, 48, 59, 48]⟩)) ?_
 have hb_19 : (seqB (strOf (fmtGo (newC 24 80 3).clean.nums)) ⟨#[53, 59, 48, 59, 48, 59, 50, 57, 52, 56, 59, 48, 59, 48, 59, 48, 59, 48, 59, 48, 59, 50, 52, 59, 56, 48, 59, 48]⟩) = true := aw_rep
 rw [hb_19]
 refine SL.go ?_
 refine SL.v (.bool true) ?_
 refine SL.v (.bool true) ?_
 refine SL.v (.bool true) ?_
 refine SL.go ?_
 refine SL.v (.string (strOf (fmtR [(newC 24 80 3).clean.mt + 1, (newC 24 80 3).clean.mb]) ++ ⟨#[114]⟩)) ?_
 refine SL.go ?_
 refine SL.val (v := .bool (seqB (strOf (fmtR [(newC 24 80 3).clean.mt + 1, (newC 24 80 3).clean.mb]) ++ ⟨#[114]⟩) ⟨#[49, 59, 50, 52, 114]⟩)) (w' := w_16) rfl rfl (run_streqB (a := strOf (fmtR [(newC 24 80 3).clean.mt + 1, (newC 24 80 3).clean.mb]) ++ ⟨#[114]⟩) (b := ⟨#[49, 59, 50, 52, 114]⟩) (c := seqB (strOf (fmtR [(newC 24 80 3).clean.mt + 1, (newC 24 80 3).clean.mb]) ++ ⟨#[114]⟩) ⟨#[49, 59, 50, 52, 114]⟩) rfl (by kernel_rfl) (by kernel_rfl) rfl) ?_
 refine SL.v (.bool (seqB (strOf (fmtR [(newC 24 80 3).clean.mt + 1, (newC 24 80 3).clean.mb]) ++ ⟨#[114]⟩) ⟨#[49, 59, 50, 52, 114]⟩)) ?_
 refine SL.v (.bool (seqB (strOf (fmtR [(newC 24 80 3).clean.mt + 1, (newC 24 80 3).clean.mb]) ++ ⟨#[114]⟩) ⟨#[49, 59, 50, 52, 114]⟩)) ?_
 refine SL.nil ?_
 refine CW.ret ?_
 repeat with_reducible first | refine PThen.ret ?_ | refine PBlock.ret ?_
 refine PRet.tmp (t := 0) (v := .bool (seqB (strOf (fmtR [(newC 24 80 3).clean.mt + 1, (newC 24 80 3).clean.mb]) ++ ⟨#[114]⟩) ⟨#[49, 59, 50, 52, 114]⟩)) rfl rfl (by kernel_rfl) ?_
 exact ⟨by rw [aw_set], hs_18.gr⟩
theorem small_modes {c : Cor} (h : smallZ c = true) : 0 ≤ c.modes ∧ c.modes < 4294967296 := by
 unfold smallZ at h; simp at h; omega
theorem Cor.In.toOk {c : Cor} (h : c.In) (hs : smallZ c = true) : c.Ok := h.ok c.modes (small_modes hs)
end Go.Proofs.YtfkecgkfcldffaaGreatDoor
